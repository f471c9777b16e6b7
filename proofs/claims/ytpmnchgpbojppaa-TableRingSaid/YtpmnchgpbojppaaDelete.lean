/- slices.Delete of one entry. -/
import Derived.Test.YtpmnchgpbojppaaDelLib
namespace Go.Proofs.Ytpmnchgpbojppaa
open Go Go.RowKit Go.Proofs.Try

theorem entCells_erase : ∀ {es : List Ent} {us : List Value} {i : Nat}, us.length = es.length → i < es.length → entCells (es.eraseIdx i) (us.eraseIdx i) = (entCells es us).take (i * 2) ++ (entCells es us).drop ((i + 1) * 2)
  | [], _, _, _, h => by simp at h
  | _ :: _, [], _, h, _ => by simp at h
  | e :: es, u :: us, 0, _, _ => by simp [entCells]
  | e :: es, u :: us, i + 1, hl, hi => by
    have ih := entCells_erase (es := es) (us := us) (i := i) (by simpa using hl) (by simpa using hi)
    rw [List.eraseIdx_cons_succ, List.eraseIdx_cons_succ]
    simp only [entCells]
    rw [ih, show (i + 1 + 1) * 2 = (i + 1) * 2 + 1 + 1 by omega]
    have h1 : List.take ((i + 1) * 2) (.int .u32 (e.key : Int) :: u :: entCells es us) = .int .u32 (e.key : Int) :: u :: List.take (i * 2) (entCells es us) := by rw [show (i + 1) * 2 = i * 2 + 1 + 1 by omega]; rfl
    rw [h1]
    rfl

theorem erase_get {α : Type} {l : List α} {i j : Nat} {x : α} (h : (l.eraseIdx i)[j]? = some x) : l[if j < i then j else j + 1]? = some x := by
  rw [List.getElem?_eraseIdx] at h
  split at h
  · rename_i hj; rw [if_pos hj]; exact h
  · rename_i hj; rw [if_neg hj]; exact h

theorem OwnEs.erase {w w' : World} {base g n i : Nat} {es : List Ent} {us : List Value} {cs : List Value} (h : OwnEs w base (.slice (some ⟨g, 0, none⟩) n n) es us) (hn : es.length = n) (hi : i < n) (ho : Only g w w')
    (hg : Blk w' g 39 cs.toArray) (hcl : cs.length = n * 2) (hct : cs.take ((n - 1) * 2) = entCells (es.eraseIdx i) (us.eraseIdx i)) (hm : n ≤ maxLen) :
    OwnEs w' base (.slice (some ⟨g, 0, none⟩) (n - 1) n) (es.eraseIdx i) (us.eraseIdx i) := by
  have hbg : base ≤ g := (h.row.lt g rfl).1
  have hel : (es.eraseIdx i).length = n - 1 := by rw [List.length_eraseIdx, if_pos (by omega), hn]
  have hul : (us.eraseIdx i).length = (es.eraseIdx i).length := by rw [List.length_eraseIdx, List.length_eraseIdx, h.len]
  refine ⟨hul, ⟨by rw [entCells_length hul], .inr ⟨g, n, cs.toArray, by rw [hel], hbg, hg, by omega, hm, by simpa using hcl, by rw [hel]; exact hct⟩⟩, fun j e u he hu => ?_, fun j k u v b hjk hu hv hb => ?_⟩
  · obtain ⟨a, b⟩ := h.val _ e u (erase_get he) (erase_get hu)
    exact ⟨a.only ho (a.blk_ne h.row rfl), b⟩
  · exact h.lone _ _ u v b (by split <;> split <;> omega) (erase_get hu) (erase_get hv) hb

theorem agg_zero : (Builtin.zeroCells (Value.agg #[.int .u32 0, .slice none 0 0]).cells 1).toList = [.int .u32 0, .slice none 0 0] := by kernel_rfl

set_option maxRecDepth 100000 in
set_option maxHeartbeats 2000000 in
theorem delete_any (g n i : Nat) (es : List Ent) (us : List Value) (w : World) (base : Nat) (hO : OwnEs w base (.slice (some ⟨g, 0, none⟩) n n) es us) (hn : es.length = n) (hi : i < n) (hn2 : n ≤ 1048576) :
    Calls prog 59 #[.slice (some ⟨g, 0, none⟩) n n, .int .i64 (i : Int), .int .i64 ((i : Int) + 1)] w fun e w' => e = .returned (.slice (some ⟨g, 0, none⟩) (n - 1) n) ∧ Only g w w' ∧ OwnEs w' base (.slice (some ⟨g, 0, none⟩) (n - 1) n) (es.eraseIdx i) (us.eraseIdx i) := by
  obtain ⟨ie, hie, hz, hsz, hb⟩ := info_parts info_ent
  have hu24 : prog.underlying 24 = some (.slice 39) := underlying24
  have hel : prog.elem 24 = 39 := by simp [Program.elem, hu24]
  have hu' : prog.underlying 24 = some (.slice (prog.elem 24)) := by rw [hel]; exact hu24
  have hcl : (entCells es us).length = n * 2 := by rw [entCells_length hO.len, hn]
  have hG : Blk w g 39 (entCells es us).toArray := by
    rcases hO.row.2 with ⟨h1, _⟩ | ⟨g', cap, cur, he, _, hg', _, _, hcs, hct⟩
    · cases h1
    · cases he
      rw [hn, List.take_of_length_le (by rw [Array.length_toList, hcs]; exact Nat.le_refl _)] at hct
      rw [← hct]
      exact hg'
  have hone : ∀ v ∈ entCells es us, v.oneCell' = true := entCells_one (fun u hu => by
    obtain ⟨j, hj⟩ := List.mem_iff_getElem?.1 hu
    have hil : j < es.length := by rw [← hO.len]; exact (List.getElem?_eq_some_iff.1 hj).1
    obtain ⟨A, c, rfl, _⟩ := (hO.val j _ u (List.getElem?_eq_getElem hil) hj).1.reads
    rfl)
  have hs1 : ∀ W : World, ∃ x, (Instr.slice 24 (.slice (some ⟨g, 0, none⟩) n n) (some (.int .i64 (i : Int))) (some (.int .i64 ((i : Int) + 1))) (some (.int .i64 (n : Int)))).run prog W = .ok x W := by
    intro W
    rw [run_slice_lhm W 24 (some ⟨g, 0, none⟩) n n hu' .i64 .i64 .i64 (i : Int) ((i : Int) + 1) (n : Int) (by omega) (by omega) (by omega) (by omega), hel]
    simp [sizeOf, typeInfo, hie, Result.andThen]
  have hs2 : ∀ W : World, (Instr.slice 24 (.slice (some ⟨g, 0, none⟩) n n) none (some (.int .i64 (i : Int))) none).run prog W = .ok (.slice (some ⟨g, 0, none⟩) i n) W := by
    intro W
    rw [run_slice_h W 24 (some ⟨g, 0, none⟩) n n hu' .i64 (i : Int) (by omega) (by omega), hel]
    simp [sizeOf, typeInfo, hie, hsz, sliced, Result.andThen, add_lit0]
  have hs3 := run_cut (P := prog) 24 39 2 hu24 (by kernel_rfl) (some ⟨g, 0, none⟩) n n (i + 1) ((i : Int) + 1) (by omega) (by omega)
  have hs4 : ∀ W : World, (Instr.slice 24 (.slice (some ⟨g, 0, none⟩) (n - 1) n) (some (.int .i64 ((n - 1 : Nat) : Int))) (some (.int .i64 (n : Int))) none).run prog W = .ok (.slice (some ⟨g, (n - 1) * 2, none⟩) 1 1) W := by
    intro W
    rw [run_slice_lh W 24 (some ⟨g, 0, none⟩) (n - 1) n hu' .i64 .i64 ((n - 1 : Nat) : Int) (n : Int) (by omega) (by omega) (by omega), hel]
    simp [sizeOf, typeInfo, hie, hsz, sliced, Result.andThen, add_lit0, show ¬ n = n - 1 by omega, show n - (n - 1) = 1 by omega]
  obtain ⟨news, hnews⟩ : ∃ news, news = (entCells es us).drop ((i + 1) * 2) := ⟨_, rfl⟩
  have hnl : news.length = (n - (i + 1)) * 2 := by rw [hnews, List.length_drop, hcl]; omega
  have hrun : ∀ ty, (Builtin.append_ #[24, 24] ty #[.slice (some ⟨g, 0, none⟩) i n, .slice (cutA (some ⟨g, 0, none⟩) n (i + 1) 2) (n - (i + 1)) (n - (i + 1))]).run prog w.drew = .ok (.slice (some ⟨g, 0, none⟩) (n - 1) n) (w.drew.setRow g (splice (entCells es us) (i * 2) news).toArray) := by
    intro ty
    have := run_append_roomS (P := prog) (w := w.drew) 24 ty 39 ie 2 hu24 hie hsz g 0 i n (cutA (some ⟨g, 0, none⟩) n (i + 1) 2) (n - (i + 1)) (n - (i + 1)) news hnl 39 (entCells es us) hG
      (fun hm => ⟨_, cutA_lt (by omega), fun j u hu => by
        rw [hnews, List.getElem?_drop] at hu
        rw [add_add, add_lit0]
        exact (hG.cell _).trans (by simpa using hu)⟩) (by unfold cutA; split <;> exact ⟨_, rfl⟩) (fun u hu => hone u (by rw [hnews] at hu; exact List.mem_of_mem_drop hu)) (by omega) (by rw [hcl, hnl]; omega)
    rw [show i + (n - (i + 1)) = n - 1 by omega, Nat.zero_add] at this
    exact this
  obtain ⟨W1, hW1⟩ : ∃ W, w.drew.setRow g (splice (entCells es us) (i * 2) news).toArray = W := ⟨_, rfl⟩
  have ho1 : Only g w W1 := by rw [← hW1]; exact Only.of_drew (Only.setRow _ _ _)
  have hG1 : Blk W1 g 39 (splice (entCells es us) (i * 2) news).toArray := by
    rw [← hW1]
    exact setRow_heap w.drew g (entCells es us).toArray (splice (entCells es us) (i * 2) news).toArray _ (0, 0) hG
  have hsl : (splice (entCells es us) (i * 2) news).length = n * 2 := by rw [length_splice _ _ _ (by rw [hcl, hnl]; omega), hcl]
  have hclr : ∀ ty, (Builtin.clear_ #[24] ty #[.slice (some ⟨g, (n - 1) * 2, none⟩) 1 1]).run prog W1 = .ok (.tuple #[]) (W1.setRow g (splice (splice (entCells es us) (i * 2) news) ((n - 1) * 2) [.int .u32 0, .slice none 0 0]).toArray) := by
    intro ty
    have := run_clearN (P := prog) W1 24 39 ty ie (.agg #[.int .u32 0, .slice none 0 0]) hu24 hie hz g ((n - 1) * 2) 1 1 (by omega) 39 (splice (entCells es us) (i * 2) news) hG1 (by rw [agg_zero, hsl]; simp; omega) (by rw [agg_zero]; intro v hv; simp at hv; rcases hv with rfl | rfl <;> rfl)
    rw [agg_zero] at this
    exact this
  obtain ⟨W2, hW2⟩ : ∃ W, W1.setRow g (splice (splice (entCells es us) (i * 2) news) ((n - 1) * 2) [.int .u32 0, .slice none 0 0]).toArray = W := ⟨_, rfl⟩
  have ho2 : Only g w W2 := ho1.trans (by rw [← hW2]; exact Only.setRow _ _ _)
  have hG2 : Blk W2 g 39 (splice (splice (entCells es us) (i * 2) news) ((n - 1) * 2) [.int .u32 0, .slice none 0 0]).toArray := by
    rw [← hW2]
    exact setRow_heap W1 g _ (splice (splice (entCells es us) (i * 2) news) ((n - 1) * 2) [.int .u32 0, .slice none 0 0]).toArray _ (0, 0) hG1
  have hfin := OwnEs.erase hO hn hi ho2 hG2 (by rw [length_splice _ _ _ (by rw [hsl]; simp; omega), hsl]) (by
    rw [entCells_erase hO.len (by omega), ← hnews]
    unfold splice
    rw [List.take_append_of_le_length (by simp [hcl, hnl]; omega)]
    rw [List.take_take, Nat.min_self, List.take_append]
    have e1 : ((entCells es us).take (i * 2)).length = i * 2 := by rw [List.length_take, hcl]; omega
    rw [e1, List.take_of_length_le (l := (entCells es us).take (i * 2)) (by omega), List.take_append_of_le_length (by omega), List.take_of_length_le (l := news) (by omega)]) (by simp only [maxLen]; omega)
  rw [hW1] at hrun
  rw [hW2] at hclr
  replace hfin := Lib.hid hfin
  have hne : ((i : Int) == (i : Int) + 1) = false := by simp; omega
  obtain ⟨x1, hx1⟩ : ∃ x, ∀ W : World, (Instr.slice 24 (.slice (some ⟨g, 0, none⟩) n n) (some (.int .i64 (i : Int))) (some (.int .i64 ((i : Int) + 1))) (some (.int .i64 (n : Int)))).run prog W = .ok x W := by
    refine ⟨sliced (some ⟨g, 0, none⟩) i (i + 1) n 2, fun W => ?_⟩
    rw [run_slice_lhm W 24 (some ⟨g, 0, none⟩) n n hu' .i64 .i64 .i64 (i : Int) ((i : Int) + 1) (n : Int) (by omega) (by omega) (by omega) (by omega), hel]
    simp [sizeOf, typeInfo, hie, hsz, Result.andThen]
  clear hs1 hG hG1 hG2 hW1 hW2 hone hO
  go_enter func59, ntmps59
  go_wp2_with fail
  go_region_law (refine step_runApp rfl _ _ _ _ rfl rfl rfl (hrun _) ?_)
  all_goals
    go_wp2_with (refine wpList_clear rfl _ _ rfl rfl (hclr _) ?_)
    go_wp2_with fail
    go_ret
    exact ⟨rfl, ho2, hfin.out⟩
end Go.Proofs.Ytpmnchgpbojppaa
