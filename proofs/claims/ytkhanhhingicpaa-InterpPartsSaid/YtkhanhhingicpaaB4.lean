/- Packed texts: Delete, Del, Awake, Few, Eqs, Same, Same2, Ct, Br2, Plain, Back, DelP, FullP, Pl2, Pp, Po, Ol, Zhelpertold, Zhelpercalldel, Zhelpercallget, Zhelpercallhas, Zhelpercallput, Zhelpercallpush, Zhelpercallset, ZhelperArgs, ZhelperDraw, Zschemain, ZschemaMay, ZhelperFits, ZslicesCloneapiEntryapiEntry, ZslicesCloneapiTableapiTable, ZslicesCloneuint32uint32, Zhelperown. -/
import Derived.Test.YtkhanhhingicpaaB3
import Derived.Test.YtkhanhhingicpaaProg
set_option linter.unusedVariables false
set_option linter.unusedSimpArgs false
set_option maxHeartbeats 4000000
set_option maxRecDepth 100000
namespace Go.Proofs.Ytkhanhhingicpaa
open Go Go.RowKit Go.Proofs.Try
theorem entCells_erase : ∀ {es : List Ent} {us : List Value} {i : Nat}, us.length = es.length → i < es.length → entCells (es.eraseIdx i) (us.eraseIdx i) = (entCells es us).take (i * 2) ++ (entCells es us).drop ((i + 1) * 2)
  | [], _, _, _, h => by simp at h
  | _ :: _, [], _, h, _ => by simp at h
  | e :: es, u :: us, 0, _, _ => by simp [entCells]
  | e :: es, u :: us, i + 1, hl, hi => by
    have ih := entCells_erase (es := es) (us := us) (i := i) (by simpa using hl) (by simpa using hi)
    rw [List.eraseIdx_cons_succ, List.eraseIdx_cons_succ]
    simp only [entCells]
    rw [ih, show (i + 1 + 1) * 2 = (i + 1) * 2 + 1 + 1 by omega]
    have h1 : List.take ((i + 1) * 2) (.int .u32 (e.key : Int) :: u :: entCells es us) = .int .u32 (e.key : Int) :: u :: List.take (i * 2) (entCells es us) := by rw [show (i + 1) * 2 = i * 2 + 1 + 1 by omega]; rfl
    rw [h1]
    rfl
theorem erase_get {α : Type} {l : List α} {i j : Nat} {x : α} (h : (l.eraseIdx i)[j]? = some x) : l[if j < i then j else j + 1]? = some x := by
  rw [List.getElem?_eraseIdx] at h
  split at h
  · rename_i hj; rw [if_pos hj]; exact h
  · rename_i hj; rw [if_neg hj]; exact h
theorem OwnEs.erase {w w' : World} {base g n i : Nat} {es : List Ent} {us : List Value} {cs : List Value} (h : OwnEs w base (.slice (some ⟨g, 0, none⟩) n n) es us) (hn : es.length = n) (hi : i < n) (ho : Only g w w')
    (hg : Blk w' g 41 cs.toArray) (hcl : cs.length = n * 2) (hct : cs.take ((n - 1) * 2) = entCells (es.eraseIdx i) (us.eraseIdx i)) (hm : n ≤ maxLen) :
    OwnEs w' base (.slice (some ⟨g, 0, none⟩) (n - 1) n) (es.eraseIdx i) (us.eraseIdx i) := by
  have hbg : base ≤ g := (h.row.lt g rfl).1
  have hel : (es.eraseIdx i).length = n - 1 := by rw [List.length_eraseIdx, if_pos (by omega), hn]
  have hul : (us.eraseIdx i).length = (es.eraseIdx i).length := by rw [List.length_eraseIdx, List.length_eraseIdx, h.len]
  refine ⟨hul, ⟨by rw [entCells_length hul], .inr ⟨g, n, cs.toArray, by rw [hel], hbg, hg, by omega, hm, by simpa using hcl, by rw [hel]; exact hct⟩⟩, fun j e u he hu => ?_, fun j k u v b hjk hu hv hb => ?_⟩
  · obtain ⟨a, b⟩ := h.val _ e u (erase_get he) (erase_get hu)
    exact ⟨a.only ho (a.blk_ne h.row rfl), b⟩
  · exact h.lone _ _ u v b (by split <;> split <;> omega) (erase_get hu) (erase_get hv) hb
theorem agg_zero : (Builtin.zeroCells (Value.agg #[.int .u32 0, .slice none 0 0]).cells 1).toList = [.int .u32 0, .slice none 0 0] := by kernel_rfl
set_option maxRecDepth 100000 in
set_option maxHeartbeats 2000000 in
theorem delete_any (g n i : Nat) (es : List Ent) (us : List Value) (w : World) (base : Nat) (hO : OwnEs w base (.slice (some ⟨g, 0, none⟩) n n) es us) (hn : es.length = n) (hi : i < n) (hn2 : n ≤ 1048576) :
    Calls prog 55 #[.slice (some ⟨g, 0, none⟩) n n, .int .i64 (i : Int), .int .i64 ((i : Int) + 1)] w fun e w' => e = .returned (.slice (some ⟨g, 0, none⟩) (n - 1) n) ∧ Only g w w' ∧ OwnEs w' base (.slice (some ⟨g, 0, none⟩) (n - 1) n) (es.eraseIdx i) (us.eraseIdx i) := by
  obtain ⟨ie, hie, hz, hsz, hb⟩ := info_parts info_ent
  have hu24 : prog.underlying 24 = some (.slice 41) := underlying24
  have hel : prog.elem 24 = 41 := by simp [Program.elem, hu24]
  have hu' : prog.underlying 24 = some (.slice (prog.elem 24)) := by rw [hel]; exact hu24
  have hcl : (entCells es us).length = n * 2 := by rw [entCells_length hO.len, hn]
  have hG : Blk w g 41 (entCells es us).toArray := by
    rcases hO.row.2 with ⟨h1, _⟩ | ⟨g', cap, cur, he, _, hg', _, _, hcs, hct⟩
    · cases h1
    · cases he
      rw [hn, List.take_of_length_le (by rw [Array.length_toList, hcs]; exact Nat.le_refl _)] at hct
      rw [← hct]
      exact hg'
  have hone : ∀ v ∈ entCells es us, v.oneCell' = true := entCells_one (fun u hu => by
    obtain ⟨j, hj⟩ := List.mem_iff_getElem?.1 hu
    have hil : j < es.length := by rw [← hO.len]; exact (List.getElem?_eq_some_iff.1 hj).1
    obtain ⟨A, c, rfl, _⟩ := (hO.val j _ u (List.getElem?_eq_getElem hil) hj).1.reads
    rfl)
  have hs1 : ∀ W : World, ∃ x, (Instr.slice 24 (.slice (some ⟨g, 0, none⟩) n n) (some (.int .i64 (i : Int))) (some (.int .i64 ((i : Int) + 1))) (some (.int .i64 (n : Int)))).run prog W = .ok x W := by
    intro W
    rw [run_slice_lhm W 24 (some ⟨g, 0, none⟩) n n hu' .i64 .i64 .i64 (i : Int) ((i : Int) + 1) (n : Int) (by omega) (by omega) (by omega) (by omega), hel]
    simp [sizeOf, typeInfo, hie, Result.andThen]
  have hs2 : ∀ W : World, (Instr.slice 24 (.slice (some ⟨g, 0, none⟩) n n) none (some (.int .i64 (i : Int))) none).run prog W = .ok (.slice (some ⟨g, 0, none⟩) i n) W := by
    intro W
    rw [run_slice_h W 24 (some ⟨g, 0, none⟩) n n hu' .i64 (i : Int) (by omega) (by omega), hel]
    simp [sizeOf, typeInfo, hie, hsz, sliced, Result.andThen, add_lit0]
  have hs3 := run_cut (P := prog) 24 41 2 hu24 (by kernel_rfl) (some ⟨g, 0, none⟩) n n (i + 1) ((i : Int) + 1) (by omega) (by omega)
  have hs4 : ∀ W : World, (Instr.slice 24 (.slice (some ⟨g, 0, none⟩) (n - 1) n) (some (.int .i64 ((n - 1 : Nat) : Int))) (some (.int .i64 (n : Int))) none).run prog W = .ok (.slice (some ⟨g, (n - 1) * 2, none⟩) 1 1) W := by
    intro W
    rw [run_slice_lh W 24 (some ⟨g, 0, none⟩) (n - 1) n hu' .i64 .i64 ((n - 1 : Nat) : Int) (n : Int) (by omega) (by omega) (by omega), hel]
    simp [sizeOf, typeInfo, hie, hsz, sliced, Result.andThen, add_lit0, show ¬ n = n - 1 by omega, show n - (n - 1) = 1 by omega]
  obtain ⟨news, hnews⟩ : ∃ news, news = (entCells es us).drop ((i + 1) * 2) := ⟨_, rfl⟩
  have hnl : news.length = (n - (i + 1)) * 2 := by rw [hnews, List.length_drop, hcl]; omega
  have hrun : ∀ ty, (Builtin.append_ #[24, 24] ty #[.slice (some ⟨g, 0, none⟩) i n, .slice (cutA (some ⟨g, 0, none⟩) n (i + 1) 2) (n - (i + 1)) (n - (i + 1))]).run prog w.drew = .ok (.slice (some ⟨g, 0, none⟩) (n - 1) n) (w.drew.setRow g (splice (entCells es us) (i * 2) news).toArray) := by
    intro ty
    have := run_append_roomS (P := prog) (w := w.drew) 24 ty 41 ie 2 hu24 hie hsz g 0 i n (cutA (some ⟨g, 0, none⟩) n (i + 1) 2) (n - (i + 1)) (n - (i + 1)) news hnl 41 (entCells es us) hG
      (fun hm => ⟨_, cutA_lt (by omega), fun j u hu => by
        rw [hnews, List.getElem?_drop] at hu
        rw [add_add, add_lit0]
        exact (hG.cell _).trans (by simpa using hu)⟩) (by unfold cutA; split <;> exact ⟨_, rfl⟩) (fun u hu => hone u (by rw [hnews] at hu; exact List.mem_of_mem_drop hu)) (by omega) (by rw [hcl, hnl]; omega)
    rw [show i + (n - (i + 1)) = n - 1 by omega, Nat.zero_add] at this
    exact this
  obtain ⟨W1, hW1⟩ : ∃ W, w.drew.setRow g (splice (entCells es us) (i * 2) news).toArray = W := ⟨_, rfl⟩
  have ho1 : Only g w W1 := by rw [← hW1]; exact Only.of_drew (Only.setRow _ _ _)
  have hG1 : Blk W1 g 41 (splice (entCells es us) (i * 2) news).toArray := by
    rw [← hW1]
    exact setRow_heap w.drew g (entCells es us).toArray (splice (entCells es us) (i * 2) news).toArray _ (0, 0) hG
  have hsl : (splice (entCells es us) (i * 2) news).length = n * 2 := by rw [length_splice _ _ _ (by rw [hcl, hnl]; omega), hcl]
  have hclr : ∀ ty, (Builtin.clear_ #[24] ty #[.slice (some ⟨g, (n - 1) * 2, none⟩) 1 1]).run prog W1 = .ok (.tuple #[]) (W1.setRow g (splice (splice (entCells es us) (i * 2) news) ((n - 1) * 2) [.int .u32 0, .slice none 0 0]).toArray) := by
    intro ty
    have := run_clearN (P := prog) W1 24 41 ty ie (.agg #[.int .u32 0, .slice none 0 0]) hu24 hie hz g ((n - 1) * 2) 1 1 (by omega) 41 (splice (entCells es us) (i * 2) news) hG1 (by rw [agg_zero, hsl]; simp; omega) (by rw [agg_zero]; intro v hv; simp at hv; rcases hv with rfl | rfl <;> rfl)
    rw [agg_zero] at this
    exact this
  obtain ⟨W2, hW2⟩ : ∃ W, W1.setRow g (splice (splice (entCells es us) (i * 2) news) ((n - 1) * 2) [.int .u32 0, .slice none 0 0]).toArray = W := ⟨_, rfl⟩
  have ho2 : Only g w W2 := ho1.trans (by rw [← hW2]; exact Only.setRow _ _ _)
  have hG2 : Blk W2 g 41 (splice (splice (entCells es us) (i * 2) news) ((n - 1) * 2) [.int .u32 0, .slice none 0 0]).toArray := by
    rw [← hW2]
    exact setRow_heap W1 g _ (splice (splice (entCells es us) (i * 2) news) ((n - 1) * 2) [.int .u32 0, .slice none 0 0]).toArray _ (0, 0) hG1
  have hfin := OwnEs.erase hO hn hi ho2 hG2 (by rw [length_splice _ _ _ (by rw [hsl]; simp; omega), hsl]) (by
    rw [entCells_erase hO.len (by omega), ← hnews]
    unfold splice
    rw [List.take_append_of_le_length (by simp [hcl, hnl]; omega)]
    rw [List.take_take, Nat.min_self, List.take_append]
    have e1 : ((entCells es us).take (i * 2)).length = i * 2 := by rw [List.length_take, hcl]; omega
    rw [e1, List.take_of_length_le (l := (entCells es us).take (i * 2)) (by omega), List.take_append_of_le_length (by omega), List.take_of_length_le (l := news) (by omega)]) (by simp only [maxLen]; omega)
  rw [hW1] at hrun
  rw [hW2] at hclr
  replace hfin := Lib.hid hfin
  have hne : ((i : Int) == (i : Int) + 1) = false := by simp; omega
  obtain ⟨x1, hx1⟩ : ∃ x, ∀ W : World, (Instr.slice 24 (.slice (some ⟨g, 0, none⟩) n n) (some (.int .i64 (i : Int))) (some (.int .i64 ((i : Int) + 1))) (some (.int .i64 (n : Int)))).run prog W = .ok x W := by
    refine ⟨sliced (some ⟨g, 0, none⟩) i (i + 1) n 2, fun W => ?_⟩
    rw [run_slice_lhm W 24 (some ⟨g, 0, none⟩) n n hu' .i64 .i64 .i64 (i : Int) ((i : Int) + 1) (n : Int) (by omega) (by omega) (by omega) (by omega), hel]
    simp [sizeOf, typeInfo, hie, hsz, Result.andThen]
  clear hs1 hG hG1 hG2 hW1 hW2 hone hO
  go_enter func55, ntmps55
  go_wp2_with fail
  go_region_law (refine step_runApp rfl _ _ _ _ rfl rfl rfl (hrun _) ?_)
  all_goals
    go_wp2_with (refine wpList_clear rfl _ _ rfl rfl (hclr _) ?_)
    go_wp2_with fail
    go_ret
    exact ⟨rfl, ho2, hfin.out⟩
def zeroE (l : List Ent) (i : Nat) : List Ent :=
  match l[i]? with
  | some e => l.set i { e with v := List.replicate e.v.length 0 }
  | none => l
def Tab.del (t : Tab) (key : Nat) : Tab × Bool :=
  if t.has key 0 = false then (t, false)
  else if t.s.kind = 0 then ({ t with e := zeroE t.e (t.idx key) }, true)
  else ({ t with e := t.e.eraseIdx (t.idx key) }, true)
theorem splice_all {α : Type} {l r : List α} (h : l.length = r.length) : splice l 0 r = r := by
  unfold splice
  rw [List.take_zero, List.nil_append, List.drop_eq_nil_of_le (by omega), List.append_nil]
set_option maxRecDepth 100000 in
set_option maxHeartbeats 4000000 in
theorem del_any (s : Sch) (A : Option Addr) (n c nx key : Nat) (es : List Ent) (w : World) (hx : nx < 4294967296) (hfit : fits es) (hE : kEnt.At w w.heap.size A n c es) :
    Calls prog 19 #[tabV s A n c nx, .int .u32 (key : Int)] w fun e w' => ∃ A' n' c' us, e = .returned (.tuple #[tabV s A' n' c' nx, .bool (Tab.del ⟨s, es, nx⟩ key).2]) ∧ OwnEs w' w.heap.size (.slice A' n' c') (Tab.del ⟨s, es, nx⟩ key).1.e us ∧ Below w.heap.size w w' := by
  have hl := Lib.hid hE.len
  obtain ⟨T, hT⟩ : ∃ T, T = Tab.del ⟨s, es, nx⟩ key := ⟨_, rfl⟩
  rw [← hT]
  replace hT := Lib.hid hT
  unfold tabV
  obtain ⟨W1, hW1, hB1, hS1, hG1, hO1, hP1⟩ := boxedB w _ rfl #[.int .i64 s.kind, .int .i64 s.cap, .int .i64 s.words, .int .i64 s.ver, .slice A n c, .int .u32 (nx : Int)] 27
  obtain ⟨W2, hW2, hB2, hS2, hG2, hO2, hP2⟩ := boxedB W1 _ hS1 #[.int .i64 0, .int .i64 0, .int .i64 0, .int .i64 0, .slice none 0 0, .int .u32 0] 27
  have hC1 := (hG1.below hB2 (Nat.lt_succ_self _)).cell
  have hb2 := hB1.trans (hB2.mono (Nat.le_succ _))
  clear hO1 hP1 hO2 hP2
  go_enter func19, ntmps19
  go_wp2_with fail
  refine (own_any s A n c nx es _ hfit (by exact (hE.below hb2).mono (by omega))).mono ?_
  rintro e1 w3 ⟨A', us, rfl, hown, hb3⟩
  rw [hS2] at hown hb3
  have hs3 := hb3.size
  have hb03 := hb2.trans (hb3.mono (by omega))
  obtain ⟨W4, hW4, hB4, hS4, hG4, hO4, hP4⟩ := boxedB w3 _ rfl #[.int .i64 s.kind, .int .i64 s.cap, .int .i64 s.words, .int .i64 s.ver, .slice A' n n, .int .u32 (nx : Int)] 27
  have hC4 := hG4.cell
  have hb04 := hb03.trans (hB4.mono (by omega))
  clear hO4 hP4
  unfold tabV
  have hE4 := (hown.at_.below hB4).mono (B' := W4.heap.size) (by omega)
  go_wp2_with fail
  refine (find_any s A' n n nx key es _ W4.heap.size (by omega) hE4).mono ?_
  rintro e1 w5 ⟨rfl, hb5⟩
  have hs5 := hb5.size
  have hG15 := (((hG1.below hB2 (Nat.lt_succ_self _)).below hb3 (by omega)).below hB4 (by omega)).below hb5 (by omega)
  have hC15 := hG15.cell
  have hb05 := hb04.trans (hb5.mono (by omega))
  obtain ⟨xx, hfi, hx1⟩ : ∃ xx : Int, fidx key es 0 = xx ∧ Hid (xx = fidx key es 0) := ⟨_, rfl, rfl⟩
  rw [hfi]
  replace hfi := Lib.hid hfi
  go_wp2_with fail
  refine (words_tab s A n c nx 0 es _ hx (by omega) (by exact (hE.below hb05).mono (by omega))).mono ?_
  rintro e1 w6 ⟨rfl, hb6⟩
  have hs6 := hb6.size
  have hG46 := (hG4.below hb5 (by omega)).below hb6 (by omega)
  have hC46 := hG46.cell
  have hF46 := hG46.frozen
  have hG26 := (((hG2.below hb3 (by omega)).below hB4 (by omega)).below hb5 (by omega)).below hb6 (by omega)
  have hC26 := hG26.cell
  have hF26 := hG26.frozen
  have hb06 := hb05.trans (hb6.mono (by omega))
  have hO6 := ((hown.below hB4).below (hb5.mono (by omega))).below (hb6.mono (by omega))
  by_cases hh : Tab.has ⟨s, es, nx⟩ key 0 = false
  · have hTv : T = (⟨s, es, nx⟩, false) := by rw [hT.out]; unfold Tab.del; rw [if_pos hh]
    replace hTv := Lib.hid hTv
    have hr7 := hG26.setBox [.int .i64 s.kind, .int .i64 s.cap, .int .i64 s.words, .int .i64 s.ver, .slice A' n n, .int .u32 (nx : Int)] rfl
    have ho7 := setAll_only (w.heap.size + 1) [.int .i64 s.kind, .int .i64 s.cap, .int .i64 s.words, .int .i64 s.ver, .slice A' n n, .int .u32 (nx : Int)] 0 w6
    have hb7 := Only.below hb06 ho7 (by omega) (by omega)
    have hO7 := (hO6.far ho7 (by omega)).mono (show w.heap.size ≤ w.heap.size + 1 + 1 by omega)
    rcases hkd : Tab.keyed ⟨s, es, nx⟩ 0 with _ | _
    · clear hh
      go_wp2_with fail
      refine bodyPost_ret (results_ct results19 rfl hr7 underlying27 rfl (by kernel_rfl)) rfl ?_
      rw [hTv.out]
      exact ⟨A', n, n, us, rfl, hO7, hb7⟩
    · have hxm : (xx == -1) = true := by
        have h1 := fidx_lt key es 0
        have h2 := hx1.out
        have h3 : ¬ 0 ≤ fidx key es 0 := by simpa [Tab.has, hkd] using hh
        simp
        omega
      clear hh
      go_wp2_with fail
      refine bodyPost_ret (results_ct results19 rfl hr7 underlying27 rfl (by kernel_rfl)) rfl ?_
      rw [hTv.out]
      exact ⟨A', n, n, us, rfl, hO7, hb7⟩
  obtain ⟨hkd, hpos⟩ : Tab.keyed ⟨s, es, nx⟩ 0 = true ∧ 0 ≤ fidx key es 0 := by simpa [Tab.has] using hh
  obtain ⟨hmay, hk3, hfw⟩ := Tab.keyed_may hkd
  simp only at hk3 hfw
  have hsch := Sch.may_bounds (Tab.may_sch hmay)
  simp only at hsch
  have hlen := Tab.may_len hmay
  simp only [hl.out] at hlen
  obtain ⟨hxi, hil⟩ := fidx_nat hpos
  obtain ⟨i, hii⟩ : ∃ i, i = (fidx key es 0).toNat := ⟨_, rfl⟩
  rw [← hii] at hxi hil
  have hxi' : xx = (i : Int) := hx1.out.trans hxi
  subst hxi'
  have hin : i < n := by rw [← hl.out]; exact hil
  have hxm : ((i : Int) == -1) = false := by simp
  have hid : Tab.idx ⟨s, es, nx⟩ key = i := by unfold Tab.idx; exact hii.symm
  have hn16 : n ≤ 16 := by omega
  obtain ⟨g, rfl, hg1, hg2, _⟩ := hown.block (by omega)
  have hiu : i < us.length := by rw [hO6.len, hl.out]; exact hin
  obtain ⟨e, he⟩ : ∃ e, es[i]? = some e := ⟨_, List.getElem?_eq_getElem hil⟩
  obtain ⟨u, hu⟩ : ∃ u, us[i]? = some u := ⟨_, List.getElem?_eq_getElem hiu⟩
  have hji : (i : Int) < (n : Int) := by omega
  have hgne := hO6.ne_box hG46 (by decide)
  rcases hk0 : (s.kind == 0) with _ | _
  · have hk0' : ¬ s.kind = 0 := by simpa using hk0
    have hTv : T = (⟨s, es.eraseIdx i, nx⟩, true) := by
      rw [hT.out]
      unfold Tab.del
      rw [if_neg hh, if_neg (by simpa using hk0'), hid]
    replace hTv := Lib.hid hTv
    clear hpos hxi hii hx1 hmay hfi hk0' hh hT
    go_wp2_with fail
    refine (delete_any g n i es us _ (w.heap.size + 1 + 1) hO6 hl.out hin (by omega)).mono ?_
    rintro e1 w7 ⟨rfl, ho7, hO7⟩
    have hs7 := ho7.size
    have hG47 := hG46.grown ho7 (by simp; omega)
    have hC47 := hG47.cell
    have hF47 := hG47.frozen
    have hG27 := hG26.grown ho7 (by simp; omega)
    obtain ⟨W8, hW8, ho8, hs8, hG8, hO8, hP8⟩ := storedB hG47 4 (.slice (some ⟨g, 0, none⟩) (n - 1) n)
    have hC8 := hG8.cell
    have hG28 := hG27.grown ho8 (by simp; omega)
    have hC28 := hG28.cell
    have hF28 := hG28.frozen
    clear hO8 hP8
    have hr9 := hG28.setBox [.int .i64 s.kind, .int .i64 s.cap, .int .i64 s.words, .int .i64 s.ver, .slice (some ⟨g, 0, none⟩) (n - 1) n, .int .u32 (nx : Int)] rfl
    have ho9 := setAll_only (w.heap.size + 1) [.int .i64 s.kind, .int .i64 s.cap, .int .i64 s.words, .int .i64 s.ver, .slice (some ⟨g, 0, none⟩) (n - 1) n, .int .u32 (nx : Int)] 0 W8
    have hb9 := Only.below (Only.below (Only.below hb06 ho7 (by omega) (by omega)) ho8 (by omega) (by omega)) ho9 (by omega) (by omega)
    have hO9 := ((hO7.box hG47 ho8 (by decide) (by decide)).far ho9 (by omega)).mono (show w.heap.size ≤ w.heap.size + 1 + 1 by omega)
    go_wp2_with fail
    refine bodyPost_ret (results_ct results19 rfl hr9 underlying27 rfl (by kernel_rfl)) rfl ?_
    rw [hTv.out]
    exact ⟨some ⟨g, 0, none⟩, n - 1, n, us.eraseIdx i, rfl, hO9, hb9⟩
  · have hk0' : s.kind = 0 := by simpa using hk0
    have hTv : T = (⟨s, es.set i { e with v := List.replicate e.v.length 0 }, nx⟩, true) := by
      rw [hT.out]
      unfold Tab.del
      rw [if_neg hh, if_pos (by simpa using hk0'), hid]
      simp [zeroE, he]
    replace hTv := Lib.hid hTv
    have hwd : 0 < e.v.length := by
      have := ((Tab.elOk_iff _ _ _).1 ((Tab.may_iff _).1 hmay |>.2 i e he)).1
      simp only at this
      omega
    have hwd4 : e.v.length ≤ 4 := by
      have := ((Tab.elOk_iff _ _ _).1 ((Tab.may_iff _).1 hmay |>.2 i e he)).1
      simp only at this
      omega
    obtain ⟨c0, c1'⟩ := hO6.cells_ he hu
    obtain ⟨hval, _⟩ := hO6.val i e u he hu
    obtain ⟨y, hy⟩ : ∃ y, e.v[0]? = some y := ⟨_, List.getElem?_eq_getElem hwd⟩
    obtain ⟨gu, cu, rfl, hgu1, hgu2, hcu, hcw, hfz⟩ := hval.cells_ hy
    have hgu4 := hval.ne_blk hG46 (by decide)
    obtain ⟨cap, cur, hGu, hcuq, hcs, hct⟩ : ∃ (cap : Nat) (cur : Array Value), Blk w6 gu 25 cur ∧ cap = cu ∧ cur.size = cap * 1 ∧ cap ≤ maxLen := by
      rcases hval.row.2 with ⟨h1, _⟩ | ⟨g', cap, cur, hee, _, hg', _, hm, hcs, _⟩
      · cases h1
      · cases hee
        exact ⟨_, cur, hg', rfl, hcs, hm⟩
    subst hcuq
    obtain ⟨iw, hiw, hzw, hsw, _⟩ := info_parts info_u32
    have hcl : (List.replicate e.v.length (Value.int .u32 0)).length ≤ cur.toList.length := by simp [hcs]; omega
    have hclr : ∀ ty, (Builtin.clear_ #[39] ty #[.slice (some ⟨gu, 0, none⟩) e.v.length cap]).run prog w6 = .ok (.tuple #[]) (w6.setRow gu (splice cur.toList 0 (List.replicate e.v.length (.int .u32 0))).toArray) := by
      intro ty
      have := run_clearN (P := prog) w6 39 25 ty iw (.int .u32 0) underlying39 hiw hzw gu 0 e.v.length cap hwd 25 cur.toList (by simpa using hGu) (by rw [zeroCells_u32]; simpa using hcl) (by rw [zeroCells_u32]; intro v hv; rw [List.eq_of_mem_replicate hv]; rfl)
      rw [zeroCells_u32] at this
      exact this
    obtain ⟨W7, hW7⟩ : ∃ W, w6.setRow gu (splice cur.toList 0 (List.replicate e.v.length (.int .u32 0))).toArray = W := ⟨_, rfl⟩
    have ho7 : Only gu w6 W7 := by rw [← hW7]; exact Only.setRow _ _ _
    have hs7 := ho7.size
    have hGu7 : Blk W7 gu 25 (splice cur.toList 0 (List.replicate e.v.length (.int .u32 0))).toArray := by
      rw [← hW7]
      exact setRow_heap w6 gu cur (splice cur.toList 0 (List.replicate e.v.length (.int .u32 0))).toArray _ (0, 0) hGu
    have hnew : OwnW W7 (w.heap.size + 1 + 1) (.slice (some ⟨gu, 0, none⟩) e.v.length cap) (List.replicate e.v.length 0) := by
      refine ⟨⟨by simp [u32s_length], .inr ⟨gu, cap, _, by simp, hgu1, hGu7, by simpa using hcu, hct, ?_, ?_⟩⟩, fun z hz => by simp at hz; omega⟩
      · rw [List.size_toArray, length_splice _ _ _ (by simpa using hcl), Array.length_toList]
        exact hcs
      · unfold splice
        simp [u32s]
    have hO7 := hO6.setV he hu ho7 hnew
    rw [hW7] at hclr
    have hG47 := hG46.grown ho7 (by simp; omega)
    have hC47 := hG47.cell
    have hG27 := hG26.grown ho7 (by simp; omega)
    have hC27 := hG27.cell
    have hF27 := hG27.frozen
    have hr9 := hG27.setBox [.int .i64 s.kind, .int .i64 s.cap, .int .i64 s.words, .int .i64 s.ver, .slice (some ⟨g, 0, none⟩) n n, .int .u32 (nx : Int)] rfl
    have ho9 := setAll_only (w.heap.size + 1) [.int .i64 s.kind, .int .i64 s.cap, .int .i64 s.words, .int .i64 s.ver, .slice (some ⟨g, 0, none⟩) n n, .int .u32 (nx : Int)] 0 W7
    have hb9 := Only.below (Only.below hb06 ho7 (by omega) (by omega)) ho9 (by omega) (by omega)
    have hO9 := (hO7.far ho9 (by omega)).mono (show w.heap.size ≤ w.heap.size + 1 + 1 by omega)
    replace hO9 := Lib.hid hO9
    clear hpos hxi hii hx1 hmay hfi hk0' hh hT he hu hy hO7 hO6 hval c0
    go_wp2_with (refine wpList_clear rfl _ _ rfl rfl (hclr _) ?_)
    go_wp2_with fail
    refine bodyPost_ret (results_ct results19 rfl hr9 underlying27 rfl (by kernel_rfl)) rfl ?_
    rw [hTv.out]
    exact ⟨some ⟨g, 0, none⟩, n, n, us, rfl, hO9.out, hb9⟩
theorem stored6 {w : World} {g : Nat} {t : TypeId} {cs : Array Value} (h : Blk w g t cs) (hs : cs.size = 6) (v0 v1 v2 v3 v4 v5 : Value) :
    ∃ W, (((((w.setCell ⟨g, 0, none⟩ v0).setCell ⟨g, 1, none⟩ v1).setCell ⟨g, 2, none⟩ v2).setCell ⟨g, 3, none⟩ v3).setCell ⟨g, 4, none⟩ v4).setCell ⟨g, 5, none⟩ v5 = W ∧ Only g w W ∧ W.heap.size = w.heap.size ∧ Blk W g t #[v0, v1, v2, v3, v4, v5] :=
  ⟨_, rfl, setAll_only g [v0, v1, v2, v3, v4, v5] 0 w, setAll_size g [v0, v1, v2, v3, v4, v5] 0 w, h.setBox [v0, v1, v2, v3, v4, v5] (by simp [hs])⟩
def tabA (s : Sch) (A : Option Addr) (n c next : Nat) : Array Value := #[.int .i64 s.kind, .int .i64 s.cap, .int .i64 s.words, .int .i64 s.ver, .slice A n c, .int .u32 (next : Int)]
theorem fits_small {es : List Ent} (h : es.length ≤ 20) (h2 : ∀ e ∈ es, e.v.length ≤ 6) : fits es := ⟨by omega, fun e he => by have := h2 e he; omega⟩
set_option maxRecDepth 100000 in
set_option maxHeartbeats 4000000 in
theorem awake5_any (w : World) : Calls prog 13 #[] w fun e w' => e = .returned (.bool true) ∧ Below w.heap.size w w' := by
  have h1 : Tab.new ⟨2, 2, 1, 0⟩ = (⟨⟨2, 2, 1, 0⟩, [], 0⟩, 0) := by kernel_rfl
  have h2 : Tab.set ⟨⟨2, 2, 1, 0⟩, [], 0⟩ 1 0 7 = (⟨⟨2, 2, 1, 0⟩, [⟨1, [7]⟩], 0⟩, 0) := by kernel_rfl
  have h3 : Tab.set ⟨⟨2, 2, 1, 0⟩, [⟨1, [7]⟩], 0⟩ 2 0 8 = (⟨⟨2, 2, 1, 0⟩, [⟨1, [7]⟩, ⟨2, [8]⟩], 0⟩, 0) := by kernel_rfl
  have h4 : Tab.get ⟨⟨2, 2, 1, 0⟩, [⟨1, [7]⟩, ⟨2, [8]⟩], 0⟩ 1 0 = (⟨⟨2, 2, 1, 0⟩, [⟨2, [8]⟩, ⟨1, [7]⟩], 0⟩, 7, true) := by kernel_rfl
  have h5 : Tab.set ⟨⟨2, 2, 1, 0⟩, [⟨2, [8]⟩, ⟨1, [7]⟩], 0⟩ 3 0 9 = (⟨⟨2, 2, 1, 0⟩, [⟨1, [7]⟩, ⟨3, [9]⟩], 0⟩, 0) := by kernel_rfl
  have h6 : Tab.get ⟨⟨2, 2, 1, 0⟩, [⟨1, [7]⟩, ⟨3, [9]⟩], 0⟩ 2 0 = (⟨⟨2, 2, 1, 0⟩, [⟨1, [7]⟩, ⟨3, [9]⟩], 0⟩, 0, false) := by kernel_rfl
  have h7 : Tab.may ⟨⟨2, 2, 1, 0⟩, [⟨1, [7]⟩, ⟨3, [9]⟩], 0⟩ = true := by kernel_rfl
  replace h1 := Lib.hid h1
  replace h2 := Lib.hid h2
  replace h3 := Lib.hid h3
  replace h4 := Lib.hid h4
  replace h5 := Lib.hid h5
  replace h6 := Lib.hid h6
  replace h7 := Lib.hid h7
  go_enter func13, ntmps13
  go_wp2_with fail
  refine (new_any ⟨2, 2, 1, 0⟩ _).mono ?_
  rintro e1 w1 ⟨A1, n1, c1, us1, rfl, hO1, hb1⟩
  rw [h1.out] at hO1 ⊢
  obtain rfl : n1 = 0 := hO1.at_.len.symm
  have hs1 := hb1.size
  unfold tabV
  simp only at hO1
  obtain ⟨W0, hW0, hB0, hS0, hG0, hx0, hy0⟩ := boxedB w1 _ rfl #[.int .i64 2, .int .i64 2, .int .i64 1, .int .i64 0, .slice A1 0 c1, .int .u32 0] 27
  have hC0 := hG0.cell
  have hF0 := hG0.frozen
  obtain ⟨W1, hW1, ho1, hS1, hG1, hx1, hy1⟩ := storedB hG0 5 (.int .u32 0)
  have hG1 : Blk W1 w1.heap.size 27 #[.int .i64 2, .int .i64 2, .int .i64 1, .int .i64 0, .slice A1 0 c1, .int .u32 0] := hG1
  clear hx0 hy0 hx1 hy1
  have hbw1 := Only.below (hb1.trans (hB0.mono (by omega))) ho1 (by omega) (by omega)
  have hP1 := (hO1.below hB0).box hG0 ho1 (by decide) (by decide)
  have hC1 := hG1.cell
  have hF1 := hG1.frozen
  go_wp2_with fail
  refine (set_any ⟨2, 2, 1, 0⟩ A1 0 c1 0 1 0 7 [] _ (by omega) (by omega) (by omega) (by omega) (fits_small (by decide) (by decide)) hP1.at_).mono ?_
  rintro e2 w2 ⟨A2, n2, c2, us2, rfl, hO2, hb2⟩
  rw [h2.out] at hO2 ⊢
  obtain rfl : n2 = 1 := hO2.at_.len.symm
  have hs2 := hb2.size
  unfold tabV
  simp only at hO2
  have hH2 := hG1.below hb2 (by omega)
  have hK2 := hH2.frozen
  have hJ2 := hH2.cell
  obtain ⟨W2, hW2, ho2, hS2, hG2⟩ := stored6 hH2 rfl (.int .i64 2) (.int .i64 2) (.int .i64 1) (.int .i64 0) (.slice A2 1 c2) (.int .u32 0)
  have hbw2 := Only.below (hbw1.trans (hb2.mono (by omega))) ho2 (by omega) (by omega)
  have hP2 := hO2.box hH2 ho2 (by decide) (by decide)
  have hC2 := hG2.cell
  have hF2 := hG2.frozen
  go_wp2_with fail
  refine (set_any ⟨2, 2, 1, 0⟩ A2 1 c2 0 2 0 8 [⟨1, [7]⟩] _ (by omega) (by omega) (by omega) (by omega) (fits_small (by decide) (by decide)) hP2.at_).mono ?_
  rintro e3 w3 ⟨A3, n3, c3, us3, rfl, hO3, hb3⟩
  rw [h3.out] at hO3 ⊢
  obtain rfl : n3 = 2 := hO3.at_.len.symm
  have hs3 := hb3.size
  unfold tabV
  simp only at hO3
  have hH3 := hG2.below hb3 (by omega)
  have hK3 := hH3.frozen
  have hJ3 := hH3.cell
  obtain ⟨W3, hW3, ho3, hS3, hG3⟩ := stored6 hH3 rfl (.int .i64 2) (.int .i64 2) (.int .i64 1) (.int .i64 0) (.slice A3 2 c3) (.int .u32 0)
  have hbw3 := Only.below (hbw2.trans (hb3.mono (by omega))) ho3 (by omega) (by omega)
  have hP3 := hO3.box hH3 ho3 (by decide) (by decide)
  have hC3 := hG3.cell
  have hF3 := hG3.frozen
  go_wp2_with fail
  refine (get_any ⟨2, 2, 1, 0⟩ A3 2 c3 0 1 0 [⟨1, [7]⟩, ⟨2, [8]⟩] _ (by omega) (by omega) (fits_small (by decide) (by decide)) hP3.at_).mono ?_
  rintro e4 w4 ⟨A4, c4, us4, rfl, hO4, hb4⟩
  rw [h4.out] at hO4 ⊢
  have hs4 := hb4.size
  unfold tabV
  simp only at hO4
  have hH4 := hG3.below hb4 (by omega)
  have hK4 := hH4.frozen
  have hJ4 := hH4.cell
  obtain ⟨W4, hW4, ho4, hS4, hG4⟩ := stored6 hH4 rfl (.int .i64 2) (.int .i64 2) (.int .i64 1) (.int .i64 0) (.slice A4 2 c4) (.int .u32 0)
  have hbw4 := Only.below (hbw3.trans (hb4.mono (by omega))) ho4 (by omega) (by omega)
  have hP4 := hO4.box hH4 ho4 (by decide) (by decide)
  have hC4 := hG4.cell
  have hF4 := hG4.frozen
  go_wp2_with fail
  refine (set_any ⟨2, 2, 1, 0⟩ A4 2 c4 0 3 0 9 [⟨2, [8]⟩, ⟨1, [7]⟩] _ (by omega) (by omega) (by omega) (by omega) (fits_small (by decide) (by decide)) hP4.at_).mono ?_
  rintro e5 w5 ⟨A5, n5, c5, us5, rfl, hO5, hb5⟩
  rw [h5.out] at hO5 ⊢
  obtain rfl : n5 = 2 := hO5.at_.len.symm
  have hs5 := hb5.size
  unfold tabV
  simp only at hO5
  have hH5 := hG4.below hb5 (by omega)
  have hK5 := hH5.frozen
  have hJ5 := hH5.cell
  obtain ⟨W5, hW5, ho5, hS5, hG5⟩ := stored6 hH5 rfl (.int .i64 2) (.int .i64 2) (.int .i64 1) (.int .i64 0) (.slice A5 2 c5) (.int .u32 0)
  have hbw5 := Only.below (hbw4.trans (hb5.mono (by omega))) ho5 (by omega) (by omega)
  have hP5 := hO5.box hH5 ho5 (by decide) (by decide)
  have hC5 := hG5.cell
  have hF5 := hG5.frozen
  go_wp2_with fail
  refine (get_any ⟨2, 2, 1, 0⟩ A5 2 c5 0 2 0 [⟨1, [7]⟩, ⟨3, [9]⟩] _ (by omega) (by omega) (fits_small (by decide) (by decide)) hP5.at_).mono ?_
  rintro e6 w6 ⟨A6, c6, us6, rfl, hO6, hb6⟩
  rw [h6.out] at hO6 ⊢
  have hs6 := hb6.size
  unfold tabV
  simp only at hO6
  have hH6 := hG5.below hb6 (by omega)
  have hK6 := hH6.frozen
  have hJ6 := hH6.cell
  obtain ⟨V6, hV6, hB6, hS6, hG6, hx6, hy6⟩ := boxedB w6 _ rfl #[.int .i64 2, .int .i64 2, .int .i64 1, .int .i64 0, .slice A6 2 c6, .int .u32 0] 27
  have hL6' := hG6
  have hL6 := hG6.cell
  have hM6 := hG6.frozen
  obtain ⟨W6, hW6, ho6, hT6, hG6, hx6, hy6⟩ := storedB hG6 5 (.int .u32 0)
  clear hx6 hy6
  have hbw6 := Only.below ((hbw5.trans (hb6.mono (by omega))).trans (hB6.mono (by omega))) ho6 (by omega) (by omega)
  have hI6 := (hH6.below hB6 hH6.lt).grown ho6 (by have := hH6.lt; simp; omega)
  have hC6 := hI6.cell
  have hE6 := (((hP5.below (hb6.mono (Nat.le_refl _))).below hB6).box hL6' ho6 (by decide) (by decide)).at_
  go_wp2_with fail
  refine (tabMay_any ⟨2, 2, 1, 0⟩ A5 2 c5 0 [⟨1, [7]⟩, ⟨3, [9]⟩] _ (by omega) hE6).mono ?_
  rintro e7 w7 ⟨rfl, hb7⟩
  rw [h7.out]
  go_wp2_with fail
  go_ret
  exact ⟨rfl, hbw6.trans (hb7.mono (by omega))⟩
def Tab.small (t : Tab) : Bool := decide (t.e.length ≤ 20) && t.e.all fun e => decide (e.v.length ≤ 6)
def fewB (ts : List Tab) : Bool := decide (ts.length ≤ 6) && ts.all Tab.small
theorem Tab.small_iff (t : Tab) : t.small = true ↔ t.e.length ≤ 20 ∧ ∀ e ∈ t.e, e.v.length ≤ 6 := by
  simp [Tab.small]
theorem kTab.get {w : World} {B : Nat} {A : Option Addr} {n c : Nat} {ts : List Tab} (h : kTab.At w B A n c ts) {i : Nat} (hi : i < n) :
    ∃ t ad A' n' c', ts[i]? = some t ∧ A = some ad ∧ ad.block < B ∧ w.cell? (ad.add (i * 6)) = some (.int .i64 t.s.kind) ∧
      w.cell? ⟨(ad.add (i * 6)).block, (ad.add (i * 6)).off + 1, none⟩ = some (.int .i64 t.s.cap) ∧
      w.cell? ⟨(ad.add (i * 6)).block, (ad.add (i * 6)).off + 2, none⟩ = some (.int .i64 t.s.words) ∧
      w.cell? ⟨(ad.add (i * 6)).block, (ad.add (i * 6)).off + 3, none⟩ = some (.int .i64 t.s.ver) ∧
      w.cell? ⟨(ad.add (i * 6)).block, (ad.add (i * 6)).off + 4, none⟩ = some (.slice A' n' c') ∧
      w.cell? ⟨(ad.add (i * 6)).block, (ad.add (i * 6)).off + 5, none⟩ = some (.int .u32 (t.next : Int)) ∧ t.s.Ok ∧ t.next < 4294967296 ∧ kEnt.At w B A' n' c' t.e := by
  obtain ⟨x, ad, cs, hx, e, hB, hc, hk⟩ := h.get hi
  obtain ⟨A', n', c', rfl, hs, hlt, hv⟩ := hk
  refine ⟨x, ad, A', n', c', hx, e, hB, ?_, ?_, ?_, ?_, ?_, ?_, hs, hlt, hv⟩
  · simpa [kTab] using hc 0 _ rfl
  all_goals (rw [← add_fld]; exact hc _ _ rfl)
theorem all_take_succ {α : Type} {p : α → Bool} {xs : List α} {k : Nat} {x : α} (h : xs[k]? = some x) : (xs.take (k + 1)).all p = ((xs.take k).all p && p x) := by
  rw [List.take_add_one, h, List.all_append]
  simp
def fewK (ts : List Tab) (k : Nat) : Bool := decide (ts.length ≤ 6) && (ts.take k).all Tab.small
def smallK (t : Tab) (k : Nat) : Bool := decide (t.e.length ≤ 20) && (t.e.take k).all fun e => decide (e.v.length ≤ 6)
theorem fewK_all {ts : List Tab} {n : Nat} (h : ts.length = n) : fewK ts n = fewB ts := by
  unfold fewK fewB
  rw [List.take_of_length_le (by omega)]
theorem smallK_all {t : Tab} {n : Nat} (h : t.e.length = n) : smallK t n = t.small := by
  unfold smallK Tab.small
  rw [List.take_of_length_le (by omega)]
theorem all_take {α : Type} {p : α → Bool} {xs : List α} {k : Nat} (h : (xs.take k).all p = false) : xs.all p = false := by
  cases hx : xs.all p with
  | false => rfl
  | true =>
    rw [List.all_eq_true] at hx
    have : (xs.take k).all p = true := by
      rw [List.all_eq_true]
      intro x hm
      exact hx x (List.mem_of_mem_take hm)
    rw [h] at this
    cases this
theorem fewK_no {ts : List Tab} {k : Nat} (h : fewK ts k = false) : fewB ts = false := by
  unfold fewK at h
  unfold fewB
  rw [Bool.and_eq_false_iff] at h ⊢
  exact h.imp id all_take
theorem smallK_no {t : Tab} {k : Nat} (h : smallK t k = false) : t.small = false := by
  unfold smallK at h
  unfold Tab.small
  rw [Bool.and_eq_false_iff] at h ⊢
  exact h.imp id all_take
theorem fewK_succ {ts : List Tab} {k : Nat} {t : Tab} (h : fewK ts k = true) (ht : ts[k]? = some t) : fewK ts (k + 1) = t.small := by
  unfold fewK at h ⊢
  rw [all_take_succ ht]
  rw [Bool.and_eq_true] at h
  simp [h.1, h.2]
theorem smallK_succ {t : Tab} {k : Nat} {e : Ent} (h : smallK t k = true) (he : t.e[k]? = some e) : smallK t (k + 1) = decide (e.v.length ≤ 6) := by
  unfold smallK at h ⊢
  rw [all_take_succ he]
  rw [Bool.and_eq_true] at h
  simp [h.1, h.2]
set_option maxRecDepth 100000 in
set_option maxHeartbeats 2000000 in
theorem few_any (A : Option Addr) (n c : Nat) (ts : List Tab) (w : World) (B : Nat) (hT : kTab.At w B A n c ts) :
    Calls prog 33 #[.slice A n c] w fun e w' => e = .returned (.bool (fewB ts)) ∧ w = w' := by
  have hn := hT.nle
  have hl := Lib.hid hT.len
  go_enter func33, ntmps33
  go_wp2_with fail
  go_loop [3, 4] (fun ok i => ∃ k : Nat, k ≤ n ∧ i = .int .i64 k ∧ ok = .bool (fewK ts k)) (fun _ i => n - (intOf i).toNat)
  case atStart =>
    refine ⟨0, Nat.zero_le _, rfl, ?_⟩
    simp [fewK, hl.out]
    omega
  case round =>
    obtain ⟨k, hk, rfl, rfl⟩ := hrel
    rcases hok : fewK ts k with _ | _
    · by_cases hlt : k < n
      all_goals
        have hki : decide ((k : Int) < (n : Int)) = decide (k < n) := by simp
        go_wp2_with fail
        go_ret
        exact ⟨ret_bool (fewK_no hok).symm, rfl⟩
    by_cases hlt : k < n
    case neg =>
      go_wp2_with fail
      go_ret
      obtain rfl : k = n := by omega
      exact ⟨ret_bool (by rw [← fewK_all hl.out, hok]), rfl⟩
    obtain ⟨t, ad, A', m, c', ht, rfl, hadB, q0, q1, q2, q3, q4, q5, hs, hnx, hE⟩ := kTab.get hT hlt
    have hm := hE.nle
    have hlm := Lib.hid hE.len
    replace ht := Lib.hid ht
    go_wp2_with fail
    go_loop [3, 5] (fun ok j => ∃ q : Nat, q ≤ m ∧ j = .int .i64 q ∧ ok = .bool (smallK t q)) (fun _ j => m - (intOf j).toNat)
    case atStart =>
      refine ⟨0, Nat.zero_le _, rfl, ?_⟩
      simp [smallK, hlm.out]
      omega
    case round =>
      obtain ⟨q, hq, rfl, rfl⟩ := hrel
      have hend : ∀ b : Bool, b = t.small → fewK ts (k + 1) = b := fun b hb => by rw [hb]; exact fewK_succ hok ht.out
      replace hend := Lib.hid hend
      rcases hok' : smallK t q with _ | _
      · have hfin := Lib.hid (hend.out false (smallK_no hok').symm)
        by_cases hlt' : q < m
        all_goals
          go_wp2_with fail
          refine ⟨⟨k + 1, by omega, by go_num, by rw [hfin.out]⟩, by simp [intOf]; omega⟩
      by_cases hlt' : q < m
      case neg =>
        obtain rfl : q = m := by omega
        have hfin := Lib.hid (hend.out true (by rw [← smallK_all hlm.out, hok']))
        go_wp2_with fail
        refine ⟨⟨k + 1, by omega, by go_num, by rw [hfin.out]⟩, by simp [intOf]; omega⟩
      obtain ⟨e, ad', D, m', d, he, rfl, hb1, hk0, hk1, hkey, hv⟩ := kEnt.get hE hlt'
      have hv' := hv.nle
      have hfin := Lib.hid (smallK_succ hok' he)
      have hvl := Lib.hid hv.len
      clear he
      go_wp2_with fail
      refine ⟨⟨q + 1, by omega, by go_num, ?_⟩, by simp [intOf]; omega⟩
      rw [hfin.out, hvl.out]
      simp
      omega
set_option maxHeartbeats 1000000 in
theorem few1_any (s : Sch) (A : Option Addr) (n c nx : Nat) (es : List Ent) (w : World) (hs : s.Ok) (hx : nx < 4294967296) (hE : kEnt.At w w.heap.size A n c es) :
    Calls prog 14 #[tabV s A n c nx] w fun e w' => e = .returned (.bool (Tab.small ⟨s, es, nx⟩)) ∧ Below w.heap.size w w' := by
  unfold tabV
  obtain ⟨W1, hW1, hB1, hS1, hC1, hF1, hO1⟩ := boxed w _ rfl #[.int .i64 s.kind, .int .i64 s.cap, .int .i64 s.words, .int .i64 s.ver, .slice A n c, .int .u32 (nx : Int)] 27
  obtain ⟨W2, hW2, hB2, hS2, hC2, hF2, hO2⟩ := boxed W1 _ hS1 #[.int .i64 s.kind, .int .i64 s.cap, .int .i64 s.words, .int .i64 s.ver, .slice A n c, .int .u32 (nx : Int)] 27
  have hB := hB1.trans (hB2.mono (Nat.le_succ _))
  have hT : kTab.At W2 W2.heap.size (some ⟨w.heap.size + 1, 0, none⟩) 1 1 [Tab.mk s es nx] := by
    refine ⟨rfl, Nat.le_refl _, by simp [maxLen], fun i x hi => ?_⟩
    obtain rfl : i = 0 := by
      have := (List.getElem?_eq_some_iff.1 hi).1
      simp at this
      omega
    simp at hi
    subst hi
    refine ⟨_, _, rfl, by simp [hS2], ?_, ⟨A, n, c, rfl, hs, hx, (hE.below hB).mono (by omega)⟩⟩
    intro j u hu
    rw [add_lit0]
    simp only [Nat.zero_mul, Nat.zero_add]
    rw [hC2 j]
    simpa using hu
  have hfin : fewB [Tab.mk s es nx] = Tab.small ⟨s, es, nx⟩ := by simp [fewB]
  replace hfin := Lib.hid hfin
  go_enter func14, ntmps14
  go_wp2_with (go_at_call 33; refine (few_any _ _ _ [Tab.mk s es nx] _ _ hT).mono ?_; rintro e1 w2 ⟨rfl, rfl⟩)
  go_ret
  exact ⟨ret_bool hfin.out, hB⟩
set_option maxHeartbeats 1000000 in
theorem words_any (A A' : Option Addr) (n n' c c' : Nat) (xs ys : List Nat) (w : World) (B : Nat) (hx : kW.At w B A n c xs) (hy : kW.At w B A' n' c' ys) :
    Calls prog 56 #[.slice A n c, .slice A' n' c'] w fun e w' => e = .returned (.bool (sameB xs ys)) ∧ Drawn w w' := by
  have hn := hx.nle
  have hlx := Lib.hid hx.len
  have hly := Lib.hid hy.len
  rcases hnn : ((n : Int) != (n' : Int)) with _ | _
  · have e1 : n' = n := by simp at hnn; omega
    subst e1
    go_enter func56, ntmps56
    go_wp2_with fail
    go_loopw [5] (fun i wr => ∃ k : Nat, k ≤ n' ∧ i = .int .i64 k ∧ Drawn w wr ∧ (∀ i, i < k → xs[i]? = ys[i]?)) (fun i _ => n' - (intOf i).toNat)
    case atStart => exact ⟨0, Nat.zero_le _, rfl, Drawn.refl _, fun i h => absurd h (by omega)⟩
    case round =>
      obtain ⟨k, hk, rfl, hd, hall⟩ := hrel
      replace hall := Lib.hid hall
      by_cases hlt : k < n'
      · obtain ⟨x, ad, h1, rfl, hb1, hc1, hx1⟩ := kW.get (hx.below hd.below) hlt
        obtain ⟨y, ad', h2, rfl, hb2, hc2, hy1⟩ := kW.get (hy.below hd.below) hlt
        replace h1 := Lib.hid h1
        replace h2 := Lib.hid h2
        have hki : (k : Int) < (n' : Int) := by omega
        rcases hxy : ((x : Int) != (y : Int)) with _ | _
        · go_wp2_with fail
          go_quiet (fail)
          go_wp2_with fail
          refine ⟨⟨k + 1, by omega, by go_num, hd.step _, fun i hi => ?_⟩, by simp [intOf]; omega⟩
          rcases Nat.lt_or_ge i k with h | h
          · exact hall.out i h
          · obtain rfl : i = k := by omega
            rw [h1.out, h2.out]
            simp at hxy
            rw [show x = y by omega]
        · go_wp2_with fail
          go_quiet (fail)
          go_wp2_with fail
          go_ret
          refine ⟨ret_bool ?_, hd.step _⟩
          symm
          rw [sameB_no]
          rintro rfl
          have h3 := h1.out.symm.trans h2.out
          simp at h3
          simp [h3] at hxy
      · go_wp2_with fail
        go_ret
        obtain rfl : k = n' := by omega
        exact ⟨ret_bool (sameB_iff.2 (list_same hlx.out hly.out hall.out)).symm, hd⟩
  · go_enter func56, ntmps56
    go_wp2_with fail
    go_ret
    refine ⟨ret_bool ?_, Drawn.refl _⟩
    symm
    rw [sameB_no]
    rintro rfl
    have := hlx.out.symm.trans hly.out
    simp [this] at hnn
set_option maxHeartbeats 1000000 in
theorem equal_any (A A' : Option Addr) (n n' c c' : Nat) (xs ys : List Nat) (w : World) (B : Nat) (hx : kW.At w B A n c xs) (hy : kW.At w B A' n' c' ys) :
    Calls prog 64 #[.slice A n c, .slice A' n' c'] w fun e w' => e = .returned (.bool (sameB xs ys)) ∧ Drawn w w' := by
  have hn := hx.nle
  have hlx := Lib.hid hx.len
  have hly := Lib.hid hy.len
  rcases hnn : ((n : Int) != (n' : Int)) with _ | _
  · have e1 : n' = n := by simp at hnn; omega
    subst e1
    go_enter func64, ntmps64
    go_wp2_with fail
    go_loopw [13] (fun i wr => ∃ k : Nat, k ≤ n' ∧ i = .int .i64 k ∧ Drawn w wr ∧ (∀ i, i < k → xs[i]? = ys[i]?)) (fun i _ => n' - (intOf i).toNat)
    case atStart => exact ⟨0, Nat.zero_le _, rfl, Drawn.refl _, fun i h => absurd h (by omega)⟩
    case round =>
      obtain ⟨k, hk, rfl, hd, hall⟩ := hrel
      replace hall := Lib.hid hall
      by_cases hlt : k < n'
      · obtain ⟨x, ad, h1, rfl, hb1, hc1, hx1⟩ := kW.get (hx.below hd.below) hlt
        obtain ⟨y, ad', h2, rfl, hb2, hc2, hy1⟩ := kW.get (hy.below hd.below) hlt
        replace h1 := Lib.hid h1
        replace h2 := Lib.hid h2
        have hki : (k : Int) < (n' : Int) := by omega
        rcases hxy : ((x : Int) != (y : Int)) with _ | _
        · go_wp2_with fail
          go_quiet (fail)
          go_wp2_with fail
          refine ⟨⟨k + 1, by omega, by go_num, hd.step _, fun i hi => ?_⟩, by simp [intOf]; omega⟩
          rcases Nat.lt_or_ge i k with h | h
          · exact hall.out i h
          · obtain rfl : i = k := by omega
            rw [h1.out, h2.out]
            simp at hxy
            rw [show x = y by omega]
        · go_wp2_with fail
          go_quiet (fail)
          go_wp2_with fail
          go_ret
          refine ⟨ret_bool ?_, hd.step _⟩
          symm
          rw [sameB_no]
          rintro rfl
          have h3 := h1.out.symm.trans h2.out
          simp at h3
          simp [h3] at hxy
      · go_wp2_with fail
        go_ret
        obtain rfl : k = n' := by omega
        exact ⟨ret_bool (sameB_iff.2 (list_same hlx.out hly.out hall.out)).symm, hd⟩
  · go_enter func64, ntmps64
    go_wp2_with fail
    go_ret
    refine ⟨ret_bool ?_, Drawn.refl _⟩
    symm
    rw [sameB_no]
    rintro rfl
    have := hlx.out.symm.trans hly.out
    simp [this] at hnn
set_option maxRecDepth 100000 in
set_option maxHeartbeats 2000000 in
theorem refSame_any (s s' : Sch) (A A' : Option Addr) (n n' c c' nx nx' : Nat) (es es' : List Ent) (w : World) (hE : kEnt.At w w.heap.size A n c es) (hE' : kEnt.At w w.heap.size A' n' c' es') :
    Calls prog 20 #[tabV s A n c nx, tabV s' A' n' c' nx'] w fun e w' => e = .returned (.bool (sameB (Tab.mk s es nx) (Tab.mk s' es' nx'))) ∧ Below w.heap.size w w' := by
  have hn := hE.nle
  have hl := Lib.hid hE.len
  have hl' := Lib.hid hE'.len
  unfold tabV
  obtain ⟨W1, hW1, hB1, hS1, hC1, hF1, hO1⟩ := boxed w _ rfl #[.int .i64 s.kind, .int .i64 s.cap, .int .i64 s.words, .int .i64 s.ver, .slice A n c, .int .u32 (nx : Int)] 27
  obtain ⟨W2, hW2, hB2, hS2, hC2, hF2, hO2⟩ := boxed W1 _ hS1 #[.int .i64 s'.kind, .int .i64 s'.cap, .int .i64 s'.words, .int .i64 s'.ver, .slice A' n' c', .int .u32 (nx' : Int)] 27
  have hB := hB1.trans (hB2.mono (Nat.le_succ _))
  by_cases hss : s = s' ∧ nx = nx'
  case neg =>
    replace hss := Lib.hid hss
    go_enter func20, ntmps20
    go_wp2_with fail
    all_goals first
      | (go_ret
         refine ⟨ret_bool (sameB_no.2 ?_).symm, hB⟩
         intro h
         simp only [Tab.mk.injEq] at h
         exact hss.out ⟨h.1, h.2.2⟩)
      | (exfalso
         refine hss.out ⟨?_, by omega⟩
         cases s; cases s'
         simp_all)
  obtain ⟨rfl, rfl⟩ := hss
  rcases hnn : ((n : Int) != (n' : Int)) with _ | _
  case true =>
    go_enter func20, ntmps20
    go_wp2_with fail
    go_ret
    refine ⟨ret_bool (sameB_no.2 ?_).symm, hB⟩
    intro h
    simp only [Tab.mk.injEq] at h
    obtain ⟨_, rfl, _⟩ := h
    have := hl.out.symm.trans hl'.out
    simp [this] at hnn
  have e1 : n' = n := by simp at hnn; omega
  subst e1
  go_enter func20, ntmps20
  go_wp2_with fail
  go_loopw [5] (fun i wr => ∃ k : Nat, k ≤ n' ∧ i = .int .i64 k ∧ Drawn W2 wr ∧ (∀ i, i < k → es[i]? = es'[i]?)) (fun i _ => n' - (intOf i).toNat)
  case atStart => exact ⟨0, Nat.zero_le _, rfl, Drawn.refl _, fun i h => absurd h (by omega)⟩
  case round =>
    obtain ⟨k, hk, rfl, hd, hall⟩ := hrel
    replace hall := Lib.hid hall
    have hbr := hB.trans hd.below
    obtain ⟨hc3, hf3⟩ := bcell (hd.below (B := w.heap.size + 2))
    by_cases hlt : k < n'
    · obtain ⟨e, ad, D, m, d, h1, rfl, hb1, hk0, hk1, hkey, hv⟩ := kEnt.get (hE.below hbr) hlt
      obtain ⟨e', ad', D', m', d', h1', rfl, hb1', hk0', hk1', hkey', hv'⟩ := kEnt.get (hE'.below hbr) hlt
      replace h1 := Lib.hid h1
      replace h1' := Lib.hid h1'
      have hki : (k : Int) < (n' : Int) := by omega
      rcases hvv : sameB e.v e'.v with _ | _
      · go_wp2_with fail
        go_quiet ((go_at_call 56; exact Drawn.quiet (words_any _ _ _ _ _ _ _ _ _ _ (by exact hv.below (below_drewN (Below.refl _ _) _)) (by exact hv'.below (below_drewN (Below.refl _ _) _)))))
        go_wp2_with fail
        go_quiet (fail)
        go_wp2_with fail
        go_ret
        refine ⟨ret_bool (sameB_no.2 ?_).symm, by first | exact below_drewN hbr _ | exact below_drewN (below_drewN hbr _) _⟩
        intro h
        simp only [Tab.mk.injEq] at h
        obtain ⟨_, rfl, _⟩ := h
        obtain rfl : e = e' := by have := h1.out.symm.trans h1'.out; simpa using this
        rw [sameB_self] at hvv
        cases hvv
      rcases hkk : ((e.key : Int) != (e'.key : Int)) with _ | _
      · go_wp2_with fail
        go_quiet ((go_at_call 56; exact Drawn.quiet (words_any _ _ _ _ _ _ _ _ _ _ (by exact hv.below (below_drewN (Below.refl _ _) _)) (by exact hv'.below (below_drewN (Below.refl _ _) _)))))
        go_wp2_with fail
        go_quiet (fail)
        go_wp2_with fail
        refine ⟨⟨k + 1, by omega, by go_num, by first | exact hd.step _ | exact (hd.step _).step _, fun i hi => ?_⟩, by simp [intOf]; omega⟩
        rcases Nat.lt_or_ge i k with h | h
        · exact hall.out i h
        · obtain rfl : i = k := by omega
          rw [h1.out, h1'.out]
          have hvv' := sameB_iff.1 hvv
          cases e; cases e'
          simp at hkk hvv' ⊢
          exact ⟨by omega, hvv'⟩
      · go_wp2_with fail
        go_quiet ((go_at_call 56; exact Drawn.quiet (words_any _ _ _ _ _ _ _ _ _ _ (by exact hv.below (below_drewN (Below.refl _ _) _)) (by exact hv'.below (below_drewN (Below.refl _ _) _)))))
        go_wp2_with fail
        go_quiet (fail)
        go_wp2_with fail
        go_ret
        refine ⟨ret_bool (sameB_no.2 ?_).symm, by first | exact below_drewN hbr _ | exact below_drewN (below_drewN hbr _) _⟩
        intro h
        simp only [Tab.mk.injEq] at h
        obtain ⟨_, rfl, _⟩ := h
        obtain rfl : e = e' := by have := h1.out.symm.trans h1'.out; simpa using this
        simp at hkk
    · go_wp2_with fail
      go_ret
      obtain rfl : k = n' := by omega
      refine ⟨ret_bool (sameB_iff.2 ?_).symm, hbr⟩
      rw [list_same hl.out hl'.out hall.out]
set_option maxHeartbeats 1000000 in
theorem entEq_any (k k' : Nat) (A A' : Option Addr) (n n' c c' : Nat) (xs ys : List Nat) (w : World) (hx : kW.At w w.heap.size A n c xs) (hy : kW.At w w.heap.size A' n' c' ys) :
    Calls prog 63 #[.agg #[.int .u32 (k : Int), .slice A n c], .agg #[.int .u32 (k' : Int), .slice A' n' c']] w fun e w' => e = .returned (.bool (sameB (Ent.mk k xs) (Ent.mk k' ys))) ∧ Below w.heap.size w w' := by
  obtain ⟨W1, hW1, hB1, hS1, hC1, hF1, hO1⟩ := boxed w _ rfl #[.int .u32 (k : Int), .slice A n c] 41
  obtain ⟨W2, hW2, hB2, hS2, hC2, hF2, hO2⟩ := boxed W1 _ hS1 #[.int .u32 (k' : Int), .slice A' n' c'] 41
  have hB := hB1.trans (hB2.mono (Nat.le_succ _))
  rcases hk : ((k : Int) == (k' : Int)) with _ | _
  · go_enter func63, ntmps63
    go_wp2_with fail
    go_ret
    refine ⟨ret_bool (sameB_no.2 ?_).symm, hB⟩
    intro h
    simp only [Ent.mk.injEq] at h
    simp [h.1] at hk
  · rcases hv : sameB xs ys with _ | _
    all_goals
      go_enter func63, ntmps63
      go_wp2_with (go_at_call 64; refine (equal_any _ _ _ _ _ _ xs ys _ _ (by exact hx.below hB) (by exact hy.below hB)).mono ?_; rintro e1 w2 ⟨rfl, hd⟩)
      go_ret
    · exact ⟨ret_bool (by rw [eq_comm, sameB_no]; intro h; simp only [Ent.mk.injEq] at h; exact sameB_no.1 hv h.2), hB.trans hd.below⟩
    · have e1 := sameB_iff.1 hv
      have e2 : k = k' := by simp at hk; omega
      exact ⟨ret_bool (by rw [e1, e2, sameB_self]), hB.trans hd.below⟩
set_option maxRecDepth 100000 in
set_option maxHeartbeats 2000000 in
theorem eqFunc_any (A A' : Option Addr) (n n' c c' : Nat) (es es' : List Ent) (w : World) (hE : kEnt.At w w.heap.size A n c es) (hE' : kEnt.At w w.heap.size A' n' c' es') :
    Calls prog 62 #[.slice A n c, .slice A' n' c', .func (.func 63) #[] #[]] w fun e w' => e = .returned (.bool (sameB es es')) ∧ Below w.heap.size w w' := by
  have hn := hE.nle
  have hl := Lib.hid hE.len
  have hl' := Lib.hid hE'.len
  rcases hnn : ((n : Int) != (n' : Int)) with _ | _
  case true =>
    go_enter func62, ntmps62
    go_wp2_with fail
    go_ret
    refine ⟨ret_bool (sameB_no.2 ?_).symm, Below.refl _ _⟩
    rintro rfl
    have := hl.out.symm.trans hl'.out
    simp [this] at hnn
  have e1 : n' = n := by simp at hnn; omega
  subst e1
  go_enter func62, ntmps62
  go_wp2_with fail
  go_loopw [17] (fun i wr => ∃ k : Nat, k ≤ n' ∧ i = .int .i64 k ∧ Below w.heap.size w wr ∧ (∀ i, i < k → es[i]? = es'[i]?)) (fun i _ => n' - (intOf i).toNat)
  case atStart => exact ⟨0, Nat.zero_le _, rfl, Below.refl _ _, fun i h => absurd h (by omega)⟩
  case round =>
    obtain ⟨k, hk, rfl, hb, hall⟩ := hrel
    replace hall := Lib.hid hall
    have hsz := hb.size
    by_cases hlt : k < n'
    · obtain ⟨e, ad, D, m, d, h1, rfl, hb1, hk0, hk1, hkey, hv⟩ := kEnt.get (hE.below hb) hlt
      obtain ⟨e', ad', D', m', d', h1', rfl, hb1', hk0', hk1', hkey', hv'⟩ := kEnt.get (hE'.below hb) hlt
      replace h1 := Lib.hid h1
      replace h1' := Lib.hid h1'
      have hki : (k : Int) < (n' : Int) := by omega
      obtain ⟨W1, hW1, hB1, hS1, hC1, hF1, hO1⟩ := boxed wr _ rfl #[.int .u32 (e.key : Int), .slice D m d] 41
      have hx1 : W1.cell? (ad'.add (k * 2)) = some (Value.int IntKind.u32 ↑e'.key) := (hB1.cell (by rw [add_block]; omega)).trans hk0'
      have hx2 : W1.cell? ⟨(ad'.add (k * 2)).block, (ad'.add (k * 2)).off + 1, none⟩ = some (Value.slice D' m' d') := (hB1.cell (by show (ad'.add (k * 2)).block < _; rw [add_block]; omega)).trans hk1'
      obtain ⟨W2, hW2, hB2, hS2, hC2, hF2, hO2⟩ := boxed W1 _ hS1 #[.int .u32 (e'.key : Int), .slice D' m' d'] 41
      have hB := hB1.trans (hB2.mono (Nat.le_succ _))
      have hbn := hb.trans (hB.mono hsz)
      rcases hee : sameB e e' with _ | _
      · replace hee : sameB (Ent.mk e.key e.v) (Ent.mk e'.key e'.v) = false := hee
        go_wp2_with (go_at_call 63; refine (entEq_any _ _ _ _ _ _ _ _ e.v e'.v _ (by exact (hv.below (hB.mono hsz)).mono (by omega)) (by exact (hv'.below (hB.mono hsz)).mono (by omega))).mono ?_; rintro e1 w2 ⟨rfl, hb2⟩)
        go_ret
        refine ⟨ret_bool (sameB_no.2 ?_).symm, hbn.trans (hb2.mono (by omega))⟩
        rintro rfl
        have := h1.out.symm.trans h1'.out
        simp only [Option.some.injEq] at this
        rw [this, sameB_self] at hee
        cases hee
      · have hee' := sameB_iff.1 hee
        replace hee : sameB (Ent.mk e.key e.v) (Ent.mk e'.key e'.v) = true := hee
        replace hee' := Lib.hid hee'
        go_wp2_with (go_at_call 63; refine (entEq_any _ _ _ _ _ _ _ _ e.v e'.v _ (by exact (hv.below (hB.mono hsz)).mono (by omega)) (by exact (hv'.below (hB.mono hsz)).mono (by omega))).mono ?_; rintro e1 w2 ⟨rfl, hb2⟩)
        refine ⟨⟨k + 1, by omega, by go_num, hbn.trans (hb2.mono (by omega)), fun i hi => ?_⟩, by simp [intOf]; omega⟩
        rcases Nat.lt_or_ge i k with h | h
        · exact hall.out i h
        · obtain rfl : i = k := by omega
          rw [h1.out, h1'.out, hee'.out]
    · go_wp2_with fail
      go_ret
      obtain rfl : k = n' := by omega
      exact ⟨ret_bool (sameB_iff.2 (list_same hl.out hl'.out hall.out)).symm, hb⟩
set_option maxRecDepth 100000 in
set_option maxHeartbeats 2000000 in
theorem tabSame_any (s s' : Sch) (A A' : Option Addr) (n n' c c' nx nx' : Nat) (es es' : List Ent) (w : World) (hE : kEnt.At w w.heap.size A n c es) (hE' : kEnt.At w w.heap.size A' n' c' es') :
    Calls prog 31 #[tabV s A n c nx, tabV s' A' n' c' nx'] w fun e w' => e = .returned (.bool (sameB (Tab.mk s es nx) (Tab.mk s' es' nx'))) ∧ Below w.heap.size w w' := by
  unfold tabV
  obtain ⟨W1, hW1, hB1, hS1, hC1, hF1, hO1⟩ := boxed w _ rfl #[.int .i64 s.kind, .int .i64 s.cap, .int .i64 s.words, .int .i64 s.ver, .slice A n c, .int .u32 (nx : Int)] 27
  obtain ⟨W2, hW2, hB2, hS2, hC2, hF2, hO2⟩ := boxed W1 _ hS1 #[.int .i64 s'.kind, .int .i64 s'.cap, .int .i64 s'.words, .int .i64 s'.ver, .slice A' n' c', .int .u32 (nx' : Int)] 27
  have hB := hB1.trans (hB2.mono (Nat.le_succ _))
  by_cases hss : s = s' ∧ nx = nx'
  case neg =>
    replace hss := Lib.hid hss
    go_enter func31, ntmps31
    go_wp2_with fail
    all_goals first
      | (go_ret
         refine ⟨ret_bool (sameB_no.2 ?_).symm, hB⟩
         intro h
         simp only [Tab.mk.injEq] at h
         exact hss.out ⟨h.1, h.2.2⟩)
      | (exfalso
         refine hss.out ⟨?_, by omega⟩
         cases s; cases s'
         simp_all)
  obtain ⟨rfl, rfl⟩ := hss
  rcases hee : sameB es es' with _ | _
  all_goals
    go_enter func31, ntmps31
    go_wp2_with (go_at_call 62; refine (eqFunc_any _ _ _ _ _ _ es es' _ (by exact (hE.below hB).mono (by omega)) (by exact (hE'.below hB).mono (by omega))).mono ?_; rintro e1 w2 ⟨rfl, hb2⟩)
    go_ret
  · exact ⟨ret_bool (by rw [eq_comm, sameB_no]; intro h; simp only [Tab.mk.injEq] at h; exact sameB_no.1 hee h.2.1), hB.trans (hb2.mono (by omega))⟩
  · exact ⟨ret_bool (by rw [sameB_iff.1 hee, sameB_self]), hB.trans (hb2.mono (by omega))⟩
theorem get_s (t : Tab) (key fl : Nat) : (t.get key fl).1.s = t.s ∧ (t.get key fl).1.next = t.next := by
  unfold Tab.get
  split <;> exact ⟨rfl, rfl⟩
theorem del_s (t : Tab) (key : Nat) : (t.del key).1.s = t.s ∧ (t.del key).1.next = t.next := by
  unfold Tab.del
  split
  · exact ⟨rfl, rfl⟩
  · split <;> exact ⟨rfl, rfl⟩
theorem avTab_ofs {w : World} {x : Cx} {hp : Hp} {f : Bool} {t : Tab} {s : Sch} {A : Option Addr} {n c nx : Nat} (h1 : t.s = s) (h2 : t.next = nx) (h : Dat w x.ok (.sl f (t.e.map encEnt)) (.slice A n c)) : VRel w x hp (avTab f t) (tabV s A n c nx) := by
  subst h1
  subst h2
  exact avTab_of h
theorem new_ctr (s : Sch) : Ctr prog 28 [avSch s] [] (.tup [avTab false (Tab.new s).1, .raw (.int .i64 (Tab.new s).2)]) [] := by
  refine Ctr.old call28 fun w cx vals hH hsz ha => ?_
  have e0 := avSch_inv (ha 0 _ rfl)
  have hv : vals = #[.agg #[.int .i64 s.kind, .int .i64 s.cap, .int .i64 s.words, .int .i64 s.ver]] := by
    refine arr_eq hsz fun i hi => ?_
    have hi : i < 1 := hi
    match i, hi with
    | 0, _ => exact e0
  subst hv
  refine Calls.mono (new_any s w) ?_
  rintro e w' ⟨A', n', c', us, rfl, hO, hb⟩
  refine ⟨_, rfl, hb, .tup _ _ rfl (fun i u hu => ?_)⟩
  match i, hu with
  | 0, hu => cases hu; exact avTab_of (ownEs_dat hO fresh_ok)
  | 1, hu => cases hu; exact .raw _
  | i + 2, hu => simp at hu
theorem own_ctr (f : Bool) (t : Tab) (hfit : fits t.e) (hl0 : okEs t.e) : Ctr prog 52 [avTab f t] [] (avTab false t) [] := by
  refine Ctr.old call52 fun w cx vals hH hsz ha => ?_
  obtain ⟨A0, c0, e0, hE0⟩ := avTab_inv hH.okb (ha 0 _ rfl) hl0
  have hv : vals = #[tabV t.s A0 t.e.length c0 t.next] := by
    refine arr_eq hsz fun i hi => ?_
    have hi : i < 1 := hi
    match i, hi with
    | 0, _ => exact e0
  subst hv
  refine Calls.mono (own_any t.s A0 _ c0 t.next t.e w hfit hE0) ?_
  rintro e w' ⟨A', us, rfl, hO, hb⟩
  exact ⟨_, rfl, hb, avTab_of (ownEs_dat hO fresh_ok)⟩
theorem get_ctr (f : Bool) (t : Tab) (key fl : Nat) (hx : t.next < 4294967296) (hf : fl < 4294967296) (hfit : fits t.e) (hl0 : okEs t.e) : Ctr prog 17 [avTab f t, .raw (.int .u32 (key : Int)), .raw (.int .u32 (fl : Int))] [] (.tup [avTab false (t.get key fl).1, .raw (.int .u32 ((t.get key fl).2.1 : Int)), .raw (.bool (t.get key fl).2.2)]) [] := by
  refine Ctr.old call17 fun w cx vals hH hsz ha => ?_
  obtain ⟨A0, c0, e0, hE0⟩ := avTab_inv hH.okb (ha 0 _ rfl) hl0
  have e1 := (ha 1 _ rfl).rawEq
  have e2 := (ha 2 _ rfl).rawEq
  have hv : vals = #[tabV t.s A0 t.e.length c0 t.next, .int .u32 (key : Int), .int .u32 (fl : Int)] := by
    refine arr_eq hsz fun i hi => ?_
    have hi : i < 3 := hi
    match i, hi with
    | 0, _ => exact e0
    | 1, _ => exact e1
    | 2, _ => exact e2
  subst hv
  refine Calls.mono (get_any t.s A0 _ c0 t.next key fl t.e w hx hf hfit hE0) ?_
  rintro e w' ⟨A', c', us, rfl, hO, hb⟩
  refine ⟨_, rfl, hb, .tup _ _ rfl (fun i u hu => ?_)⟩
  match i, hu with
  | 0, hu => cases hu; exact avTab_ofs (get_s t key fl).1 (get_s t key fl).2 (ownEs_dat hO fresh_ok)
  | 1, hu => cases hu; exact .raw _
  | 2, hu => cases hu; exact .raw _
  | i + 3, hu => simp at hu
theorem set_ctr (f : Bool) (t : Tab) (key fl x : Nat) (hx : t.next < 4294967296) (hf : fl < 4294967296) (hk : key < 4294967296) (hxx : x < 4294967296) (hfit : fits t.e) (hl0 : okEs t.e) : Ctr prog 18 [avTab f t, .raw (.int .u32 (key : Int)), .raw (.int .u32 (fl : Int)), .raw (.int .u32 (x : Int))] [] (.tup [avTab false (t.set key fl x).1, .raw (.int .i64 (t.set key fl x).2)]) [] := by
  refine Ctr.old call18 fun w cx vals hH hsz ha => ?_
  obtain ⟨A0, c0, e0, hE0⟩ := avTab_inv hH.okb (ha 0 _ rfl) hl0
  have e1 := (ha 1 _ rfl).rawEq
  have e2 := (ha 2 _ rfl).rawEq
  have e3 := (ha 3 _ rfl).rawEq
  have hv : vals = #[tabV t.s A0 t.e.length c0 t.next, .int .u32 (key : Int), .int .u32 (fl : Int), .int .u32 (x : Int)] := by
    refine arr_eq hsz fun i hi => ?_
    have hi : i < 4 := hi
    match i, hi with
    | 0, _ => exact e0
    | 1, _ => exact e1
    | 2, _ => exact e2
    | 3, _ => exact e3
  subst hv
  refine Calls.mono (set_any t.s A0 _ c0 t.next key fl x t.e w hx hf hk hxx hfit hE0) ?_
  rintro e w' ⟨A', n', c', us, rfl, hO, hb⟩
  refine ⟨_, rfl, hb, .tup _ _ rfl (fun i u hu => ?_)⟩
  match i, hu with
  | 0, hu => cases hu; exact avTab_of (ownEs_dat hO fresh_ok)
  | 1, hu => cases hu; exact .raw _
  | i + 2, hu => simp at hu
theorem del_ctr (f : Bool) (t : Tab) (key : Nat) (hx : t.next < 4294967296) (hfit : fits t.e) (hl0 : okEs t.e) : Ctr prog 19 [avTab f t, .raw (.int .u32 (key : Int))] [] (.tup [avTab false (t.del key).1, .raw (.bool (t.del key).2)]) [] := by
  refine Ctr.old call19 fun w cx vals hH hsz ha => ?_
  obtain ⟨A0, c0, e0, hE0⟩ := avTab_inv hH.okb (ha 0 _ rfl) hl0
  have e1 := (ha 1 _ rfl).rawEq
  have hv : vals = #[tabV t.s A0 t.e.length c0 t.next, .int .u32 (key : Int)] := by
    refine arr_eq hsz fun i hi => ?_
    have hi : i < 2 := hi
    match i, hi with
    | 0, _ => exact e0
    | 1, _ => exact e1
  subst hv
  refine Calls.mono (del_any t.s A0 _ c0 t.next key t.e w hx hfit hE0) ?_
  rintro e w' ⟨A', n', c', us, rfl, hO, hb⟩
  refine ⟨_, rfl, hb, .tup _ _ rfl (fun i u hu => ?_)⟩
  match i, hu with
  | 0, hu => cases hu; exact avTab_ofs (del_s t key).1 (del_s t key).2 (ownEs_dat hO fresh_ok)
  | 1, hu => cases hu; exact .raw _
  | i + 2, hu => simp at hu
theorem may_ctr (f : Bool) (t : Tab) (hx : t.next < 4294967296) (hl0 : okEs t.e) : Ctr prog 15 [avTab f t] [] (.raw (.bool t.may)) [] := by
  refine Ctr.old call15 fun w cx vals hH hsz ha => ?_
  obtain ⟨A0, c0, e0, hE0⟩ := avTab_inv hH.okb (ha 0 _ rfl) hl0
  have hv : vals = #[tabV t.s A0 t.e.length c0 t.next] := by
    refine arr_eq hsz fun i hi => ?_
    have hi : i < 1 := hi
    match i, hi with
    | 0, _ => exact e0
  subst hv
  refine Calls.mono (tabMay_any t.s A0 _ c0 t.next t.e w hx hE0) ?_
  rintro e w' ⟨rfl, hb⟩
  exact ⟨_, rfl, hb, .raw _⟩
theorem rmay_ctr (f : Bool) (t : Tab) (hx : t.next < 4294967296) (hl0 : okEs t.e) : Ctr prog 30 [avTab f t] [] (.raw (.bool t.may)) [] := by
  refine Ctr.old call30 fun w cx vals hH hsz ha => ?_
  obtain ⟨A0, c0, e0, hE0⟩ := avTab_inv hH.okb (ha 0 _ rfl) hl0
  have hv : vals = #[tabV t.s A0 t.e.length c0 t.next] := by
    refine arr_eq hsz fun i hi => ?_
    have hi : i < 1 := hi
    match i, hi with
    | 0, _ => exact e0
  subst hv
  refine Calls.mono (refMay_any t.s A0 _ c0 t.next t.e w hx hE0) ?_
  rintro e w' ⟨rfl, hb⟩
  exact ⟨_, rfl, hb, .raw _⟩
theorem rsame_ctr (f f2 : Bool) (t t2 : Tab) (hl0 : okEs t.e) (hl1 : okEs t2.e) : Ctr prog 20 [avTab f t, avTab f2 t2] [] (.raw (.bool (sameB t t2))) [] := by
  refine Ctr.old call20 fun w cx vals hH hsz ha => ?_
  obtain ⟨A0, c0, e0, hE0⟩ := avTab_inv hH.okb (ha 0 _ rfl) hl0
  obtain ⟨A1, c1, e1, hE1⟩ := avTab_inv hH.okb (ha 1 _ rfl) hl1
  have hv : vals = #[tabV t.s A0 t.e.length c0 t.next, tabV t2.s A1 t2.e.length c1 t2.next] := by
    refine arr_eq hsz fun i hi => ?_
    have hi : i < 2 := hi
    match i, hi with
    | 0, _ => exact e0
    | 1, _ => exact e1
  subst hv
  refine Calls.mono (refSame_any t.s t2.s A0 A1 _ _ c0 c1 t.next t2.next t.e t2.e w hE0 hE1) ?_
  rintro e w' ⟨rfl, hb⟩
  exact ⟨_, rfl, hb, .raw _⟩
theorem same_ctr (f f2 : Bool) (t t2 : Tab) (hl0 : okEs t.e) (hl1 : okEs t2.e) : Ctr prog 31 [avTab f t, avTab f2 t2] [] (.raw (.bool (sameB t t2))) [] := by
  refine Ctr.old call31 fun w cx vals hH hsz ha => ?_
  obtain ⟨A0, c0, e0, hE0⟩ := avTab_inv hH.okb (ha 0 _ rfl) hl0
  obtain ⟨A1, c1, e1, hE1⟩ := avTab_inv hH.okb (ha 1 _ rfl) hl1
  have hv : vals = #[tabV t.s A0 t.e.length c0 t.next, tabV t2.s A1 t2.e.length c1 t2.next] := by
    refine arr_eq hsz fun i hi => ?_
    have hi : i < 2 := hi
    match i, hi with
    | 0, _ => exact e0
    | 1, _ => exact e1
  subst hv
  refine Calls.mono (tabSame_any t.s t2.s A0 A1 _ _ c0 c1 t.next t2.next t.e t2.e w hE0 hE1) ?_
  rintro e w' ⟨rfl, hb⟩
  exact ⟨_, rfl, hb, .raw _⟩
theorem few_ctr (f : Bool) (t : Tab) (hs : t.s.Ok) (hx : t.next < 4294967296) (hl0 : okEs t.e) : Ctr prog 14 [avTab f t] [] (.raw (.bool t.small)) [] := by
  refine Ctr.old call14 fun w cx vals hH hsz ha => ?_
  obtain ⟨A0, c0, e0, hE0⟩ := avTab_inv hH.okb (ha 0 _ rfl) hl0
  have hv : vals = #[tabV t.s A0 t.e.length c0 t.next] := by
    refine arr_eq hsz fun i hi => ?_
    have hi : i < 1 := hi
    match i, hi with
    | 0, _ => exact e0
  subst hv
  refine Calls.mono (few1_any t.s A0 _ c0 t.next t.e w hs hx hE0) ?_
  rintro e w' ⟨rfl, hb⟩
  exact ⟨_, rfl, hb, .raw _⟩
theorem awake5_ctr  : Ctr prog 13 [] [] (.raw (.bool true)) [] := by
  refine Ctr.old call13 fun w cx vals hH hsz ha => ?_
  have hv : vals = #[] := by
    refine arr_eq hsz fun i hi => ?_
    exact absurd hi (by simp)
  subst hv
  refine Calls.mono (awake5_any w) ?_
  rintro e w' ⟨rfl, hb⟩
  exact ⟨_, rfl, hb, .raw _⟩
def Cx.fresh1 (x : Cx) (w w' : World) (ob : Option Nat) (id c : Nat) : Cx :=
  { ok := fun b => x.ok b ∨ (w.heap.size ≤ b ∧ b < w'.heap.size ∧ ob ≠ some b), dom := fun k g => k = id ∧ g = 0, β := fun k => if k = id then ob else x.β k, γ := fun k => if k = id then c else x.γ k }
theorem Ctr.oldRow {P : Program} {f : FuncId} {args : List AV} {r : AV} {id : Nat} {t : TypeId} {sz : Nat} {els : List (List AV)} (hcall : ∀ vals w, (callFunc f vals).run P w = .ok (.enter f vals) w)
    (h : ∀ (w : World) (x : Cx) (vals : Array Value), HRel w x [] → vals.size = args.length → (∀ (i : Nat) (u : AV), args[i]? = some u → VRel w x [] u (vals.getD i undef)) →
      Calls P f vals w fun e w' => ∃ v ob c, e = .returned v ∧ Below w.heap.size w w' ∧ (∀ b, ob = some b → w.heap.size ≤ b ∧ b < w'.heap.size) ∧
        ORel w' (x.fresh1 w w' ob id c) [(id, .row t sz 0 els)] id (.row t sz 0 els) ∧ VRel w' (x.fresh1 w w' ob id c) [(id, .row t sz 0 els)] r v) : Ctr P f args [] r [(id, .row t sz 0 els)] := by
  refine ⟨hcall, fun w x vals hH hdom hsz hargs => Calls.mono (h w x vals hH hsz hargs) ?_⟩
  rintro e w' ⟨v, ob, c, he, hb, hob, hO, hv⟩
  have hno : ∀ k g, ¬ x.dom k g := fun k g hd => by have := hdom k g hd; simp [Hp.has, look] at this
  have hlk : ∀ k o, look [(id, AObj.row t sz 0 els)] k = some o → k = id ∧ o = .row t sz 0 els := fun k o hl => by
    simp only [look] at hl
    split at hl
    · rename_i e1
      injection hl with hl
      exact ⟨e1, hl.symm⟩
    · cases hl
  refine ⟨v, x.fresh1 w w' ob id c, he, ⟨⟨fun b hb => .inl hb, fun k g hd => absurd hd (hno k g), fun b hk => hb.block b (hH.okb b hk), fun k hd => absurd hd (hno k 0), fun k g s hd => absurd hd (hno k g), fun k hd => absurd hd (hno k 0)⟩,
    ⟨hb.os, hb.tape, hb.output, hb.size, fun b hk _ => hb.block b hk, ?_, ?_⟩, ⟨?_, ?_, ?_, ?_, ?_, ?_, ?_⟩⟩, hv, ?_⟩
  · rintro b (h1 | h1)
    · exact .inl h1
    · exact .inr (.inl h1.1)
  · intro k o b hl hβ
    obtain ⟨rfl, rfl⟩ := hlk k o hl
    have hβ : (if k = k then ob else x.β k) = some b := hβ
    rw [if_pos rfl] at hβ
    exact .inl (hob b hβ).1
  · rintro b (h1 | h1)
    · exact Nat.lt_of_lt_of_le (hH.okb b h1) hb.size
    · exact h1.2.1
  · intro k o hl
    exact ⟨(hlk k o hl).1, rfl⟩
  · intro k t' sz' g els' g' hl hd
    have := (hlk k _ hl).2
    injection this with _ _ e3
    have : g' = 0 := hd.2
    omega
  · intro k t' sz' g els' hl
    obtain ⟨h1, h2⟩ := hlk k _ hl
    injection h2 with _ _ e3
    exact ⟨h1, e3⟩
  · intro k o b hl hβ
    obtain ⟨rfl, rfl⟩ := hlk k o hl
    have hβ : (if k = k then ob else x.β k) = some b := hβ
    rw [if_pos rfl] at hβ
    refine ⟨(hob b hβ).2, ?_⟩
    rintro (h1 | h1)
    · have := hH.okb b h1
      have := (hob b hβ).1
      omega
    · exact h1.2.2 hβ
  · intro k k' o o' b hl hl' _ _
    rw [(hlk k o hl).1, (hlk k' o' hl').1]
  · intro k o hl
    obtain ⟨rfl, rfl⟩ := hlk k o hl
    exact hO
  · intro k g hd
    refine .inl ?_
    rw [hd.1]
    simp [Hp.has, look]
theorem own_rctr (f : Bool) (t : Tab) (id : Nat) (hfit : fits t.e) (hl0 : okEs t.e) : Ctr prog 52 [avTab f t] []
    (.agg [.raw (.int .i64 t.s.kind), .raw (.int .i64 t.s.cap), .raw (.int .i64 t.s.words), .raw (.int .i64 t.s.ver), .row id 0 2 0 t.e.length, .raw (.int .u32 (t.next : Int))])
    [(id, .row 41 2 0 (t.e.map encEnt))] := by
  refine Ctr.oldRow call52 fun w cx vals hH hsz ha => ?_
  obtain ⟨A0, c0, e0, hE0⟩ := avTab_inv hH.okb (ha 0 _ rfl) hl0
  have hv : vals = #[tabV t.s A0 t.e.length c0 t.next] := by
    refine arr_eq hsz fun i hi => ?_
    have hi : i < 1 := hi
    match i, hi with
    | 0, _ => exact e0
  subst hv
  refine Calls.mono (own_any t.s A0 _ c0 t.next t.e w hfit hE0) ?_
  rintro e w' ⟨A', us, rfl, hO, hb⟩
  have hres : ∀ {x : Cx} {hp : Hp} {rv : AV} , VRel w' x hp rv (.slice A' t.e.length t.e.length) → VRel w' x hp (.agg [.raw (.int .i64 t.s.kind), .raw (.int .i64 t.s.cap), .raw (.int .i64 t.s.words), .raw (.int .i64 t.s.ver), rv, .raw (.int .u32 (t.next : Int))]) (tabV t.s A' t.e.length t.e.length t.next) := by
    intro x hp rv h
    refine .agg _ _ rfl ?_ ?_
    · intro i hi
      have hi : i < 6 := hi
      match i, hi with
      | 0, _ => rfl
      | 1, _ => rfl
      | 2, _ => rfl
      | 3, _ => rfl
      | 4, _ => rfl
      | 5, _ => rfl
    · intro i u hu
      match i, hu with
      | 0, hu => cases hu; exact .raw _
      | 1, hu => cases hu; exact .raw _
      | 2, hu => cases hu; exact .raw _
      | 3, hu => cases hu; exact .raw _
      | 4, hu => cases hu; exact h
      | 5, hu => cases hu; exact .raw _
      | i + 6, hu => simp at hu
  have huni : ∀ (i : Nat) (cs : List AV), (t.e.map encEnt)[i]? = some cs → cs.length = 2 := by
    intro i cs hi
    rw [List.getElem?_map] at hi
    obtain ⟨x, _, rfl⟩ := Option.map_eq_some_iff.1 hi
    rfl
  rcases hO.row.2 with ⟨e1, h2⟩ | ⟨g, cap, cur, e1, h2, h3, h4, h5, h6, h7⟩
  · have hnil : t.e = [] := List.length_eq_zero_iff.1 h2
    injection e1 with e1 _ _
    subst e1
    refine ⟨_, none, 0, rfl, hb, fun b hb => by (cases hb), ⟨huni, .inl ⟨if_pos rfl, by rw [hnil]; rfl⟩⟩, hres ?_⟩
    rw [h2]
    exact .row id 0 2 0 0 none 0 ⟨rfl, rfl⟩ (Nat.le_refl _) fun _ => .inl ⟨rfl, rfl, by show (if id = id then 0 else _) ≤ 0; rw [if_pos rfl]; exact Nat.le_refl _⟩
  · injection e1 with e1 _ e3
    subst e1
    subst e3
    have hg := (Array.getElem?_eq_some_iff.1 h3).1
    have hcur : cur.toList = entCells t.e us := by
      rw [← h7, List.take_of_length_le]
      rw [Array.length_toList, h6]
      exact Nat.le_refl _
    have hus : ∀ i x, t.e[i]? = some x → ∃ u, us[i]? = some u := fun i x hx => by
      have := (List.getElem?_eq_some_iff.1 hx).1
      exact ⟨_, List.getElem?_eq_getElem (by rw [hO.len]; exact this)⟩
    have hok : ∀ (i : Nat) (x : Ent) (u : Value), t.e[i]? = some x → us[i]? = some u → Dat w' (cx.fresh1 w w' (some g) id t.e.length).ok (.sl false (x.v.map encW)) u := by
      intro i x u hx hu
      have hW := (hO.val i x u hx hu).1
      refine ownW_dat hW fun b hb1 hb2 hb3 => .inr ⟨hb2, hb3, ?_⟩
      rintro hgb
      injection hgb with hgb
      exact hW.blk_ne hO.row (b := b) (by simp [Value.ownBlock, hgb]) hb1
    have hone : ∀ u ∈ us, u.oneCell' = true := by
      intro u hu
      obtain ⟨i, hi⟩ := List.getElem?_of_mem hu
      have hil := (List.getElem?_eq_some_iff.1 hi).1
      rw [hO.len] at hil
      exact (hok i _ u (List.getElem?_eq_getElem hil) hi).one
    have hget : ∀ j, cur.getD j undef = (entCells t.e us)[j]?.getD undef := by
      intro j
      rw [← hcur]
      simp [Array.getD_eq_getD_getElem?]
    refine ⟨_, some g, t.e.length, rfl, hb, fun b hb => ?_, ⟨huni, .inr ⟨g, cur, if_pos rfl, h3, ?_, ?_, ?_, ?_, ?_⟩⟩, hres ?_⟩
    · injection hb with hb
      subst hb
      exact ⟨h2, hg⟩
    · show cur.size = (if id = id then t.e.length else _) * 2
      rw [if_pos rfl]
      exact h6
    · show (t.e.map encEnt).length ≤ (if id = id then t.e.length else _)
      rw [if_pos rfl, List.length_map]
      exact Nat.le_refl _
    · show (if id = id then t.e.length else _) ≤ maxLen
      rw [if_pos rfl]
      exact h5
    · intro i hi
      rw [hget]
      have hi' : i < (entCells t.e us).length := by rw [← hcur, Array.length_toList]; exact hi
      rw [List.getElem?_eq_getElem hi']
      exact entCells_one hone _ (List.getElem_mem hi')
    · intro i j cs u hi hu
      rw [List.getElem?_map] at hi
      obtain ⟨x, hx, rfl⟩ := Option.map_eq_some_iff.1 hi
      obtain ⟨v, hv⟩ := hus i x hx
      obtain ⟨c0, c1⟩ := entCells_get hx hv
      rw [hget]
      match j, hu with
      | 0, hu =>
        simp only [encEnt, List.getElem?_cons_zero, Option.some.injEq] at hu
        subst hu
        rw [Nat.add_zero, c0]
        exact .raw _
      | 1, hu =>
        simp only [encEnt, List.getElem?_cons_succ, List.getElem?_cons_zero, Option.some.injEq] at hu
        subst hu
        rw [c1]
        exact hok i x v hx hv
      | j + 2, hu => simp [encEnt] at hu
    · exact .row id 0 2 0 t.e.length _ t.e.length ⟨rfl, rfl⟩ (Nat.le_refl _) fun _ => .inr ⟨g, if_pos rfl, by rw [Nat.zero_mul], by show 0 + t.e.length = (if id = id then t.e.length else _); rw [if_pos rfl, Nat.zero_add]⟩
def keys (es : List Ent) : List Nat := es.map Ent.key
theorem keys_inj {es : List Ent} (h : (keys es).Nodup) {i j : Nat} {a b : Ent} (ha : es[i]? = some a) (hb : es[j]? = some b) (hk : a.key = b.key) : i = j := by
  have hi : i < (keys es).length := by simp only [keys, List.length_map]; exact (List.getElem?_eq_some_iff.1 ha).1
  exact (List.getElem?_inj hi h).1 (by simp [keys, ha, hb, hk])
theorem fidx_eq {es : List Ent} (h : (keys es).Nodup) {i : Nat} {e : Ent} (he : es[i]? = some e) : fidx e.key es 0 = (i : Int) := by
  have := fidx_found (j := 0) he rfl (fun j x hj hx hk => by have := keys_inj h hx he hk; omega)
  simpa using this
theorem nodup_of_fidx {es : List Ent} (h : ∀ (i : Nat) (e : Ent), es[i]? = some e → fidx e.key es 0 = (i : Int)) : (keys es).Nodup := by
  unfold keys List.Nodup
  rw [List.pairwise_iff_getElem]
  intro i j hi hj hij he
  simp only [List.length_map] at hi hj
  simp only [List.getElem_map] at he
  have h1 := h i _ (List.getElem?_eq_getElem hi)
  have h2 := h j _ (List.getElem?_eq_getElem hj)
  rw [he, h2] at h1
  omega
theorem may_std {t : Tab} (h3 : t.s.kind ≠ 3) : t.may = true ↔ t.s.may = true ∧ (t.e.length : Int) ≤ t.s.cap ∧ t.next = 0 ∧ (t.s.kind = 0 → (t.e.length : Int) = t.s.cap ∧ ∀ (i : Nat) (e : Ent), t.e[i]? = some e → e.key = i) ∧
    (∀ e ∈ t.e, (e.v.length : Int) = t.s.words) ∧ (keys t.e).Nodup := by
  rw [Tab.may_iff]
  simp only [Tab.headOk, Bool.and_eq_true, Bool.or_eq_true, Bool.not_eq_true', decide_eq_true_eq, decide_eq_false_iff_not]
  constructor
  · rintro ⟨⟨⟨⟨a, b⟩, c⟩, d⟩, e⟩
    refine ⟨a, b, c.resolve_left h3, fun hk => ⟨d.resolve_left (fun q => q hk), fun i x hx => ((t.elOk_iff i x).1 (e i x hx)).2.2.1 hk⟩, fun x hx => ?_, nodup_of_fidx fun i x hx => ((t.elOk_iff i x).1 (e i x hx)).2.1⟩
    obtain ⟨i, hi⟩ := List.mem_iff_getElem?.1 hx
    exact ((t.elOk_iff i x).1 (e i x hi)).1
  · rintro ⟨a, b, c, d, e, g⟩
    refine ⟨⟨⟨⟨a, b⟩, .inr c⟩, ?_⟩, fun i x hx => (t.elOk_iff i x).2 ⟨e x (List.mem_of_getElem? hx), fidx_eq g hx, fun hk => (d hk).2 i x hx, fun hk => absurd hk h3⟩⟩
    by_cases hk : t.s.kind = 0
    · exact .inr (d hk).1
    · exact .inl hk
theorem keyed_iff {t : Tab} {f : Nat} : t.keyed f = true ↔ t.may = true ∧ t.s.kind ≠ 3 ∧ (f : Int) < t.s.words := by simp [Tab.keyed, and_assoc]
theorem get_mem {t : Tab} {key f : Nat} {e : Ent} (hk : t.keyed f = true) (he : e ∈ t.e) (hkey : e.key = key) : (t.get key f).2 = ((e.v[f]?).getD 0, true) := by
  obtain ⟨hm, h3, _⟩ := keyed_iff.1 hk
  obtain ⟨_, _, _, _, _, hn⟩ := (may_std h3).1 hm
  obtain ⟨i, hi⟩ := List.mem_iff_getElem?.1 he
  have hf := fidx_eq hn hi
  rw [hkey] at hf
  have hh : t.has key f = true := by simp [Tab.has, hk, hf]
  unfold Tab.get
  rw [if_pos hh]
  simp [Tab.word, Tab.idx, hf, hi]
theorem get_no {t : Tab} {key f : Nat} (h : ∀ e ∈ t.e, e.key ≠ key) : (t.get key f).2 = (0, false) := by
  have hf : fidx key t.e 0 = -1 := fidx_none fun i x hx => h x (List.mem_of_getElem? hx)
  have hh : t.has key f = false := by simp [Tab.has, hf]
  unfold Tab.get
  rw [if_neg (by simp [hh])]
theorem get_unkeyed {t : Tab} {key f : Nat} (h : t.keyed f = false) : (t.get key f).2 = (0, false) := by
  have hh : t.has key f = false := by simp [Tab.has, h]
  unfold Tab.get
  rw [if_neg (by simp [hh])]
theorem erase_perm {α : Type} : ∀ {l : List α} {i : Nat} {x : α}, l[i]? = some x → (x :: l.eraseIdx i).Perm l
  | [], i, x, h => by simp at h
  | a :: l, 0, x, h => by
    simp at h
    subst h
    exact List.Perm.refl _
  | a :: l, i + 1, x, h => by
    rw [List.eraseIdx_cons_succ]
    exact (List.Perm.swap a x _).trans ((erase_perm (by simpa using h)).cons a)
theorem set_perm {α : Type} {l : List α} {i : Nat} (h : i < l.length) (a : α) : (l.set i a).Perm (a :: l.eraseIdx i) := by
  have := erase_perm (l := l.set i a) (i := i) (x := a) (by simp [h])
  rw [List.eraseIdx_set_eq] at this
  exact this.symm
theorem toLast_perm {α : Type} {l : List α} {i : Nat} (h : i < l.length) : (toLast l i).Perm l := by
  unfold toLast
  rw [List.getElem?_eq_getElem h]
  exact List.perm_append_comm.trans (erase_perm (List.getElem?_eq_getElem h))
theorem touch_perm {α : Type} {kind : Int} {l : List α} {i : Nat} (h : i < l.length) : (touch kind l i).Perm l := by
  unfold touch
  split
  · exact toLast_perm h
  · exact List.Perm.refl _
theorem fidx_none_iff {key : Nat} : ∀ {es : List Ent} {k : Nat}, ¬ 0 ≤ fidx key es k → ∀ e ∈ es, e.key ≠ key
  | [], _, _ => by simp
  | a :: l, k, h => by
    unfold fidx at h
    split at h
    · omega
    · rename_i hk
      intro e he
      rcases List.mem_cons.1 he with rfl | he
      · exact hk
      · exact fidx_none_iff h e he
theorem fidx_some {key : Nat} : ∀ {es : List Ent} {k : Nat} {x : Int}, fidx key es k = x → 0 ≤ x → ∃ (i : Nat) (e : Ent), x = ((k + i : Nat) : Int) ∧ es[i]? = some e ∧ e.key = key
  | [], k, x, h, h0 => by simp [fidx] at h; omega
  | a :: l, k, x, h, h0 => by
    unfold fidx at h
    split at h
    · rename_i hk
      exact ⟨0, a, by omega, rfl, hk⟩
    · obtain ⟨i, e, h1, h2, h3⟩ := fidx_some h h0
      exact ⟨i + 1, e, by omega, h2, h3⟩
theorem set_ok {t : Tab} {key f x : Nat} (h : (t.set key f x).2 = 0) :
    t.keyed f = true ∧ (t.set key f x).1.s = t.s ∧ (t.set key f x).1.next = t.next ∧ ∃ (e0 : Ent) (base : List Ent), e0.key = key ∧ (e0.v.length : Int) = t.s.words ∧ (∀ e ∈ base, e.key ≠ key) ∧
      (t.set key f x).1.e.Perm ({ e0 with v := e0.v.set f x } :: base) ∧
      (((e0 :: base).Perm t.e ∧ (t.s.kind = 0 → keys (t.set key f x).1.e = keys t.e)) ∨
        ((∀ e ∈ t.e, e.key ≠ key) ∧ t.s.kind ≠ 0 ∧ ((base = t.e ∧ (t.e.length : Int) < t.s.cap) ∨ (base = t.e.drop 1 ∧ t.s.kind = 2 ∧ (t.e.length : Int) = t.s.cap)))) := by
  unfold Tab.set at h ⊢
  split at h
  · exact absurd h (by decide)
  · rename_i hkd
    have hkd : t.keyed f = true := by simpa using hkd
    rw [if_neg (by simp [hkd])]
    obtain ⟨hm, h3, hfw⟩ := keyed_iff.1 hkd
    obtain ⟨hsm, hlc, _, _, hw, hn⟩ := (may_std h3).1 hm
    have hsb := Sch.may_bounds hsm
    split at h
    · rename_i hp
      rw [if_pos hp]
      obtain ⟨i, e, hi, he, hek⟩ := fidx_some rfl hp
      have hid : t.idx key = i := by unfold Tab.idx; omega
      have hil : i < t.e.length := (List.getElem?_eq_some_iff.1 he).1
      have hupd : updE t.e i f x = t.e.set i { e with v := e.v.set f x } := by simp [updE, he]
      refine ⟨hkd, rfl, rfl, e, t.e.eraseIdx i, hek, hw e (List.mem_of_getElem? he), fun y hy hyk => ?_, ?_, .inl ⟨?_, fun h0 => ?_⟩⟩
      · obtain ⟨j, hj⟩ := List.mem_iff_getElem?.1 hy
        rw [List.getElem?_eraseIdx] at hj
        split at hj
        · have := keys_inj hn hj he (by rw [hyk, hek]); omega
        · have := keys_inj hn hj he (by rw [hyk, hek]); omega
      · simp only [hid, hupd]
        refine (touch_perm (by simpa using hil)).trans ?_
        exact set_perm hil _
      · exact erase_perm he
      · simp only [hid, hupd]
        unfold touch
        rw [if_neg (by omega)]
        unfold keys
        rw [List.map_set]
        refine List.ext_getElem? fun j => ?_
        rw [List.getElem?_set]
        split
        · rename_i hj
          subst hj
          simp [hil, (List.getElem?_eq_some_iff.1 he).2]
        · rfl
    · rename_i hp
      rw [if_neg hp]
      have hno := fidx_none_iff hp
      split at h
      · exact absurd h (by decide)
      · rename_i hk0
        rw [if_neg hk0]
        split at h
        · exact absurd h (by decide)
        · rename_i hk1
          rw [if_neg hk1]
          obtain ⟨base, hbase⟩ : ∃ base, base = (if (t.e.length : Int) = t.s.cap then t.e.drop 1 else t.e) := ⟨_, rfl⟩
          have hgr : t.grow key = base ++ [⟨key, List.replicate t.s.words.toNat 0⟩] := by unfold Tab.grow; rw [hbase]
          have hlast : updE (t.grow key) ((t.grow key).length - 1) f x = base ++ [⟨key, (List.replicate t.s.words.toNat 0).set f x⟩] := by
            rw [hgr]
            simp [updE]
          refine ⟨hkd, rfl, rfl, ⟨key, List.replicate t.s.words.toNat 0⟩, base, rfl, by simp; omega, fun y hy => ?_, ?_, .inr ⟨hno, hk0, ?_⟩⟩
          · refine hno y ?_
            rw [hbase] at hy
            split at hy
            · exact List.mem_of_mem_drop hy
            · exact hy
          · simp only [hlast]
            refine (touch_perm (by rw [hgr]; simp)).trans ?_
            exact List.perm_append_comm
          · by_cases hfull : (t.e.length : Int) = t.s.cap
            · rw [if_pos hfull] at hbase
              exact .inr ⟨hbase, by omega, hfull⟩
            · rw [if_neg hfull] at hbase
              exact .inl ⟨hbase, by omega⟩
theorem set_err {t : Tab} {key f x : Nat} (h : (t.set key f x).2 ≠ 0) : (t.set key f x).1.e = [] := by
  unfold Tab.set at h ⊢
  repeat' split
  all_goals first | rfl | (simp_all; done)
theorem set_may {t : Tab} {key f x : Nat} (h : (t.set key f x).2 = 0) : (t.set key f x).1.may = true ∧ ((t.set key f x).1.e.length : Int) ≤ t.s.cap ∧ (t.set key f x).1.e.length ≤ t.e.length + 1 ∧ (∀ p, (t.set key f x).1.keyed p = t.keyed p) ∧ (t.set key f x).1.s = t.s := by
  obtain ⟨hkd, hs, hx, e0, base, hk0, hw0, hb, hp, hc⟩ := set_ok h
  obtain ⟨hm, h3, hfw⟩ := keyed_iff.1 hkd
  obtain ⟨hsm, hlc, hnx, har, hw, hn⟩ := (may_std h3).1 hm
  have hsb := Sch.may_bounds hsm
  generalize (t.set key f x).1 = T at *
  have hlen : T.e.length = base.length + 1 := by rw [hp.length_eq]; rfl
  have hbase : base.length + 1 = t.e.length ∨ (base.length = t.e.length ∧ (t.e.length : Int) < t.s.cap) ∨ (base.length + 1 = t.e.length) := by
    rcases hc with ⟨hq, _⟩ | ⟨_, _, ⟨rfl, hq⟩ | ⟨rfl, _, hq⟩⟩
    · exact .inl hq.length_eq
    · exact .inr (.inl ⟨rfl, hq⟩)
    · rw [List.length_drop]; omega
  have hsub : ∀ e ∈ base, e ∈ t.e := by
    intro e he
    rcases hc with ⟨hq, _⟩ | ⟨_, _, ⟨rfl, _⟩ | ⟨rfl, _⟩⟩
    · exact hq.subset (List.mem_cons_of_mem _ he)
    · exact he
    · exact List.mem_of_mem_drop he
  have hbn : (keys base).Nodup := by
    rcases hc with ⟨hq, _⟩ | ⟨_, _, ⟨rfl, _⟩ | ⟨rfl, _⟩⟩
    · have := (hq.map Ent.key).nodup_iff.2 hn
      exact (List.nodup_cons.1 this).2
    · exact hn
    · exact List.Nodup.sublist ((List.drop_sublist 1 t.e).map Ent.key) hn
  have hTm : T.may = true := by
    refine (may_std (by rw [hs]; exact h3)).2 ⟨by rw [hs]; exact hsm, by rw [hs]; omega, by rw [hx]; exact hnx, fun h0 => ?_, fun e he => ?_, ?_⟩
    · rw [hs] at h0
      rcases hc with ⟨hq, hkk⟩ | ⟨_, hk, _⟩
      · have hkk := hkk h0
        have hl2 : T.e.length = t.e.length := by have := congrArg List.length hkk; simpa [keys] using this
        refine ⟨by rw [hs, hl2]; exact (har h0).1, fun i e he => ?_⟩
        have h1 : (keys T.e)[i]? = some e.key := by simp [keys, he]
        rw [hkk] at h1
        simp only [keys, List.getElem?_map, Option.map_eq_some_iff] at h1
        obtain ⟨e', he', hke⟩ := h1
        rw [← hke]
        exact (har h0).2 i e' he'
      · exact absurd h0 hk
    · rw [hs]
      rcases List.mem_cons.1 (hp.subset he) with rfl | he
      · simpa using hw0
      · exact hw e (hsub e he)
    · refine (hp.map Ent.key).nodup_iff.2 ?_
      refine List.nodup_cons.2 ⟨fun hm => ?_, hbn⟩
      obtain ⟨e, he, hke⟩ := List.mem_map.1 hm
      exact hb e he (hke.trans hk0)
  refine ⟨hTm, by omega, by omega, fun p => ?_, hs⟩
  rw [Bool.eq_iff_iff, keyed_iff, keyed_iff, hs]
  simp [hTm, hm]
theorem back_got {t : Tab} {key f x : Nat} (h : (t.set key f x).2 = 0) : ((t.set key f x).1.get key f).2 = (x, true) := by
  obtain ⟨_, _, _, hkp, hs⟩ := set_may h
  obtain ⟨hkd, _, hx, e0, base, hk0, hw0, hb, hp, hc⟩ := set_ok h
  obtain ⟨hm, h3, hfw⟩ := keyed_iff.1 hkd
  rw [get_mem (by rw [hkp]; exact hkd) (hp.symm.subset (List.mem_cons_self ..)) hk0]
  have : f < e0.v.length := by omega
  simp [this]
theorem back_same {t : Tab} {key f x place : Nat} (h : (t.set key f x).2 = 0) (had : (t.get key place).2.2 = true) :
    ((t.set key f x).1.get key place).2.2 = true ∧ (place = f ∨ ((t.set key f x).1.get key place).2.1 = (t.get key place).2.1) := by
  obtain ⟨_, _, _, hkp, hs⟩ := set_may h
  obtain ⟨hkd, _, hx, e0, base, hk0, hw0, hb, hp, hc⟩ := set_ok h
  have hkl : t.keyed place = true := by
    cases hq : t.keyed place with
    | true => rfl
    | false => rw [get_unkeyed hq] at had; cases had
  rw [get_mem (by rw [hkp]; exact hkl) (hp.symm.subset (List.mem_cons_self ..)) hk0]
  rcases hc with ⟨hq, _⟩ | ⟨hno, _⟩
  · rw [get_mem hkl (hq.subset (List.mem_cons_self ..)) hk0]
    refine ⟨rfl, ?_⟩
    by_cases hpf : place = f
    · exact .inl hpf
    · right
      simp [List.getElem?_set_ne (Ne.symm hpf)]
  · rw [get_no hno] at had
    cases had
theorem back_other {t : Tab} {key f x other place : Nat} (h : (t.set key f x).2 = 0) (ho : other ≠ key) :
    (((t.set key f x).1.get other place).2 = (t.get other place).2) ∨ (((t.set key f x).1.get other place).2.2 = false ∧ (t.get other place).2.2 = true ∧ t.s.kind = 2 ∧ (t.e.length : Int) = t.s.cap) := by
  obtain ⟨_, _, _, hkp, hs⟩ := set_may h
  obtain ⟨hkd, _, hx, e0, base, hk0, hw0, hb, hp, hc⟩ := set_ok h
  cases hkl : t.keyed place with
  | false =>
    rw [get_unkeyed hkl, get_unkeyed (by rw [hkp]; exact hkl)]
    exact .inl rfl
  | true =>
    have hkT : (t.set key f x).1.keyed place = true := by rw [hkp]; exact hkl
    by_cases hin : ∃ e ∈ base, e.key = other
    · obtain ⟨e, he, hke⟩ := hin
      have hsub : e ∈ t.e := by
        rcases hc with ⟨hq, _⟩ | ⟨_, _, ⟨rfl, _⟩ | ⟨rfl, _⟩⟩
        · exact hq.subset (List.mem_cons_of_mem _ he)
        · exact he
        · exact List.mem_of_mem_drop he
      rw [get_mem hkT (hp.symm.subset (List.mem_cons_of_mem _ he)) hke, get_mem hkl hsub hke]
      exact .inl rfl
    · have hT : ∀ e ∈ (t.set key f x).1.e, e.key ≠ other := by
        intro e he hke
        rcases List.mem_cons.1 (hp.subset he) with rfl | he
        · exact ho (hke.symm.trans hk0)
        · exact hin ⟨e, he, hke⟩
      rw [get_no hT]
      by_cases hold : ∃ e ∈ t.e, e.key = other
      · obtain ⟨e, he, hke⟩ := hold
        rw [get_mem hkl he hke]
        rcases hc with ⟨hq, _⟩ | ⟨_, _, ⟨rfl, _⟩ | ⟨_, h2, hf⟩⟩
        · rcases List.mem_cons.1 (hq.symm.subset he) with rfl | he
          · exact absurd (hke.symm.trans hk0) ho
          · exact absurd ⟨e, he, hke⟩ hin
        · exact absurd ⟨e, he, hke⟩ hin
        · exact .inr ⟨rfl, rfl, h2, hf⟩
      · rw [get_no (fun e he hke => hold ⟨e, he, hke⟩)]
        exact .inl rfl
theorem has_get {t : Tab} {key f : Nat} : (t.get key f).2.2 = t.has key f := by
  unfold Tab.get
  cases h : t.has key f <;> simp
theorem get_not {t : Tab} {key f : Nat} (h : t.has key f = false) : (t.get key f).2 = (0, false) := by
  unfold Tab.get
  rw [if_neg (by simp [h])]
theorem del_ok {t : Tab} {key : Nat} (hm : t.may = true) :
    (t.del key).1.s = t.s ∧ (t.del key).1.next = t.next ∧ (t.del key).2 = t.has key 0 ∧ (t.del key).1.may = true ∧ (t.has key 0 = false → t.del key = (t, false)) ∧
      ((t.del key).1.get key 0).2 = (0, t.has key 0 && decide (t.s.kind = 0)) ∧ (∀ other, other ≠ key → ((t.del key).1.get other 0).2 = (t.get other 0).2) := by
  cases hh : t.has key 0 with
  | false =>
    have hd : t.del key = (t, false) := by unfold Tab.del; rw [if_pos hh]
    rw [hd]
    exact ⟨rfl, rfl, rfl, hm, fun _ => rfl, get_not hh, fun _ _ => rfl⟩
  | true =>
    obtain ⟨hkd, hp⟩ : t.keyed 0 = true ∧ 0 ≤ fidx key t.e 0 := by simpa [Tab.has] using hh
    obtain ⟨_, h3, hfw⟩ := keyed_iff.1 hkd
    obtain ⟨hsm, hlc, hnx, har, hw, hn⟩ := (may_std h3).1 hm
    obtain ⟨i, e, hi, he, hek⟩ := fidx_some rfl hp
    have hid : t.idx key = i := by unfold Tab.idx; omega
    have hil : i < t.e.length := (List.getElem?_eq_some_iff.1 he).1
    by_cases hk0 : t.s.kind = 0
    · have hd : t.del key = ({ t with e := t.e.set i { e with v := List.replicate e.v.length 0 } }, true) := by
        unfold Tab.del
        rw [if_neg (by simp [hh]), if_pos hk0, hid]
        simp [zeroE, he]
      rw [hd]
      have hkk : keys (t.e.set i { e with v := List.replicate e.v.length 0 }) = keys t.e := by
        unfold keys
        rw [List.map_set]
        refine List.ext_getElem? fun j => ?_
        rw [List.getElem?_set]
        split
        · rename_i hj
          subst hj
          simp [hil, (List.getElem?_eq_some_iff.1 he).2]
        · rfl
      have hm2 : ({ t with e := t.e.set i { e with v := List.replicate e.v.length 0 } } : Tab).may = true := by
        refine (may_std (t := { t with e := t.e.set i { e with v := List.replicate e.v.length 0 } }) h3).2 ⟨hsm, by simpa using hlc, hnx, fun h0 => ⟨by simpa using (har h0).1, fun j x hx => ?_⟩, fun x hx => ?_, by rw [hkk]; exact hn⟩
        · have h1 : (keys (t.e.set i { e with v := List.replicate e.v.length 0 }))[j]? = some x.key := by unfold keys; rw [List.getElem?_map]; simp only at hx; rw [hx]; rfl
          rw [hkk] at h1
          simp only [keys, List.getElem?_map, Option.map_eq_some_iff] at h1
          obtain ⟨x', hx', hke⟩ := h1
          rw [← hke]
          exact (har h0).2 j x' hx'
        · rcases List.mem_or_eq_of_mem_set hx with hx | rfl
          · exact hw x hx
          · simpa using hw e (List.mem_of_getElem? he)
      have hkd2 : ({ t with e := t.e.set i { e with v := List.replicate e.v.length 0 } } : Tab).keyed 0 = true := keyed_iff.2 ⟨hm2, h3, hfw⟩
      have hin : ({ e with v := List.replicate e.v.length 0 } : Ent) ∈ t.e.set i { e with v := List.replicate e.v.length 0 } := List.mem_of_getElem? (i := i) (by simp [hil])
      refine ⟨rfl, rfl, rfl, hm2, fun h => (by cases h), ?_, fun other ho => ?_⟩
      · rw [get_mem hkd2 hin hek]
        have := hw e (List.mem_of_getElem? he)
        simp [hk0, show 0 < e.v.length by omega]
      · by_cases hex : ∃ x ∈ t.e, x.key = other
        · obtain ⟨x, hx, hkx⟩ := hex
          obtain ⟨j, hj⟩ := List.mem_iff_getElem?.1 hx
          have hij : i ≠ j := by
            rintro rfl
            rw [he] at hj
            cases hj
            exact ho (hkx.symm.trans hek)
          rw [get_mem hkd hx hkx, get_mem hkd2 (e := x) (List.mem_of_getElem? (i := j) (by simp only [List.getElem?_set_ne hij]; exact hj)) hkx]
        · have hno : ∀ x ∈ t.e, x.key ≠ other := fun x hx hk => hex ⟨x, hx, hk⟩
          rw [get_no hno, get_no]
          intro x hx hk
          have h1 : x.key ∈ keys (t.e.set i { e with v := List.replicate e.v.length 0 }) := List.mem_map_of_mem hx
          rw [hkk] at h1
          obtain ⟨y, hy, hky⟩ := List.mem_map.1 h1
          exact hno y hy (hky.trans hk)
    · have hd : t.del key = ({ t with e := t.e.eraseIdx i }, true) := by
        unfold Tab.del
        rw [if_neg (by simp [hh]), if_neg hk0, hid]
      rw [hd]
      have hperm := erase_perm he
      have hnn : (keys (e :: t.e.eraseIdx i)).Nodup := (hperm.map Ent.key).nodup_iff.2 hn
      have hlen : (t.e.eraseIdx i).length + 1 = t.e.length := by have := hperm.length_eq; simpa using this
      have hm2 : ({ t with e := t.e.eraseIdx i } : Tab).may = true :=
        (may_std (t := { t with e := t.e.eraseIdx i }) h3).2 ⟨hsm, by simp only; omega, hnx, fun h0 => absurd h0 hk0, fun x hx => hw x (hperm.subset (List.mem_cons_of_mem _ hx)), (List.nodup_cons.1 hnn).2⟩
      have hkd2 : ({ t with e := t.e.eraseIdx i } : Tab).keyed 0 = true := keyed_iff.2 ⟨hm2, h3, hfw⟩
      refine ⟨rfl, rfl, rfl, hm2, fun h => (by cases h), ?_, fun other ho => ?_⟩
      · rw [get_no]
        · simp [hk0]
        · intro x hx hk
          exact (List.nodup_cons.1 hnn).1 (by rw [hek, ← hk]; exact List.mem_map_of_mem hx)
      · by_cases hex : ∃ x ∈ t.e, x.key = other
        · obtain ⟨x, hx, hkx⟩ := hex
          rcases List.mem_cons.1 (hperm.symm.subset hx) with rfl | hx'
          · exact absurd (hkx.symm.trans hek) ho
          · rw [get_mem hkd hx hkx, get_mem hkd2 (e := x) hx' hkx]
        · have hno : ∀ x ∈ t.e, x.key ≠ other := fun x hx hk => hex ⟨x, hx, hk⟩
          rw [get_no hno, get_no]
          intro x hx hk
          exact hno x (hperm.subset (List.mem_cons_of_mem _ hx)) hk
theorem not_fidx {key : Nat} {es : List Ent} (h : ∀ e ∈ es, e.key ≠ key) : ¬ 0 ≤ fidx key es 0 := by
  rw [fidx_none fun i x hx => h x (List.mem_of_getElem? hx)]
  decide
theorem set_new {t : Tab} {key f x : Nat} (hk : t.keyed f = true) (hno : ∀ e ∈ t.e, e.key ≠ key) (h0 : t.s.kind ≠ 0) (hl : (t.e.length : Int) < t.s.cap) :
    t.set key f x = ({ t with e := touch t.s.kind (t.e ++ [⟨key, (List.replicate t.s.words.toNat 0).set f x⟩]) t.e.length }, 0) := by
  have hg : t.grow key = t.e ++ [⟨key, List.replicate t.s.words.toNat 0⟩] := by unfold Tab.grow; rw [if_neg (by omega)]
  unfold Tab.set
  rw [if_neg (by simp [hk]), if_neg (not_fidx hno), if_neg h0, if_neg (by omega), hg]
  simp [updE]
theorem set_full {t : Tab} {key f x : Nat} (hk : t.keyed f = true) (hno : ∀ e ∈ t.e, e.key ≠ key) (h1 : t.s.kind = 1) (hl : (t.e.length : Int) = t.s.cap) : t.set key f x = (Tab.zero, 4) := by
  unfold Tab.set
  rw [if_neg (by simp [hk]), if_neg (not_fidx hno), if_neg (by omega), if_pos ⟨h1, hl⟩]
theorem set_old {t : Tab} {key f x : Nat} (hk : t.keyed f = true) (hin : ∃ e ∈ t.e, e.key = key) : (t.set key f x).2 = 0 := by
  obtain ⟨e, he, hke⟩ := hin
  have hp : 0 ≤ fidx key t.e 0 := by
    by_cases h : 0 ≤ fidx key t.e 0
    · exact h
    · exact absurd hke (fidx_none_iff h e he)
  unfold Tab.set
  rw [if_neg (by simp [hk]), if_pos hp]
def fullEs (key k : Nat) : List Ent := (List.range k).map fun i => ⟨(key + i) % 4294967296, [1]⟩
theorem fullEs_succ (key k : Nat) : fullEs key (k + 1) = fullEs key k ++ [⟨(key + k) % 4294967296, [1]⟩] := by simp [fullEs, List.range_succ]
theorem fullEs_length (key k : Nat) : (fullEs key k).length = k := by simp [fullEs]
def fullT (cap : Int) (key k : Nat) : Tab := ⟨⟨1, cap, 1, 0⟩, fullEs key k, 0⟩
theorem full_keys (key k : Nat) (hk : k ≤ 16) : (keys (fullEs key k)).Nodup := by
  unfold keys fullEs List.Nodup
  rw [List.pairwise_iff_getElem]
  intro i j hi hj hij
  simp at hi hj ⊢
  omega
theorem full_may {cap : Int} {key k : Nat} (h1 : 1 ≤ cap) (h2 : cap ≤ 16) (hk : (k : Int) ≤ cap) : (fullT cap key k).may = true := by
  refine (may_std (by simp [fullT])).2 ⟨?_, ?_, rfl, fun h => absurd h (by simp [fullT]), fun e he => ?_, full_keys key k (by omega)⟩
  · simp [fullT, Sch.may, inB, h1, h2]
  · simp only [fullT, fullEs_length]; exact hk
  · simp [fullT, fullEs] at he
    obtain ⟨i, _, rfl⟩ := he
    rfl
theorem full_keyed {cap : Int} {key k : Nat} (h1 : 1 ≤ cap) (h2 : cap ≤ 16) (hk : (k : Int) ≤ cap) : (fullT cap key k).keyed 0 = true :=
  keyed_iff.2 ⟨full_may h1 h2 hk, by simp [fullT], by simp [fullT]⟩
theorem full_not {cap : Int} {key k m : Nat} (hm : k ≤ m) (h16 : m ≤ 16) : ∀ e ∈ (fullT cap key k).e, e.key ≠ (key + m) % 4294967296 := by
  intro e he
  simp [fullT, fullEs] at he
  obtain ⟨i, hi, rfl⟩ := he
  simp
  omega
theorem full_step {cap : Int} {key k : Nat} (h1 : 1 ≤ cap) (h2 : cap ≤ 16) (hk : (k : Int) < cap) : (fullT cap key k).set ((key + k) % 4294967296) 0 1 = (fullT cap key (k + 1), 0) := by
  rw [set_new (full_keyed h1 h2 (by omega)) (full_not (Nat.le_refl _) (by omega)) (by simp [fullT]) (by simp only [fullT, fullEs_length]; exact hk)]
  simp [fullT, touch, fullEs_succ]
theorem full_end {cap : Int} {key k : Nat} (h1 : 1 ≤ cap) (h2 : cap ≤ 16) (hk : (k : Int) = cap) (hkey : key < 4294967296) :
    (fullT cap key k).set ((key + k) % 4294967296) 0 1 = (Tab.zero, 4) ∧ ((fullT cap key k).set key 0 2).2 = 0 ∧ ((fullT cap key k).del key).2 = true ∧ ((fullT cap key k).del key).1.s = ⟨1, cap, 1, 0⟩ ∧ ((fullT cap key k).del key).1.next = 0 ∧ ((fullT cap key k).del key).1.may = true ∧
      (((fullT cap key k).del key).1.set ((key + k) % 4294967296) 0 1).2 = 0 ∧ ((((fullT cap key k).del key).1.set ((key + k) % 4294967296) 0 1).1.e.length : Int) = cap ∧
      ((((fullT cap key k).del key).1.set ((key + k) % 4294967296) 0 1).1.get key 0).2 = (0, false) := by
  have hm := full_may (key := key) (k := k) h1 h2 (by omega)
  have hkd := full_keyed (key := key) (k := k) h1 h2 (by omega)
  have hin : ∃ e ∈ (fullT cap key k).e, e.key = key := ⟨⟨key, [1]⟩, by
    simp [fullT, fullEs]
    exact ⟨0, by omega, by omega⟩, rfl⟩
  have hhas : (fullT cap key k).has key 0 = true := by
    obtain ⟨e, he, hke⟩ := hin
    rw [← has_get, get_mem hkd he hke]
  obtain ⟨a, b, c, d, _, g, h⟩ := del_ok (key := key) hm
  have hdel : (fullT cap key k).del key = ({ fullT cap key k with e := (fullT cap key k).e.eraseIdx ((fullT cap key k).idx key) }, true) := by
    unfold Tab.del
    rw [if_neg (by simp [hhas]), if_neg (by simp [fullT])]
  have hDl : ((fullT cap key k).del key).1.e.length + 1 = k := by
    rw [hdel]
    obtain ⟨_, hp⟩ : (fullT cap key k).keyed 0 = true ∧ 0 ≤ fidx key (fullT cap key k).e 0 := by simpa [Tab.has] using hhas
    have := (fidx_nat hp).2
    simp only [Tab.idx, List.length_eraseIdx, this, if_true]
    simp only [fullT, fullEs_length] at this ⊢
    omega
  have hDk : ((fullT cap key k).del key).1.keyed 0 = true := keyed_iff.2 ⟨d, by rw [a]; simp [fullT], by rw [a]; simp [fullT]⟩
  have hDn : ∀ e ∈ ((fullT cap key k).del key).1.e, e.key ≠ (key + k) % 4294967296 := by
    intro e he
    rw [hdel] at he
    exact full_not (Nat.le_refl k) (by omega) e (List.mem_of_mem_eraseIdx he)
  have hcp : (fullT cap key k).s.cap = cap := rfl
  have hset := set_new (x := 1) hDk hDn (by rw [a]; simp [fullT]) (by rw [a, hcp]; omega)
  have hs2 : (((fullT cap key k).del key).1.set ((key + k) % 4294967296) 0 1).2 = 0 := by rw [hset]
  refine ⟨set_full hkd (full_not (Nat.le_refl _) (by omega)) rfl (by simp only [fullT, fullEs_length]; exact hk), set_old hkd hin, by rw [c, hhas], a, b, d, hs2, ?_, ?_⟩
  · have ht : ∀ (l : List Ent) (n : Nat), touch ((fullT cap key k).del key).1.s.kind l n = l := fun l n => by unfold touch; rw [if_neg (by rw [a]; simp [fullT])]
    rw [hset]
    simp only [ht, List.length_append, List.length_cons, List.length_nil]
    omega
  · have hne : key ≠ (key + k) % 4294967296 := by omega
    rcases back_other (place := 0) hs2 hne with h1 | ⟨_, h2, h3, _⟩
    · rw [h1, g]
      simp [fullT]
    · rw [a] at h3
      exact absurd h3 (by simp [fullT])
theorem mayFits {t : Tab} (h : t.may = true) : fits t.e := by
  have hb := Sch.may_bounds (Tab.may_sch h)
  have hl := Tab.may_len h
  refine ⟨by omega, fun e he => ?_⟩
  obtain ⟨i, hi⟩ := List.mem_iff_getElem?.1 he
  have := ((t.elOk_iff i e).1 ((t.may_iff.1 h).2 i e hi)).1
  omega
theorem smallFits {t : Tab} (h : t.small = true) : fits t.e := by
  have := t.small_iff.1 h
  exact ⟨by omega, fun e he => by have := this.2 e he; omega⟩
theorem mem_touch {α : Type} {kind : Int} {l : List α} {i : Nat} {x : α} (h : x ∈ touch kind l i) : x ∈ l := by
  unfold touch at h
  split at h
  · unfold toLast at h
    rw [List.mem_append] at h
    rcases h with h | h
    · exact List.mem_of_mem_eraseIdx h
    · rw [Option.mem_toList] at h
      exact List.mem_of_getElem? h
  · exact h
theorem okEs_upd {l : List Ent} {i f x : Nat} (h : okEs l) (hx : x < 4294967296) : okEs (updE l i f x) := by
  unfold updE
  split
  · rename_i e he
    have hm := h e (List.mem_of_getElem? he)
    intro a ha
    rcases List.mem_or_eq_of_mem_set ha with h1 | rfl
    · exact h a h1
    · refine ⟨hm.1, fun y hy => ?_⟩
      rcases List.mem_or_eq_of_mem_set hy with h2 | rfl
      · exact hm.2 y h2
      · exact hx
  · exact h
theorem okEs_touch {kind : Int} {l : List Ent} {i : Nat} (h : okEs l) : okEs (touch kind l i) := fun e he => h e (mem_touch he)
theorem okEs_nil : okEs [] := fun e he => by cases he
theorem okEs_grow {t : Tab} {key : Nat} (h : okEs t.e) (hk : key < 4294967296) : okEs (t.grow key) := by
  intro e he
  unfold Tab.grow at he
  rw [List.mem_append, List.mem_singleton] at he
  rcases he with he | rfl
  · split at he
    · exact h e (List.mem_of_mem_drop he)
    · exact h e he
  · refine ⟨hk, fun y hy => ?_⟩
    have := (List.mem_replicate.1 hy).2
    omega
theorem okEs_set {t : Tab} {key f x : Nat} (h : okEs t.e) (hk : key < 4294967296) (hx : x < 4294967296) : okEs (t.set key f x).1.e := by
  unfold Tab.set
  split
  · exact okEs_nil
  · split
    · exact okEs_touch (okEs_upd h hx)
    · split
      · exact okEs_nil
      · split
        · exact okEs_nil
        · exact okEs_touch (okEs_upd (okEs_grow h hk) hx)
theorem okEs_get {t : Tab} {key f : Nat} (h : okEs t.e) : okEs (t.get key f).1.e := by
  unfold Tab.get
  split
  · exact okEs_touch h
  · exact h
theorem okEs_zero {l : List Ent} {i : Nat} (h : okEs l) : okEs (zeroE l i) := by
  unfold zeroE
  split
  · rename_i e he
    have hm := h e (List.mem_of_getElem? he)
    intro a ha
    rcases List.mem_or_eq_of_mem_set ha with h1 | rfl
    · exact h a h1
    · refine ⟨hm.1, fun y hy => ?_⟩
      have := (List.mem_replicate.1 hy).2
      omega
  · exact h
theorem okEs_del {t : Tab} {key : Nat} (h : okEs t.e) : okEs (t.del key).1.e := by
  unfold Tab.del
  split
  · exact h
  · split
    · exact okEs_zero h
    · exact fun e he => h e (List.mem_of_mem_eraseIdx he)
theorem okEs_new {s : Sch} : okEs (Tab.new s).1.e ∨ 4294967296 < s.cap := by
  unfold Tab.new
  split
  · exact .inl okEs_nil
  · split
    · by_cases hc : 4294967296 < s.cap
      · exact .inr hc
      · refine .inl fun e he => ?_
        simp [newEs] at he
        obtain ⟨i, hi, rfl⟩ := he
        refine ⟨by show i < 4294967296; omega, fun y hy => ?_⟩
        have := (List.mem_replicate.1 hy).2
        omega
    · exact .inl okEs_nil
theorem set_next {t : Tab} {key f x : Nat} (h : t.next < 4294967296) : (t.set key f x).1.next < 4294967296 := by
  unfold Tab.set
  split
  · exact (by decide)
  · split
    · exact h
    · split
      · exact (by decide)
      · split
        · exact (by decide)
        · exact h
theorem set_fit {t : Tab} {key f x : Nat} (h : (t.set key f x).2 = 0) : fits (t.set key f x).1.e := mayFits (set_may h).1
def Tab.push (t : Tab) (v : Nat) : Tab × Int :=
  if t.may = false ∨ t.s.kind ≠ 3 then (Tab.zero, 1)
  else if (t.e.length : Int) = t.s.cap then (Tab.zero, 4)
  else ({ t with e := t.e ++ [⟨t.next, [v]⟩], next := (t.next + 1) % 4294967296 }, 0)
theorem push_ok (f : Bool) (t : Tab) (v : Nat) (hx : t.next < 4294967296) (hl0 : okEs t.e) (hv : v < 4294967296) (hm : t.may = true) (hk : t.s.kind = 3) (hc : ¬ (t.e.length : Int) = t.s.cap) : Ctr prog 24 [avTab f t, .raw (.int .u32 (v : Int))] [] (.tup [avTab false (t.push v).1, .raw (.int .i64 (t.push v).2)]) [] := by
  have hk2 : (t.s.kind != 3) = false := by simp [hk]
  have h16 : t.e.length ≤ 16 := by
    have hb := Sch.may_bounds (Tab.may_sch hm)
    have := Tab.may_len hm
    omega
  have hpush : t.push v = (⟨t.s, t.e ++ [⟨t.next, [v]⟩], (t.next + 1) % 4294967296⟩, 0) := by
    unfold Tab.push
    rw [if_neg (by simp [hm, hk]), if_neg hc]
  obtain ⟨nn, hnn⟩ : ∃ nn : Nat, nn = (t.next + 1) % 4294967296 := ⟨_, rfl⟩
  have hwn : IntKind.u32.wrap ((t.next : Int) + 1) = (nn : Int) := by rw [IntKind.wrap_u32, hnn]; omega
  have hfin : List.take (t.e.length + 1) (t.e.map encEnt ++ [[AV.raw (Value.int .u32 (t.next : Int)), AV.sl false [[AV.raw (Value.int .u32 (v : Int))]]]]) = (t.e ++ [(⟨t.next, [v]⟩ : Ent)]).map encEnt := by
    rw [List.take_of_length_le (by simp), List.map_append]
    rfl
  rw [hpush, ← hnn]
  refine Ctr.of tabOk func24 rfl call24 1 _ ntmps24 [.cell 4 27, .tmp 5] rfl rfl rfl (fun B => ?_)
  refine VC.seqR tabOk [some 2, some 4, some 5] [1, 2, 4] rfl rfl (fun K hK => ?_)
  push_cast
  refine hK _ ?_; clear hK K
  refine VC.seq ?_
  refine VC.block ?_
  refine VC.seq ?_
  refine VC.seqR tabOk [some 8, some 9, some 10, some 7] [1, 2, 4, 7] rfl rfl (fun K hK => ?_)
  push_cast
  refine callP (may_ctr f t hx hl0) rfl ?_
  push_cast [hm]
  refine hK _ ?_; clear hK K
  refine VC.cond rfl rfl (fun hc0 => ?_) (fun hc0 => ?_)
  · exact absurd hc0 (by simp)
  · refine VC.lastR tabOk [some 11, some 12, some 13, some 14, some 7] rfl rfl (fun K hK => ?_)
    push_cast [hk2]
    refine hK _ ?_; clear hK K
    refine VC.cond rfl rfl (fun hc1 => ?_) (fun hc1 => ?_)
    · exact absurd hc1 (by simp)
    · refine VC.seqR tabOk [some 17, some 18, some 19, some 20, some 21, some 22, some 23, some 16] [1, 2, 4, 16] rfl rfl (fun K hK => ?_)
      push_cast
      refine hK _ ?_; clear hK K
      refine VC.cond rfl rfl (fun hc2 => ?_) (fun hc2 => ?_)
      · exact absurd hc2 (by simpa using hc)
      · refine VC.skip ?_
        refine VC.seqR tabOk [some 25, some 26, some 6, none] [1, 4, 6] rfl rfl (fun K hK => ?_)
        push_cast
        refine callH (H := []) (H' := [(22, .row 41 2 0 (t.e.map encEnt))]) (own_rctr f t 22 (mayFits hm) hl0) (by push_cast) rfl rfl rfl ?_
        push_cast
        refine hK _ ?_; clear hK K
        refine VC.seqR tabOk [some 27, some 28, some 29, some 30, some 31, some 32, some 33, some 34, some 35, some 36, none] [4, 6] rfl rfl (fun K hK => ?_)
        push_cast
        refine ⟨by omega, ?_⟩
        refine hK _ ?_; clear hK K
        refine VC.seqR tabOk [some 37, some 38, some 39, some 40, none] [4, 6] rfl rfl (fun K hK => ?_)
        push_cast [hwn]
        refine hK _ ?_; clear hK K
        refine VC.seqR tabOk [some 41, none, some 5] [4, 5] rfl rfl (fun K hK => ?_)
        push_cast
        refine hK _ ?_; clear hK K
        refine VC.sub (Sub.freeze prog (b := 2) (j := 4) rfl rfl rfl (by simp) (by decide)) ?_
        push_cast [hfin]
        refine VC.ret ?_
        refine Post.ret ?_ ?_ ?_
        · push_cast
        · push_cast
        · rfl
theorem push_may (f : Bool) (t : Tab) (v : Nat) (hx : t.next < 4294967296) (hl0 : okEs t.e) (hv : v < 4294967296) (hm : t.may = false) : Ctr prog 24 [avTab f t, .raw (.int .u32 (v : Int))] [] (.tup [avTab false (t.push v).1, .raw (.int .i64 (t.push v).2)]) [] := by
  have hpush : t.push v = (Tab.zero, 1) := by
    unfold Tab.push
    rw [if_pos (Or.inl hm)]
  rw [hpush]
  refine Ctr.of tabOk func24 rfl call24 0 _ ntmps24 [.cell 4 27, .tmp 5] rfl rfl rfl (fun B => ?_)
  refine VC.seqR tabOk [some 2, some 4, some 5] [1, 2, 4] rfl rfl (fun K hK => ?_)
  push_cast
  refine hK _ ?_; clear hK K
  refine VC.seq ?_
  refine VC.block ?_
  refine VC.seq ?_
  refine VC.seqR tabOk [some 8, some 9, some 10, some 7] [1, 2, 4, 7] rfl rfl (fun K hK => ?_)
  push_cast
  refine callP (may_ctr f t hx hl0) rfl ?_
  push_cast [hm]
  refine hK _ ?_; clear hK K
  refine VC.cond rfl rfl (fun hc0 => ?_) (fun hc0 => ?_)
  · refine VC.skip ?_
    refine VC.cond rfl rfl (fun hc1 => ?_) (fun hc1 => ?_)
    · refine VC.seqR tabOk [some 15, none, some 5] [4, 5] rfl rfl (fun K hK => ?_)
      push_cast
      refine hK _ ?_; clear hK K
      refine VC.sub (Sub.looseB (b := 1) (j := 4) rfl rfl) ?_
      push_cast
      refine VC.ret ?_
      refine Post.ret ?_ ?_ ?_
      · push_cast [Tab.zero]
      · push_cast
      · rfl
    · exact absurd hc1 (by simp)
  · exact absurd hc0 (by simp)
theorem push_kind (f : Bool) (t : Tab) (v : Nat) (hx : t.next < 4294967296) (hl0 : okEs t.e) (hv : v < 4294967296) (hm : t.may = true) (hk : t.s.kind ≠ 3) : Ctr prog 24 [avTab f t, .raw (.int .u32 (v : Int))] [] (.tup [avTab false (t.push v).1, .raw (.int .i64 (t.push v).2)]) [] := by
  have hpush : t.push v = (Tab.zero, 1) := by
    unfold Tab.push
    rw [if_pos (Or.inr hk)]
  have hk2 : (t.s.kind != 3) = true := by simp [hk]
  rw [hpush]
  refine Ctr.of tabOk func24 rfl call24 0 _ ntmps24 [.cell 4 27, .tmp 5] rfl rfl rfl (fun B => ?_)
  refine VC.seqR tabOk [some 2, some 4, some 5] [1, 2, 4] rfl rfl (fun K hK => ?_)
  push_cast
  refine hK _ ?_; clear hK K
  refine VC.seq ?_
  refine VC.block ?_
  refine VC.seq ?_
  refine VC.seqR tabOk [some 8, some 9, some 10, some 7] [1, 2, 4, 7] rfl rfl (fun K hK => ?_)
  push_cast
  refine callP (may_ctr f t hx hl0) rfl ?_
  push_cast [hm]
  refine hK _ ?_; clear hK K
  refine VC.cond rfl rfl (fun hc0 => ?_) (fun hc0 => ?_)
  · exact absurd hc0 (by simp)
  · refine VC.lastR tabOk [some 11, some 12, some 13, some 14, some 7] rfl rfl (fun K hK => ?_)
    push_cast [hk2]
    refine hK _ ?_; clear hK K
    refine VC.cond rfl rfl (fun hc1 => ?_) (fun hc1 => ?_)
    · refine VC.seqR tabOk [some 15, none, some 5] [4, 5] rfl rfl (fun K hK => ?_)
      push_cast
      refine hK _ ?_; clear hK K
      refine VC.sub (Sub.looseB (b := 1) (j := 4) rfl rfl) ?_
      push_cast
      refine VC.ret ?_
      refine Post.ret ?_ ?_ ?_
      · push_cast [Tab.zero]
      · push_cast
      · rfl
    · exact absurd hc1 (by simp)
theorem push_full (f : Bool) (t : Tab) (v : Nat) (hx : t.next < 4294967296) (hl0 : okEs t.e) (hv : v < 4294967296) (hm : t.may = true) (hk : t.s.kind = 3) (hc : (t.e.length : Int) = t.s.cap) : Ctr prog 24 [avTab f t, .raw (.int .u32 (v : Int))] [] (.tup [avTab false (t.push v).1, .raw (.int .i64 (t.push v).2)]) [] := by
  have hpush : t.push v = (Tab.zero, 4) := by
    unfold Tab.push
    rw [if_neg (by simp [hm, hk]), if_pos hc]
  have hk2 : (t.s.kind != 3) = false := by simp [hk]
  rw [hpush]
  refine Ctr.of tabOk func24 rfl call24 0 _ ntmps24 [.cell 4 27, .tmp 5] rfl rfl rfl (fun B => ?_)
  refine VC.seqR tabOk [some 2, some 4, some 5] [1, 2, 4] rfl rfl (fun K hK => ?_)
  push_cast
  refine hK _ ?_; clear hK K
  refine VC.seq ?_
  refine VC.block ?_
  refine VC.seq ?_
  refine VC.seqR tabOk [some 8, some 9, some 10, some 7] [1, 2, 4, 7] rfl rfl (fun K hK => ?_)
  push_cast
  refine callP (may_ctr f t hx hl0) rfl ?_
  push_cast [hm]
  refine hK _ ?_; clear hK K
  refine VC.cond rfl rfl (fun hc0 => ?_) (fun hc0 => ?_)
  · exact absurd hc0 (by simp)
  · refine VC.lastR tabOk [some 11, some 12, some 13, some 14, some 7] rfl rfl (fun K hK => ?_)
    push_cast [hk2]
    refine hK _ ?_; clear hK K
    refine VC.cond rfl rfl (fun hc1 => ?_) (fun hc1 => ?_)
    · exact absurd hc1 (by simp)
    · refine VC.seqR tabOk [some 17, some 18, some 19, some 20, some 21, some 22, some 23, some 16] [1, 2, 4, 16] rfl rfl (fun K hK => ?_)
      push_cast
      refine hK _ ?_; clear hK K
      refine VC.cond rfl rfl (fun hc2 => ?_) (fun hc2 => ?_)
      · refine VC.seqR tabOk [some 24, none, some 5] [4, 5] rfl rfl (fun K hK => ?_)
        push_cast
        refine hK _ ?_; clear hK K
        refine VC.sub (Sub.looseB (b := 1) (j := 4) rfl rfl) ?_
        push_cast
        refine VC.ret ?_
        refine Post.ret ?_ ?_ ?_
        · push_cast [Tab.zero]
        · push_cast
        · rfl
      · exact absurd hc2 (by simp [hc])
theorem push_ctr (f : Bool) (t : Tab) (v : Nat) (hx : t.next < 4294967296) (hl0 : okEs t.e) (hv : v < 4294967296) : Ctr prog 24 [avTab f t, .raw (.int .u32 (v : Int))] [] (.tup [avTab false (t.push v).1, .raw (.int .i64 (t.push v).2)]) [] := by
  cases hm : t.may with
  | false => exact push_may f t v hx hl0 hv hm
  | true =>
    by_cases hk : t.s.kind = 3
    · by_cases hc : (t.e.length : Int) = t.s.cap
      · exact push_full f t v hx hl0 hv hm hk hc
      · exact push_ok f t v hx hl0 hv hm hk hc
    · exact push_kind f t v hx hl0 hv hm hk
def Tab.pop (t : Tab) : Tab × Nat × Bool :=
  if t.may = false ∨ t.s.kind ≠ 3 ∨ t.e.length = 0 then (t, 0, false)
  else ({ t with e := t.e.drop 1 }, t.word 0 0, true)
theorem pop_ok (f : Bool) (t : Tab) (hx : t.next < 4294967296) (hl0 : okEs t.e) (hfit : fits t.e) (hm : t.may = true) (hk : t.s.kind = 3) (hn : t.e.length ≠ 0) : Ctr prog 26 [avTab f t] [] (.tup [avTab false t.pop.1, .raw (.int .u32 (t.pop.2.1 : Int)), .raw (.bool t.pop.2.2)]) [] := by
  have hk2 : (t.s.kind != 3) = false := by simp [hk]
  have hl2 : ((t.e.length : Int) == 0) = false := by rw [beq_eq_false_iff_ne]; omega
  have hlt : 0 < t.e.length := by omega
  obtain ⟨e, he⟩ : ∃ e, t.e[0]? = some e := ⟨_, List.getElem?_eq_getElem hlt⟩
  have hw := ((t.elOk_iff 0 e).1 ((t.may_iff.1 hm).2 0 e he)).1
  have hb := Sch.may_bounds (Tab.may_sch hm)
  have hlv : 0 < e.v.length := by omega
  obtain ⟨x, hxv⟩ : ∃ x, e.v[0]? = some x := ⟨_, List.getElem?_eq_getElem hlv⟩
  have hcut : List.drop 1 (List.take t.e.length (t.e.map encEnt)) = (t.e.drop 1).map encEnt := by
    rw [List.take_of_length_le (by simp), List.map_drop]
  have hltI : (0 : Int) < (t.e.length : Int) := by omega
  have hlvI : (0 : Int) < (e.v.length : Int) := by omega
  have hpop : t.pop = ({ t with e := t.e.drop 1 }, x, true) := by
    unfold Tab.pop
    rw [if_neg (by simp [hm, hk, hn])]
    simp [Tab.word, he, hxv]
  rw [hpop]
  refine Ctr.of tabOk func26 rfl call26 0 _ ntmps26 [.cell 2 27, .tmp 3, .tmp 4] rfl rfl rfl (fun B => ?_)
  refine VC.seqR tabOk [some 1, some 2, some 3, some 4] [1, 2] rfl rfl (fun K hK => ?_)
  push_cast
  refine hK _ ?_; clear hK K
  refine VC.seqR tabOk [some 7, some 8, some 5, none] [1, 2, 5] rfl rfl (fun K hK => ?_)
  push_cast
  refine callP (own_ctr f t hfit hl0) rfl ?_
  push_cast
  refine hK _ ?_; clear hK K
  refine VC.seq ?_
  refine VC.seqR tabOk [some 9, some 10, some 11, some 12, some 13, some 14, some 15, some 16, some 17, some 18, some 19, some 20, some 21, some 22, some 23] [2, 5, 23] rfl rfl (fun K hK => ?_)
  push_cast [hk2, hl2]
  refine callP (may_ctr f t hx hl0) rfl ?_
  push_cast [hk2, hl2, hm, hk2, hl2]
  refine hK _ ?_; clear hK K
  refine VC.cond rfl rfl (fun hc0 => ?_) (fun hc0 => ?_)
  · exact absurd hc0 (by simp)
  · refine VC.skip ?_
    refine VC.seqR tabOk [some 25, some 26, some 27, some 28, some 29, some 30, some 31, some 6] [2, 5, 6] rfl rfl (fun K hK => ?_)
    push_cast [he, hxv]
    refine ⟨by omega, by omega, by omega, by omega, ?_⟩
    refine hK _ ?_; clear hK K
    refine VC.seqR tabOk [some 32, some 33, some 34, some 35, none] [2, 5, 6] rfl rfl (fun K hK => ?_)
    push_cast
    refine ⟨by omega, ?_⟩
    refine hK _ ?_; clear hK K
    refine VC.seqR tabOk [some 36, some 37, none, some 3, some 4] [2, 3, 4] rfl rfl (fun K hK => ?_)
    push_cast
    refine hK _ ?_; clear hK K
    refine VC.ret ?_
    refine Post.ret ?_ ?_ ?_
    · push_cast [hcut]
    · push_cast
    · rfl
theorem pop_may (f : Bool) (t : Tab) (hx : t.next < 4294967296) (hl0 : okEs t.e) (hfit : fits t.e) (hm : t.may = false) : Ctr prog 26 [avTab f t] [] (.tup [avTab false t.pop.1, .raw (.int .u32 (t.pop.2.1 : Int)), .raw (.bool t.pop.2.2)]) [] := by
  have hpop : t.pop = (t, 0, false) := by
    unfold Tab.pop
    rw [if_pos (Or.inl hm)]
  rw [hpop]
  have h0 := hx
  refine Ctr.of tabOk func26 rfl call26 0 _ ntmps26 [.cell 2 27, .tmp 3, .tmp 4] rfl rfl rfl (fun B => ?_)
  refine VC.seqR tabOk [some 1, some 2, some 3, some 4] [1, 2] rfl rfl (fun K hK => ?_)
  push_cast
  refine hK _ ?_; clear hK K
  refine VC.seqR tabOk [some 7, some 8, some 5, none] [1, 2, 5] rfl rfl (fun K hK => ?_)
  push_cast
  refine callP (own_ctr f t hfit hl0) rfl ?_
  push_cast
  refine hK _ ?_; clear hK K
  refine VC.seq ?_
  refine VC.seqR tabOk [some 9, some 10, some 11, some 12, some 13, some 14, some 15, some 16, some 17, some 18, some 19, some 20, some 21, some 22, some 23] [2, 5, 23] rfl rfl (fun K hK => ?_)
  push_cast [h0]
  refine callP (may_ctr f t hx hl0) rfl ?_
  push_cast [h0, h0, hm]
  refine hK _ ?_; clear hK K
  refine VC.cond rfl rfl (fun hc0 => ?_) (fun hc0 => ?_)
  · refine VC.seqR tabOk [some 24, none, some 3, some 4] [2, 3, 4] rfl rfl (fun K hK => ?_)
    push_cast
    refine hK _ ?_; clear hK K
    refine VC.ret ?_
    refine Post.ret ?_ ?_ ?_
    · push_cast
    · push_cast
    · rfl
  · exact absurd hc0 (by simp)
theorem pop_kind (f : Bool) (t : Tab) (hx : t.next < 4294967296) (hl0 : okEs t.e) (hfit : fits t.e) (hm : t.may = true) (hk : t.s.kind ≠ 3) : Ctr prog 26 [avTab f t] [] (.tup [avTab false t.pop.1, .raw (.int .u32 (t.pop.2.1 : Int)), .raw (.bool t.pop.2.2)]) [] := by
  have hpop : t.pop = (t, 0, false) := by
    unfold Tab.pop
    rw [if_pos (Or.inr (Or.inl hk))]
  rw [hpop]
  have hk2 : (t.s.kind != 3) = true := by simp [hk]
  refine Ctr.of tabOk func26 rfl call26 0 _ ntmps26 [.cell 2 27, .tmp 3, .tmp 4] rfl rfl rfl (fun B => ?_)
  refine VC.seqR tabOk [some 1, some 2, some 3, some 4] [1, 2] rfl rfl (fun K hK => ?_)
  push_cast
  refine hK _ ?_; clear hK K
  refine VC.seqR tabOk [some 7, some 8, some 5, none] [1, 2, 5] rfl rfl (fun K hK => ?_)
  push_cast
  refine callP (own_ctr f t hfit hl0) rfl ?_
  push_cast
  refine hK _ ?_; clear hK K
  refine VC.seq ?_
  refine VC.seqR tabOk [some 9, some 10, some 11, some 12, some 13, some 14, some 15, some 16, some 17, some 18, some 19, some 20, some 21, some 22, some 23] [2, 5, 23] rfl rfl (fun K hK => ?_)
  push_cast [hk2]
  refine callP (may_ctr f t hx hl0) rfl ?_
  push_cast [hk2, hk2, hm]
  refine hK _ ?_; clear hK K
  refine VC.cond rfl rfl (fun hc0 => ?_) (fun hc0 => ?_)
  · refine VC.seqR tabOk [some 24, none, some 3, some 4] [2, 3, 4] rfl rfl (fun K hK => ?_)
    push_cast
    refine hK _ ?_; clear hK K
    refine VC.ret ?_
    refine Post.ret ?_ ?_ ?_
    · push_cast
    · push_cast
    · rfl
  · exact absurd hc0 (by simp)
theorem pop_none (f : Bool) (t : Tab) (hx : t.next < 4294967296) (hl0 : okEs t.e) (hfit : fits t.e) (hm : t.may = true) (hk : t.s.kind = 3) (hn : t.e.length = 0) : Ctr prog 26 [avTab f t] [] (.tup [avTab false t.pop.1, .raw (.int .u32 (t.pop.2.1 : Int)), .raw (.bool t.pop.2.2)]) [] := by
  have hpop : t.pop = (t, 0, false) := by
    unfold Tab.pop
    rw [if_pos (Or.inr (Or.inr hn))]
  rw [hpop]
  have hk2 : (t.s.kind != 3) = false := by simp [hk]
  have hl2 : ((t.e.length : Int) == 0) = true := by rw [hn]; rfl
  refine Ctr.of tabOk func26 rfl call26 0 _ ntmps26 [.cell 2 27, .tmp 3, .tmp 4] rfl rfl rfl (fun B => ?_)
  refine VC.seqR tabOk [some 1, some 2, some 3, some 4] [1, 2] rfl rfl (fun K hK => ?_)
  push_cast
  refine hK _ ?_; clear hK K
  refine VC.seqR tabOk [some 7, some 8, some 5, none] [1, 2, 5] rfl rfl (fun K hK => ?_)
  push_cast
  refine callP (own_ctr f t hfit hl0) rfl ?_
  push_cast
  refine hK _ ?_; clear hK K
  refine VC.seq ?_
  refine VC.seqR tabOk [some 9, some 10, some 11, some 12, some 13, some 14, some 15, some 16, some 17, some 18, some 19, some 20, some 21, some 22, some 23] [2, 5, 23] rfl rfl (fun K hK => ?_)
  push_cast [hk2, hl2]
  refine callP (may_ctr f t hx hl0) rfl ?_
  push_cast [hk2, hl2, hk2, hl2, hm]
  refine hK _ ?_; clear hK K
  refine VC.cond rfl rfl (fun hc0 => ?_) (fun hc0 => ?_)
  · refine VC.seqR tabOk [some 24, none, some 3, some 4] [2, 3, 4] rfl rfl (fun K hK => ?_)
    push_cast
    refine hK _ ?_; clear hK K
    refine VC.ret ?_
    refine Post.ret ?_ ?_ ?_
    · push_cast
    · push_cast
    · rfl
  · exact absurd hc0 (by simp)
theorem pop_ctr (f : Bool) (t : Tab) (hx : t.next < 4294967296) (hl0 : okEs t.e) (hfit : fits t.e) : Ctr prog 26 [avTab f t] [] (.tup [avTab false t.pop.1, .raw (.int .u32 (t.pop.2.1 : Int)), .raw (.bool t.pop.2.2)]) [] := by
  cases hm : t.may with
  | false => exact pop_may f t hx hl0 hfit hm
  | true =>
    by_cases hk : t.s.kind = 3
    · by_cases hn : t.e.length = 0
      · exact pop_none f t hx hl0 hfit hm hk hn
      · exact pop_ok f t hx hl0 hfit hm hk hn
    · exact pop_kind f t hx hl0 hfit hm hk
def toS (s : T_Schema) : Sch := ⟨s.Kind, s.Cap, s.Words, s.Ver⟩
def ofS (s : Sch) : T_Schema := ⟨s.kind, s.cap, s.words, s.ver⟩
def toE (e : T_Entry) : Ent := ⟨e.Key.toNat, e.V.map UInt32.toNat⟩
def ofE (e : Ent) : T_Entry := ⟨UInt32.ofNat e.key, e.v.map UInt32.ofNat⟩
def toT (t : T_Table) : Tab := ⟨toS t.S, t.E.map toE, t.Next.toNat⟩
def ofT (t : Tab) : T_Table := ⟨ofS t.s, t.e.map ofE, UInt32.ofNat t.next⟩
theorem to_of32 {n : Nat} (h : n < 4294967296) : (UInt32.ofNat n).toNat = n := by
  show n % 4294967296 = n
  exact Nat.mod_eq_of_lt h
theorem lt32_to (l : List UInt32) : lt32 (l.map UInt32.toNat) := fun x hx => by
  obtain ⟨y, _, rfl⟩ := List.mem_map.1 hx
  exact y.toNat_lt
theorem toE_ofE {e : Ent} (h1 : e.key < 4294967296) (h2 : lt32 e.v) : toE (ofE e) = e := by
  obtain ⟨k, v⟩ := e
  simp only [ofE, toE, to_of32 h1, List.map_map, Ent.mk.injEq, true_and]
  conv => rhs; rw [← List.map_id v]
  exact List.map_congr_left fun x hx => to_of32 (h2 x hx)
theorem toS_ofS (s : Sch) : toS (ofS s) = s := rfl
theorem ofS_toS (s : T_Schema) : ofS (toS s) = s := rfl
theorem toT_ofT {t : Tab} (h1 : okEs t.e) (h2 : t.next < 4294967296) : toT (ofT t) = t := by
  obtain ⟨s, e, n⟩ := t
  simp only [ofT, toT, toS_ofS, to_of32 h2, List.map_map, Tab.mk.injEq, true_and, and_true]
  conv => rhs; rw [← List.map_id e]
  exact List.map_congr_left fun x hx => toE_ofE (h1 x hx).1 (h1 x hx).2
theorem ofE_toE (e : T_Entry) : ofE (toE e) = e := by
  obtain ⟨k, v⟩ := e
  simp only [ofE, toE, List.map_map, T_Entry.mk.injEq]
  refine ⟨UInt32.ofNat_toNat, ?_⟩
  conv => rhs; rw [← List.map_id v]
  exact List.map_congr_left fun x hx => UInt32.ofNat_toNat
theorem ofT_toT (t : T_Table) : ofT (toT t) = t := by
  obtain ⟨s, e, n⟩ := t
  simp only [ofT, toT, ofS_toS, List.map_map, T_Table.mk.injEq, true_and]
  refine ⟨?_, UInt32.ofNat_toNat⟩
  conv => rhs; rw [← List.map_id e]
  exact List.map_congr_left fun x hx => ofE_toE x
theorem toT_inj {t u : T_Table} (h : toT t = toT u) : t = u := by rw [← ofT_toT t, h, ofT_toT]
theorem okEs_to (t : T_Table) : okEs (toT t).e := fun e he => by
  obtain ⟨x, _, rfl⟩ := List.mem_map.1 he
  exact ⟨x.Key.toNat_lt, lt32_to _⟩
theorem next_to (t : T_Table) : (toT t).next < 4294967296 := t.Next.toNat_lt
theorem enc_toE (e : T_Entry) : encEnt (toE e) = enc_Entry e := by
  simp only [encEnt, toE, enc_Entry, List.map_map]
  rfl
theorem av_to (t : T_Table) : avTab false (toT t) = .agg (enc_Table t) := by
  simp only [avTab, cellsTab, toT, toS, enc_Table, List.map_map]
  congr 3
  have : (encEnt ∘ toE) = enc_Entry := funext enc_toE
  rw [this]
theorem av_of {t : Tab} (h1 : okEs t.e) (h2 : t.next < 4294967296) : avTab false t = .agg (enc_Table (ofT t)) := by rw [← av_to, toT_ofT h1 h2]
theorem word_lt {t : Tab} {i f : Nat} (h : okEs t.e) : t.word i f < 4294967296 := by
  unfold Tab.word
  cases he : t.e[i]? with
  | none => exact (by show (0 : Nat) < 4294967296; decide)
  | some e =>
    show (e.v[f]?).getD 0 < 4294967296
    cases hv : e.v[f]? with
    | none => exact (by decide)
    | some x => exact (h e (List.mem_of_getElem? he)).2 x (List.mem_of_getElem? hv)
theorem get_lt32 {t : Tab} {k f : Nat} (h : okEs t.e) : (t.get k f).2.1 < 4294967296 := by
  unfold Tab.get
  split
  · exact word_lt h
  · show (0 : Nat) < 4294967296
    decide
theorem get_next {t : Tab} {k f : Nat} (h : t.next < 4294967296) : (t.get k f).1.next < 4294967296 := by rw [(get_s t k f).2]; exact h
theorem del_next {t : Tab} {k : Nat} (h : t.next < 4294967296) : (t.del k).1.next < 4294967296 := by rw [(del_s t k).2]; exact h
theorem okEs_push {t : Tab} {v : Nat} (h : okEs t.e) (hn : t.next < 4294967296) (hv : v < 4294967296) : okEs (t.push v).1.e := by
  unfold Tab.push
  split
  · exact okEs_nil
  · split
    · exact okEs_nil
    · intro e he
      rcases List.mem_append.1 he with he | he
      · exact h e he
      · rw [List.mem_singleton] at he
        subst he
        exact ⟨hn, fun y hy => by rw [List.mem_singleton] at hy; subst hy; exact hv⟩
theorem push_next {t : Tab} {v : Nat} : (t.push v).1.next < 4294967296 := by
  unfold Tab.push
  split
  · exact (by decide)
  · split
    · exact (by decide)
    · exact Nat.mod_lt _ (by decide)
theorem okEs_pop {t : Tab} (h : okEs t.e) : okEs t.pop.1.e := by
  unfold Tab.pop
  split
  · exact h
  · exact fun e he => h e (List.mem_of_mem_drop he)
theorem pop_next {t : Tab} (h : t.next < 4294967296) : t.pop.1.next < 4294967296 := by
  unfold Tab.pop
  split <;> exact h
theorem pop_lt32 {t : Tab} (h : okEs t.e) : t.pop.2.1 < 4294967296 := by
  unfold Tab.pop
  split
  · show (0 : Nat) < 4294967296
    decide
  · exact word_lt h
instance fitsDec (es : List Ent) : Decidable (fits es) := by
  unfold fits
  infer_instance
def p_table_Get (t : T_Table) (k f : UInt32) : Option (T_Table × UInt32 × Bool) :=
  pg (fits (toT t).e) (some (ofT ((toT t).get k.toNat f.toNat).1, UInt32.ofNat ((toT t).get k.toNat f.toNat).2.1, ((toT t).get k.toNat f.toNat).2.2))
theorem c_table_Get (t : T_Table) (k f : UInt32) {r : T_Table × UInt32 × Bool} (h : p_table_Get t k f = some r) : Ctr prog 17 [.agg (enc_Table t), .raw (.int .u32 (k.toNat : Int)), .raw (.int .u32 (f.toNat : Int))] [] (.tup [.agg (enc_Table r.1), .raw (.int .u32 (r.2.1.toNat : Int)), .raw (.bool r.2.2)]) [] := by
  obtain ⟨hf, h⟩ := pg_some h
  have hr := Option.some.inj h
  subst hr
  have := get_ctr false (toT t) k.toNat f.toNat (next_to t) f.toNat_lt hf (okEs_to t)
  rw [av_to, av_of (okEs_get (okEs_to t)) (get_next (next_to t))] at this
  simp only [to_of32 (get_lt32 (okEs_to t))]
  exact this
def p_table_Set (t : T_Table) (k f v : UInt32) : Option (T_Table × Int) :=
  pg (fits (toT t).e) (some (ofT ((toT t).set k.toNat f.toNat v.toNat).1, ((toT t).set k.toNat f.toNat v.toNat).2))
theorem c_table_Set (t : T_Table) (k f v : UInt32) {r : T_Table × Int} (h : p_table_Set t k f v = some r) : Ctr prog 18 [.agg (enc_Table t), .raw (.int .u32 (k.toNat : Int)), .raw (.int .u32 (f.toNat : Int)), .raw (.int .u32 (v.toNat : Int))] [] (.tup [.agg (enc_Table r.1), .raw (.int .i64 r.2)]) [] := by
  obtain ⟨hf, h⟩ := pg_some h
  have hr := Option.some.inj h
  subst hr
  have := set_ctr false (toT t) k.toNat f.toNat v.toNat (next_to t) f.toNat_lt k.toNat_lt v.toNat_lt hf (okEs_to t)
  rw [av_to, av_of (okEs_set (okEs_to t) k.toNat_lt v.toNat_lt) (set_next (next_to t))] at this
  exact this
def p_table_Del (t : T_Table) (k : UInt32) : Option (T_Table × Bool) :=
  pg (fits (toT t).e) (some (ofT ((toT t).del k.toNat).1, ((toT t).del k.toNat).2))
theorem c_table_Del (t : T_Table) (k : UInt32) {r : T_Table × Bool} (h : p_table_Del t k = some r) : Ctr prog 19 [.agg (enc_Table t), .raw (.int .u32 (k.toNat : Int))] [] (.tup [.agg (enc_Table r.1), .raw (.bool r.2)]) [] := by
  obtain ⟨hf, h⟩ := pg_some h
  have hr := Option.some.inj h
  subst hr
  have := del_ctr false (toT t) k.toNat (next_to t) hf (okEs_to t)
  rw [av_to, av_of (okEs_del (okEs_to t)) (del_next (next_to t))] at this
  exact this
def p_table_Push (t : T_Table) (v : UInt32) : Option (T_Table × Int) := some (ofT ((toT t).push v.toNat).1, ((toT t).push v.toNat).2)
theorem c_table_Push (t : T_Table) (v : UInt32) {r : T_Table × Int} (h : p_table_Push t v = some r) : Ctr prog 24 [.agg (enc_Table t), .raw (.int .u32 (v.toNat : Int))] [] (.tup [.agg (enc_Table r.1), .raw (.int .i64 r.2)]) [] := by
  have hr := Option.some.inj h
  subst hr
  have := push_ctr false (toT t) v.toNat (next_to t) (okEs_to t) v.toNat_lt
  rw [av_to, av_of (okEs_push (okEs_to t) (next_to t) v.toNat_lt) push_next] at this
  exact this
def p_table_Pop (t : T_Table) : Option (T_Table × UInt32 × Bool) := pg (fits (toT t).e) (some (ofT (toT t).pop.1, UInt32.ofNat (toT t).pop.2.1, (toT t).pop.2.2))
theorem c_table_Pop (t : T_Table) {r : T_Table × UInt32 × Bool} (h : p_table_Pop t = some r) : Ctr prog 26 [.agg (enc_Table t)] [] (.tup [.agg (enc_Table r.1), .raw (.int .u32 (r.2.1.toNat : Int)), .raw (.bool r.2.2)]) [] := by
  obtain ⟨hf, h⟩ := pg_some h
  have hr := Option.some.inj h
  subst hr
  have := pop_ctr false (toT t) (next_to t) (okEs_to t) hf
  rw [av_to, av_of (okEs_pop (okEs_to t)) (pop_next (next_to t))] at this
  simp only [to_of32 (pop_lt32 (okEs_to t))]
  exact this
def p_table_May (t : T_Table) : Option Bool := some (toT t).may
theorem c_table_May (t : T_Table) {r : Bool} (h : p_table_May t = some r) : Ctr prog 15 [.agg (enc_Table t)] [] (.raw (.bool r)) [] := by
  have hr := Option.some.inj h
  subst hr
  have := may_ctr false (toT t) (next_to t) (okEs_to t)
  rw [av_to] at this
  exact this
def p_drydockref05_May (t : T_Table) : Option Bool := some (toT t).may
theorem c_drydockref05_May (t : T_Table) {r : Bool} (h : p_drydockref05_May t = some r) : Ctr prog 30 [.agg (enc_Table t)] [] (.raw (.bool r)) [] := by
  have hr := Option.some.inj h
  subst hr
  have := rmay_ctr false (toT t) (next_to t) (okEs_to t)
  rw [av_to] at this
  exact this
theorem same_to (t u : T_Table) : sameB (toT t) (toT u) = decide (t = u) := by
  unfold sameB
  exact decide_eq_decide.2 ⟨toT_inj, fun h => by rw [h]⟩
def p_table_Same (t u : T_Table) : Option Bool := some (decide (t = u))
theorem c_table_Same (t u : T_Table) {r : Bool} (h : p_table_Same t u = some r) : Ctr prog 31 [.agg (enc_Table t), .agg (enc_Table u)] [] (.raw (.bool r)) [] := by
  have hr := Option.some.inj h
  subst hr
  have := same_ctr false false (toT t) (toT u) (okEs_to t) (okEs_to u)
  rw [av_to, av_to, same_to] at this
  exact this
def p_drydockref05_Same (t u : T_Table) : Option Bool := some (decide (t = u))
theorem c_drydockref05_Same (t u : T_Table) {r : Bool} (h : p_drydockref05_Same t u = some r) : Ctr prog 20 [.agg (enc_Table t), .agg (enc_Table u)] [] (.raw (.bool r)) [] := by
  have hr := Option.some.inj h
  subst hr
  have := rsame_ctr false false (toT t) (toT u) (okEs_to t) (okEs_to u)
  rw [av_to, av_to, same_to] at this
  exact this
theorem okEs_new' {s : Sch} : okEs (Tab.new s).1.e := by
  rcases okEs_new (s := s) with h | h
  · exact h
  · have : s.may = false := by
      simp [Sch.may, inB]
      omega
    unfold Tab.new
    rw [if_pos this]
    exact okEs_nil
theorem new_next {s : Sch} : (Tab.new s).1.next < 4294967296 := by
  unfold Tab.new
  split
  · exact (by decide)
  · show (0 : Nat) < 4294967296
    decide
def p_table_New (s : T_Schema) : Option (T_Table × Int) := some (ofT (Tab.new (toS s)).1, (Tab.new (toS s)).2)
theorem c_table_New (s : T_Schema) {r : T_Table × Int} (h : p_table_New s = some r) : Ctr prog 28 [.agg (enc_Schema s)] [] (.tup [.agg (enc_Table r.1), .raw (.int .i64 r.2)]) [] := by
  have hr := Option.some.inj h
  subst hr
  have := new_ctr (toS s)
  rw [av_of okEs_new' new_next] at this
  exact this
def p_drydocklaw05_awake : Option Bool := some true
theorem c_drydocklaw05_awake {r : Bool} (h : p_drydocklaw05_awake = some r) : Ctr prog 13 [] [] (.raw (.bool r)) [] := by
  have hr := Option.some.inj h
  subst hr
  exact awake5_ctr
noncomputable def p_helper_told (a0 : Bool) : Option (UInt32) :=
  cond a0 (
  some 1) (
  some 0)
theorem c_helper_told (a0 : Bool) {r : UInt32} (h : p_helper_told a0 = some r) : Ctr prog 82 [.raw (.bool a0)] [] (.raw (.int .u32 (r.toNat : Int))) [] := by
 unfold p_helper_told at h; refine Ctr.ofW tabOk func82 rfl call82 0 _ ntmps82 [.tmp 2] rfl rfl rfl (fun B => ?_); refine VC.seqF tabOkF [some 2] [0] rfl rfl (fun K hK => ?_); push_cast; (repeat refine .intro (by omega) ?_); refine hK _ ?_; clear hK K; refine VC.seq ?_; refine VC.seqF tabOkF [some 3] [3] rfl rfl (fun K hK => ?_); push_cast; (repeat refine .intro (by omega) ?_); refine hK _ ?_; clear hK K; refine VC.cond rfl rfl (fun hc1 => ?_) (fun hc1 => ?_)
 ·have hb1 : a0 = true := by simpa using hc1
  replace h := cond_yes hb1 h; refine VC.seqF tabOkF [some 2] [2] rfl rfl (fun K hK => ?_); push_cast [hb1]; (repeat refine .intro (by omega) ?_); refine hK _ ?_; clear hK K; refine VC.ret ?_; have hr := Option.some.inj h; subst hr; refine endP (Sub.lo _) (Post.ret ?_ ?_ ?_)
  ·push_cast [hb1]
  ·push_cast [hb1]
  ·rfl
 ·have hb1 : a0 = false := by simpa using hc1
  replace h := cond_no hb1 h; refine VC.skip ?_; refine VC.seqF tabOkF [some 2] [2] rfl rfl (fun K hK => ?_); push_cast [hb1]; (repeat refine .intro (by omega) ?_); refine hK _ ?_; clear hK K; refine VC.ret ?_; have hr := Option.some.inj h; subst hr; refine endP (Sub.lo _) (Post.ret ?_ ?_ ?_)
  ·push_cast [hb1]
  ·push_cast [hb1]
  ·rfl
noncomputable def p_helper_call_del (a0 : T_helper_call) (a1 : (List UInt32)) : Option (UInt32 × T_helper_call) :=
  po (a1[1]?) fun x1 =>
  po (p_table_Del a0.t x1) fun r2 =>
  po (p_helper_told r2.2) fun r3 =>
  some (r3, (T_helper_call.mk r2.1))
theorem c_helper_call_del (a0 : T_helper_call) (a1 : (List UInt32)) {r : UInt32 × T_helper_call} (h : p_helper_call_del a0 a1 = some r) : Ctr prog 69 [.ref 0 0, .sl false (a1.map encU32)] [(0, .box 95 (enc_helper_call a0))] (.raw (.int .u32 (r.1.toNat : Int))) [(0, .box 95 (enc_helper_call r.2))] := by
 unfold p_helper_call_del at h; refine Ctr.ofW tabOk func69 rfl call69 1 _ ntmps69 [.tmp 4] rfl rfl rfl (fun B => ?_); refine VC.seqF tabOkF [some 4] [0, 1] rfl rfl (fun K hK => ?_); push_cast; (repeat refine .intro (by omega) ?_); refine hK _ ?_; clear hK K; obtain ⟨x1, hx1, h⟩ := po_some h; have hx11 := get_ltI hx1; have hx12 := get_lt hx1; obtain ⟨r2, hr2, h⟩ := po_some h; refine VC.seqFD tabOkF hmixO [some 8, some 9, some 10, some 11, some 12, some 13, some 14, some 15, some 7, some 16, some 17, some 5, none, some 6] [0, 5, 6] rfl rfl rfl (fun K hK => ?_); refine runD_cut 8 (fun K2 hK2 => ?_); push_cast [hx1, hx11, hx12]; (repeat refine .intro (by omega) ?_); refine callPD (Ctr.lo (c_table_Del a0.t x1 hr2)) rfl ?_; push_cast [hx1, hx11, hx12]; (repeat refine .intro (by omega) ?_); refine hK2 _ _ _ ?_; clear hK2 K2; simp only [List.drop_succ_cons, List.drop_zero]; push_cast [hx1, hx11, hx12]; (repeat refine .intro (by omega) ?_); refine ⟨rfl, hK _ ?_⟩; clear hK K; refine VC.seqF tabOkF [some 18, some 19, some 20, some 21, none] [6] rfl rfl (fun K hK => ?_); push_cast [hx1, hx11, hx12]; (repeat refine .intro (by omega) ?_); refine hK _ ?_; clear hK K; obtain ⟨r3, hr3, h⟩ := po_some h; refine VC.seqF tabOkF [some 22, some 23, some 4] [4] rfl rfl (fun K hK => ?_); push_cast [hx1, hx11, hx12]; (repeat refine .intro (by omega) ?_); refine callP (Ctr.lo (c_helper_told r2.2 hr3)) rfl ?_; push_cast [hx1, hx11, hx12]; (repeat refine .intro (by omega) ?_); refine hK _ ?_; clear hK K; refine VC.ret ?_; have hr := Option.some.inj h; subst hr; refine endP (Sub.lo _) (Post.ret ?_ ?_ ?_)
 ·push_cast
 ·push_cast
 ·rfl
noncomputable def p_helper_call_get (a0 : T_helper_call) (a1 : (List UInt32)) : Option (UInt32 × T_helper_call) :=
  po (a1[1]?) fun x1 =>
  po (a1[2]?) fun x2 =>
  po (p_table_Get a0.t x1 x2) fun r3 =>
  some (r3.2.1, (T_helper_call.mk r3.1))
theorem c_helper_call_get (a0 : T_helper_call) (a1 : (List UInt32)) {r : UInt32 × T_helper_call} (h : p_helper_call_get a0 a1 = some r) : Ctr prog 67 [.ref 0 0, .sl false (a1.map encU32)] [(0, .box 95 (enc_helper_call a0))] (.raw (.int .u32 (r.1.toNat : Int))) [(0, .box 95 (enc_helper_call r.2))] := by
 unfold p_helper_call_get at h; refine Ctr.ofW tabOk func67 rfl call67 1 _ ntmps67 [.tmp 4] rfl rfl rfl (fun B => ?_); refine VC.seqF tabOkF [some 4] [0, 1] rfl rfl (fun K hK => ?_); push_cast; (repeat refine .intro (by omega) ?_); refine hK _ ?_; clear hK K; obtain ⟨x1, hx1, h⟩ := po_some h; have hx11 := get_ltI hx1; have hx12 := get_lt hx1; obtain ⟨x2, hx2, h⟩ := po_some h; have hx21 := get_ltI hx2; have hx22 := get_lt hx2; obtain ⟨r3, hr3, h⟩ := po_some h; refine VC.seqFD tabOkF hmixO [some 9, some 10, some 11, some 12, some 13, some 14, some 15, some 16, some 17, some 18, some 19, some 8, some 20, some 21, some 22, some 5, none, some 6, some 7] [0, 5, 6] rfl rfl rfl (fun K hK => ?_); refine runD_cut 8 (fun K2 hK2 => ?_); push_cast [hx1, hx11, hx12, hx2, hx21, hx22]; (repeat refine .intro (by omega) ?_); refine hK2 _ _ _ ?_; clear hK2 K2; simp only [List.drop_succ_cons, List.drop_zero]; refine runD_cut 8 (fun K2 hK2 => ?_); push_cast [hx1, hx11, hx12, hx2, hx21, hx22]; (repeat refine .intro (by omega) ?_); refine callPD (Ctr.lo (c_table_Get a0.t x1 x2 hr3)) rfl ?_; push_cast [hx1, hx11, hx12, hx2, hx21, hx22]; (repeat refine .intro (by omega) ?_); refine hK2 _ _ _ ?_; clear hK2 K2; simp only [List.drop_succ_cons, List.drop_zero]; push_cast [hx1, hx11, hx12, hx2, hx21, hx22]; (repeat refine .intro (by omega) ?_); refine ⟨rfl, hK _ ?_⟩; clear hK K; refine VC.seqF tabOkF [some 23, some 24, some 25, some 26, none] [6] rfl rfl (fun K hK => ?_); push_cast [hx1, hx11, hx12, hx2, hx21, hx22]; (repeat refine .intro (by omega) ?_); refine hK _ ?_; clear hK K; refine VC.seqF tabOkF [some 27, some 4] [4] rfl rfl (fun K hK => ?_); push_cast [hx1, hx11, hx12, hx2, hx21, hx22]; (repeat refine .intro (by omega) ?_); refine hK _ ?_; clear hK K; refine VC.ret ?_; have hr := Option.some.inj h; subst hr; refine endP (Sub.lo _) (Post.ret ?_ ?_ ?_)
 ·push_cast
 ·push_cast
 ·rfl
noncomputable def p_helper_call_has (a0 : T_helper_call) (a1 : (List UInt32)) : Option (UInt32 × T_helper_call) :=
  po (a1[1]?) fun x1 =>
  po (p_table_Get a0.t x1 0) fun r2 =>
  po (p_helper_told r2.2.2) fun r3 =>
  some (r3, a0)
theorem c_helper_call_has (a0 : T_helper_call) (a1 : (List UInt32)) {r : UInt32 × T_helper_call} (h : p_helper_call_has a0 a1 = some r) : Ctr prog 70 [.ref 0 0, .sl false (a1.map encU32)] [(0, .box 95 (enc_helper_call a0))] (.raw (.int .u32 (r.1.toNat : Int))) [(0, .box 95 (enc_helper_call r.2))] := by
 unfold p_helper_call_has at h; refine Ctr.ofW tabOk func70 rfl call70 1 _ ntmps70 [.tmp 4] rfl rfl rfl (fun B => ?_); refine VC.seqF tabOkF [some 4] [0, 1] rfl rfl (fun K hK => ?_); push_cast; (repeat refine .intro (by omega) ?_); refine hK _ ?_; clear hK K; obtain ⟨x1, hx1, h⟩ := po_some h; have hx11 := get_ltI hx1; have hx12 := get_lt hx1; obtain ⟨r2, hr2, h⟩ := po_some h; refine VC.seqFD tabOkF hmixO [some 9, some 10, some 11, some 12, some 13, some 14, some 15, some 16, some 8, some 17, some 18, some 19, some 5, none, some 6, some 7] [7] rfl rfl rfl (fun K hK => ?_); refine runD_cut 8 (fun K2 hK2 => ?_); push_cast [hx1, hx11, hx12]; (repeat refine .intro (by omega) ?_); refine callPD (Ctr.lo (c_table_Get a0.t x1 0 hr2)) rfl ?_; push_cast [hx1, hx11, hx12]; (repeat refine .intro (by omega) ?_); refine hK2 _ _ _ ?_; clear hK2 K2; simp only [List.drop_succ_cons, List.drop_zero]; push_cast [hx1, hx11, hx12]; (repeat refine .intro (by omega) ?_); refine ⟨rfl, hK _ ?_⟩; clear hK K; obtain ⟨r3, hr3, h⟩ := po_some h; refine VC.seqF tabOkF [some 20, some 21, some 4] [4] rfl rfl (fun K hK => ?_); push_cast [hx1, hx11, hx12]; (repeat refine .intro (by omega) ?_); refine callP (Ctr.lo (c_helper_told r2.2.2 hr3)) rfl ?_; push_cast [hx1, hx11, hx12]; (repeat refine .intro (by omega) ?_); refine hK _ ?_; clear hK K; refine VC.ret ?_; have hr := Option.some.inj h; subst hr; refine endP (Sub.lo _) (Post.ret ?_ ?_ ?_)
 ·push_cast
 ·push_cast
 ·rfl
noncomputable def p_helper_call_put_J1 (a2 : Int) (s_1 : T_helper_call) : Option (UInt32 × T_helper_call) :=
  some ((UInt32.ofInt a2), s_1)
noncomputable def p_helper_call_put (a0 : T_helper_call) (a1 : T_Table) (a2 : Int) : Option (UInt32 × T_helper_call) :=
  po (
  cond (a2 == 0) (
  some (T_helper_call.mk a1)) (
  some a0)) (fun x => p_helper_call_put_J1 a2 x)
theorem c_helper_call_put (a0 : T_helper_call) (a1 : T_Table) (a2 : Int) {r : UInt32 × T_helper_call} (h : p_helper_call_put a0 a1 a2 = some r) : Ctr prog 81 [.ref 0 0, .agg (enc_Table a1), .raw (.int .i64 a2)] [(0, .box 95 (enc_helper_call a0))] (.raw (.int .u32 (r.1.toNat : Int))) [(0, .box 95 (enc_helper_call r.2))] := by
 unfold p_helper_call_put at h; refine Ctr.ofW tabOk func81 rfl call81 1 _ ntmps81 [.tmp 6] rfl rfl rfl (fun B => ?_); refine VC.seqF tabOkF [some 4, some 6] [0, 2, 4] rfl rfl (fun K hK => ?_); push_cast; (repeat refine .intro (by omega) ?_); refine hK _ ?_; clear hK K; obtain ⟨v1, h, hk1⟩ := po_some h; refine VC.seqJ (X := T_helper_call) (fun x => p_helper_call_put_J1 a2 x = some r) (fun x => ⟨[(2, .raw (.int .i64 a2))], [(0, .box 95 [.raw (.int .i64 x.t.S.Kind), .raw (.int .i64 x.t.S.Cap), .raw (.int .i64 x.t.S.Words), .raw (.int .i64 x.t.S.Ver), .sl false (x.t.E.map enc_Entry), .raw (.int .u32 (x.t.Next.toNat : Int))])], 10, 15, 1⟩) ?_ ?_
 ·refine VC.seqF tabOkF [some 7, some 8] [0, 2, 4, 8] rfl rfl (fun K hK => ?_); push_cast; (repeat refine .intro (by omega) ?_); refine hK _ ?_; clear hK K; refine VC.cond rfl rfl (fun hc2 => ?_) (fun hc2 => ?_)
  ·have hb2 : (a2 == 0) = true := by simpa using hc2
   replace h := cond_yes hb2 h; refine VC.lastF tabOkF [some 9, some 10, some 11, some 12, none] rfl rfl (fun K hK => ?_); push_cast [hb2]; (repeat refine .intro (by omega) ?_); refine hK _ ?_; clear hK K; have hv := Option.some.inj h; rw [← hv] at hk1; refine Exists.intro ((T_helper_call.mk a1)) (And.intro hk1 ?_); refine slo ?_ ?_ rfl rfl
   ·push_cast [hb2]
   ·push_cast [hb2]
  ·have hb2 : (a2 == 0) = false := by simpa using hc2
   replace h := cond_no hb2 h; refine VC.skip ?_; have hv := Option.some.inj h; rw [← hv] at hk1; refine Exists.intro (a0) (And.intro hk1 ?_); refine slo ?_ ?_ rfl rfl
   ·push_cast [hb2]
   ·push_cast [hb2]
 ·rintro s_1 h; replace h : p_helper_call_put_J1 a2 s_1 = some r := h; (try push_cast); unfold p_helper_call_put_J1 at h; refine VC.seqF tabOkF [some 13, some 14, some 6] [6] rfl rfl (fun K hK => ?_); push_cast; (repeat refine .intro (by omega) ?_); refine hK _ ?_; clear hK K; refine VC.ret ?_; have hr := Option.some.inj h; subst hr; refine endP (Sub.lo _) (Post.ret ?_ ?_ ?_)
  ·push_cast
  ·push_cast
  ·rfl
noncomputable def p_helper_call_push (a0 : T_helper_call) (a1 : (List UInt32)) : Option (UInt32 × T_helper_call) :=
  po (a1[1]?) fun x1 =>
  po (p_table_Push a0.t x1) fun r2 =>
  po (p_helper_call_put a0 r2.1 r2.2) fun r3 =>
  some (r3.1, r3.2)
theorem c_helper_call_push (a0 : T_helper_call) (a1 : (List UInt32)) {r : UInt32 × T_helper_call} (h : p_helper_call_push a0 a1 = some r) : Ctr prog 71 [.ref 0 0, .sl false (a1.map encU32)] [(0, .box 95 (enc_helper_call a0))] (.raw (.int .u32 (r.1.toNat : Int))) [(0, .box 95 (enc_helper_call r.2))] := by
 unfold p_helper_call_push at h; refine Ctr.ofW tabOk func71 rfl call71 1 _ ntmps71 [.tmp 4] rfl rfl rfl (fun B => ?_); refine VC.seqF tabOkF [some 4] [0, 1] rfl rfl (fun K hK => ?_); push_cast; (repeat refine .intro (by omega) ?_); refine hK _ ?_; clear hK K; obtain ⟨x1, hx1, h⟩ := po_some h; have hx11 := get_ltI hx1; have hx12 := get_lt hx1; obtain ⟨r2, hr2, h⟩ := po_some h; obtain ⟨r3, hr3, h⟩ := po_some h; refine VC.seqFD tabOkF hmixO [some 5, some 6, some 7, some 8, some 9, some 10, some 11, some 12, some 13, some 14, some 15, some 16, some 4] [4] rfl rfl rfl (fun K hK => ?_); refine runD_cut 8 (fun K2 hK2 => ?_); push_cast [hx1, hx11, hx12]; (repeat refine .intro (by omega) ?_); refine hK2 _ _ _ ?_; clear hK2 K2; simp only [List.drop_succ_cons, List.drop_zero]; push_cast [hx1, hx11, hx12]; (repeat refine .intro (by omega) ?_); refine callPD (Ctr.lo (c_table_Push a0.t x1 hr2)) rfl ?_; push_cast [hx1, hx11, hx12]; (repeat refine .intro (by omega) ?_); refine callHD (H := [(0, .box 95 [.raw (.int .i64 a0.t.S.Kind), .raw (.int .i64 a0.t.S.Cap), .raw (.int .i64 a0.t.S.Words), .raw (.int .i64 a0.t.S.Ver), .sl false (a0.t.E.map enc_Entry), .raw (.int .u32 (a0.t.Next.toNat : Int))])]) (Ctr.loH (Ctr.ren Bij.id (c_helper_call_put a0 r2.1 r2.2 hr3) (by push_cast [hx1, hx11, hx12]) (by push_cast [hx1, hx11, hx12]))) (by push_cast [hx1, hx11, hx12]) rfl rfl rfl ?_; push_cast [hx1, hx11, hx12]; (repeat refine .intro (by omega) ?_); refine ⟨rfl, hK _ ?_⟩; clear hK K; refine VC.sub (s' := ⟨[(4, .raw (.int .u32 (r3.1.toNat : Int)))], [(0, .box 95 [.raw (.int .i64 r3.2.t.S.Kind), .raw (.int .i64 r3.2.t.S.Cap), .raw (.int .i64 r3.2.t.S.Words), .raw (.int .i64 r3.2.t.S.Ver), .sl false (r3.2.t.E.map enc_Entry), .raw (.int .u32 (r3.2.t.Next.toNat : Int))])], 15, 17, 1⟩) (sof ?_ ?_ rfl rfl) ?_
 ·push_cast
 ·push_cast
 refine VC.ret ?_; have hr := Option.some.inj h; subst hr; refine endP (Sub.lo _) (Post.ret ?_ ?_ ?_)
 ·push_cast
 ·push_cast
 ·rfl
noncomputable def p_helper_call_set (a0 : T_helper_call) (a1 : (List UInt32)) : Option (UInt32 × T_helper_call) :=
  po (a1[1]?) fun x1 =>
  po (a1[2]?) fun x2 =>
  po (a1[3]?) fun x3 =>
  po (p_table_Set a0.t x1 x2 x3) fun r4 =>
  po (p_helper_call_put a0 r4.1 r4.2) fun r5 =>
  some (r5.1, r5.2)
theorem c_helper_call_set (a0 : T_helper_call) (a1 : (List UInt32)) {r : UInt32 × T_helper_call} (h : p_helper_call_set a0 a1 = some r) : Ctr prog 68 [.ref 0 0, .sl false (a1.map encU32)] [(0, .box 95 (enc_helper_call a0))] (.raw (.int .u32 (r.1.toNat : Int))) [(0, .box 95 (enc_helper_call r.2))] := by
 unfold p_helper_call_set at h; refine Ctr.ofW tabOk func68 rfl call68 1 _ ntmps68 [.tmp 4] rfl rfl rfl (fun B => ?_); refine VC.seqF tabOkF [some 4] [0, 1] rfl rfl (fun K hK => ?_); push_cast; (repeat refine .intro (by omega) ?_); refine hK _ ?_; clear hK K; obtain ⟨x1, hx1, h⟩ := po_some h; have hx11 := get_ltI hx1; have hx12 := get_lt hx1; obtain ⟨x2, hx2, h⟩ := po_some h; have hx21 := get_ltI hx2; have hx22 := get_lt hx2; obtain ⟨x3, hx3, h⟩ := po_some h; have hx31 := get_ltI hx3; have hx32 := get_lt hx3; obtain ⟨r4, hr4, h⟩ := po_some h; obtain ⟨r5, hr5, h⟩ := po_some h; refine VC.seqFD tabOkF hmixO [some 5, some 6, some 7, some 8, some 9, some 10, some 11, some 12, some 13, some 14, some 15, some 16, some 17, some 18, some 19, some 20, some 21, some 22, some 4] [4] rfl rfl rfl (fun K hK => ?_); refine runD_cut 8 (fun K2 hK2 => ?_); push_cast [hx1, hx11, hx12, hx2, hx21, hx22, hx3, hx31, hx32]; (repeat refine .intro (by omega) ?_); refine hK2 _ _ _ ?_; clear hK2 K2; simp only [List.drop_succ_cons, List.drop_zero]; refine runD_cut 8 (fun K2 hK2 => ?_); push_cast [hx1, hx11, hx12, hx2, hx21, hx22, hx3, hx31, hx32]; (repeat refine .intro (by omega) ?_); refine callPD (Ctr.lo (c_table_Set a0.t x1 x2 x3 hr4)) rfl ?_; push_cast [hx1, hx11, hx12, hx2, hx21, hx22, hx3, hx31, hx32]; (repeat refine .intro (by omega) ?_); refine hK2 _ _ _ ?_; clear hK2 K2; simp only [List.drop_succ_cons, List.drop_zero]; push_cast [hx1, hx11, hx12, hx2, hx21, hx22, hx3, hx31, hx32]; (repeat refine .intro (by omega) ?_); refine callHD (H := [(0, .box 95 [.raw (.int .i64 a0.t.S.Kind), .raw (.int .i64 a0.t.S.Cap), .raw (.int .i64 a0.t.S.Words), .raw (.int .i64 a0.t.S.Ver), .sl false (a0.t.E.map enc_Entry), .raw (.int .u32 (a0.t.Next.toNat : Int))])]) (Ctr.loH (Ctr.ren Bij.id (c_helper_call_put a0 r4.1 r4.2 hr5) (by push_cast [hx1, hx11, hx12, hx2, hx21, hx22, hx3, hx31, hx32]) (by push_cast [hx1, hx11, hx12, hx2, hx21, hx22, hx3, hx31, hx32]))) (by push_cast [hx1, hx11, hx12, hx2, hx21, hx22, hx3, hx31, hx32]) rfl rfl rfl ?_; push_cast [hx1, hx11, hx12, hx2, hx21, hx22, hx3, hx31, hx32]; (repeat refine .intro (by omega) ?_); refine ⟨rfl, hK _ ?_⟩; clear hK K; refine VC.sub (s' := ⟨[(4, .raw (.int .u32 (r5.1.toNat : Int)))], [(0, .box 95 [.raw (.int .i64 r5.2.t.S.Kind), .raw (.int .i64 r5.2.t.S.Cap), .raw (.int .i64 r5.2.t.S.Words), .raw (.int .i64 r5.2.t.S.Ver), .sl false (r5.2.t.E.map enc_Entry), .raw (.int .u32 (r5.2.t.Next.toNat : Int))])], 21, 23, 1⟩) (sof ?_ ?_ rfl rfl) ?_
 ·push_cast
 ·push_cast
 refine VC.ret ?_; have hr := Option.some.inj h; subst hr; refine endP (Sub.lo _) (Post.ret ?_ ?_ ?_)
 ·push_cast
 ·push_cast
 ·rfl
noncomputable def p_helper_Args_J1 (i_1 : Int) (i_2 : Bool) : Option (Int) :=
  cond i_2 (
  some i_1) (
  some (-1))
noncomputable def p_helper_Args (a0 : Int) : Option (Int) :=
  po (
  cond (a0 == 0) (
  some (3, true)) (
  cond (a0 == 1) (
  some (4, true)) (
  cond (a0 == 2) (
  some (2, true)) (
  cond (a0 == 3) (
  some (2, true)) (
  cond (a0 == 4) (
  some (0, true)) (
  cond (a0 == 5) (
  some (2, true)) (
  some (0, false)))))))) (fun x => p_helper_Args_J1 x.1 x.2)
theorem c_helper_Args (a0 : Int) {r : Int} (h : p_helper_Args a0 = some r) : Ctr prog 38 [.raw (.int .i64 a0)] [] (.raw (.int .i64 r)) [] := by
 unfold p_helper_Args at h; refine Ctr.ofW tabOk func38 rfl call38 0 _ ntmps38 [.tmp 2] rfl rfl rfl (fun B => ?_); refine VC.seqF tabOkF [some 2] [0] rfl rfl (fun K hK => ?_); push_cast; (repeat refine .intro (by omega) ?_); refine hK _ ?_; clear hK K; refine VC.seq ?_; obtain ⟨v1, h, hk1⟩ := po_some h; refine VC.seqJ (X := Int × Bool) (fun x => p_helper_Args_J1 x.1 x.2 = some r) (fun x => ⟨[(3, .raw (.int .i64 x.1)), (4, .raw (.bool x.2))], [], 16, 14, 0⟩) ?_ ?_
 ·rcases Bool.eq_false_or_eq_true (a0 == 0) with hb2 | hb2
  ·replace h := cond_yes hb2 h; refine VC.lastF tabOkF [some 6, none, none, none, none, none, none, some 7, some 8, some 9, some 5, some 10, some 11, some 3, some 4] rfl rfl (fun K hK => ?_); refine runOps_cut 8 (fun K2 hK2 => ?_); push_cast [hb2]; (repeat refine .intro (by omega) ?_); refine hK2 _ _ ?_; clear hK2 K2; simp only [List.drop_succ_cons, List.drop_zero]; push_cast [hb2]; (repeat refine .intro (by omega) ?_); refine hK _ ?_; clear hK K; have hv := Option.some.inj h; rw [← hv] at hk1; refine Exists.intro ((3, true)) (And.intro hk1 ?_); refine slo ?_ ?_ rfl rfl
   ·push_cast [hb2]
   ·push_cast [hb2]
  ·replace h := cond_no hb2 h; rcases Bool.eq_false_or_eq_true (a0 == 1) with hb3 | hb3
   ·replace h := cond_yes hb3 h; refine VC.lastF tabOkF [some 6, none, none, none, none, none, none, some 7, some 8, some 9, some 5, some 10, some 11, some 3, some 4] rfl rfl (fun K hK => ?_); refine runOps_cut 8 (fun K2 hK2 => ?_); push_cast [hb2, hb3]; (repeat refine .intro (by omega) ?_); refine hK2 _ _ ?_; clear hK2 K2; simp only [List.drop_succ_cons, List.drop_zero]; push_cast [hb2, hb3]; (repeat refine .intro (by omega) ?_); refine hK _ ?_; clear hK K; have hv := Option.some.inj h; rw [← hv] at hk1; refine Exists.intro ((4, true)) (And.intro hk1 ?_); refine slo ?_ ?_ rfl rfl
    ·push_cast [hb2, hb3]
    ·push_cast [hb2, hb3]
   ·replace h := cond_no hb3 h; rcases Bool.eq_false_or_eq_true (a0 == 2) with hb4 | hb4
    ·replace h := cond_yes hb4 h; refine VC.lastF tabOkF [some 6, none, none, none, none, none, none, some 7, some 8, some 9, some 5, some 10, some 11, some 3, some 4] rfl rfl (fun K hK => ?_); refine runOps_cut 8 (fun K2 hK2 => ?_); push_cast [hb2, hb3, hb4]; (repeat refine .intro (by omega) ?_); refine hK2 _ _ ?_; clear hK2 K2; simp only [List.drop_succ_cons, List.drop_zero]; push_cast [hb2, hb3, hb4]; (repeat refine .intro (by omega) ?_); refine hK _ ?_; clear hK K; have hv := Option.some.inj h; rw [← hv] at hk1; refine Exists.intro ((2, true)) (And.intro hk1 ?_); refine slo ?_ ?_ rfl rfl
     ·push_cast [hb2, hb3, hb4]
     ·push_cast [hb2, hb3, hb4]
    ·replace h := cond_no hb4 h; rcases Bool.eq_false_or_eq_true (a0 == 3) with hb5 | hb5
     ·replace h := cond_yes hb5 h; refine VC.lastF tabOkF [some 6, none, none, none, none, none, none, some 7, some 8, some 9, some 5, some 10, some 11, some 3, some 4] rfl rfl (fun K hK => ?_); refine runOps_cut 8 (fun K2 hK2 => ?_); push_cast [hb2, hb3, hb4, hb5]; (repeat refine .intro (by omega) ?_); refine hK2 _ _ ?_; clear hK2 K2; simp only [List.drop_succ_cons, List.drop_zero]; push_cast [hb2, hb3, hb4, hb5]; (repeat refine .intro (by omega) ?_); refine hK _ ?_; clear hK K; have hv := Option.some.inj h; rw [← hv] at hk1; refine Exists.intro ((2, true)) (And.intro hk1 ?_); refine slo ?_ ?_ rfl rfl
      ·push_cast [hb2, hb3, hb4, hb5]
      ·push_cast [hb2, hb3, hb4, hb5]
     ·replace h := cond_no hb5 h; rcases Bool.eq_false_or_eq_true (a0 == 4) with hb6 | hb6
      ·replace h := cond_yes hb6 h; refine VC.lastF tabOkF [some 6, none, none, none, none, none, none, some 7, some 8, some 9, some 5, some 10, some 11, some 3, some 4] rfl rfl (fun K hK => ?_); refine runOps_cut 8 (fun K2 hK2 => ?_); push_cast [hb2, hb3, hb4, hb5, hb6]; (repeat refine .intro (by omega) ?_); refine hK2 _ _ ?_; clear hK2 K2; simp only [List.drop_succ_cons, List.drop_zero]; push_cast [hb2, hb3, hb4, hb5, hb6]; (repeat refine .intro (by omega) ?_); refine hK _ ?_; clear hK K; have hv := Option.some.inj h; rw [← hv] at hk1; refine Exists.intro ((0, true)) (And.intro hk1 ?_); refine slo ?_ ?_ rfl rfl
       ·push_cast [hb2, hb3, hb4, hb5, hb6]
       ·push_cast [hb2, hb3, hb4, hb5, hb6]
      ·replace h := cond_no hb6 h; rcases Bool.eq_false_or_eq_true (a0 == 5) with hb7 | hb7
       ·replace h := cond_yes hb7 h; refine VC.lastF tabOkF [some 6, none, none, none, none, none, none, some 7, some 8, some 9, some 5, some 10, some 11, some 3, some 4] rfl rfl (fun K hK => ?_); refine runOps_cut 8 (fun K2 hK2 => ?_); push_cast [hb2, hb3, hb4, hb5, hb6, hb7]; (repeat refine .intro (by omega) ?_); refine hK2 _ _ ?_; clear hK2 K2; simp only [List.drop_succ_cons, List.drop_zero]; push_cast [hb2, hb3, hb4, hb5, hb6, hb7]; (repeat refine .intro (by omega) ?_); refine hK _ ?_; clear hK K; have hv := Option.some.inj h; rw [← hv] at hk1; refine Exists.intro ((2, true)) (And.intro hk1 ?_); refine slo ?_ ?_ rfl rfl
        ·push_cast [hb2, hb3, hb4, hb5, hb6, hb7]
        ·push_cast [hb2, hb3, hb4, hb5, hb6, hb7]
       ·replace h := cond_no hb7 h; refine VC.lastF tabOkF [some 6, none, none, none, none, none, none, some 7, some 8, some 9, some 5, some 10, some 11, some 3, some 4] rfl rfl (fun K hK => ?_); refine runOps_cut 8 (fun K2 hK2 => ?_); push_cast [hb2, hb3, hb4, hb5, hb6, hb7]; (repeat refine .intro (by omega) ?_); refine hK2 _ _ ?_; clear hK2 K2; simp only [List.drop_succ_cons, List.drop_zero]; push_cast [hb2, hb3, hb4, hb5, hb6, hb7]; (repeat refine .intro (by omega) ?_); refine hK _ ?_; clear hK K; have hv := Option.some.inj h; rw [← hv] at hk1; refine Exists.intro ((0, false)) (And.intro hk1 ?_); refine slo ?_ ?_ rfl rfl
        ·push_cast [hb2, hb3, hb4, hb5, hb6, hb7]
        ·push_cast [hb2, hb3, hb4, hb5, hb6, hb7]
 ·rintro ⟨i_1, i_2⟩ h; replace h : p_helper_Args_J1 i_1 i_2 = some r := h; (try push_cast); unfold p_helper_Args_J1 at h; refine VC.seqF tabOkF [some 12] [3, 12] rfl rfl (fun K hK => ?_); push_cast; (repeat refine .intro (by omega) ?_); refine hK _ ?_; clear hK K; refine VC.cond rfl rfl (fun hc8 => ?_) (fun hc8 => ?_)
  ·have hb8 : i_2 = true := by simpa using hc8
   replace h := cond_yes hb8 h; refine VC.seqF tabOkF [some 13, some 2] [2] rfl rfl (fun K hK => ?_); push_cast [hb8]; (repeat refine .intro (by omega) ?_); refine hK _ ?_; clear hK K; refine VC.ret ?_; have hr := Option.some.inj h; subst hr; refine endP (Sub.lo _) (Post.ret ?_ ?_ ?_)
   ·push_cast [hb8]
   ·push_cast [hb8]
   ·rfl
  ·have hb8 : i_2 = false := by simpa using hc8
   replace h := cond_no hb8 h; refine VC.skip ?_; refine VC.seqF tabOkF [some 2] [2] rfl rfl (fun K hK => ?_); push_cast [hb8]; (repeat refine .intro (by omega) ?_); refine hK _ ?_; clear hK K; refine VC.ret ?_; have hr := Option.some.inj h; subst hr; refine endP (Sub.lo _) (Post.ret ?_ ?_ ?_)
   ·push_cast [hb8]
   ·push_cast [hb8]
   ·rfl
noncomputable def p_helper_Draw (a0 : UInt32) : Option (UInt32) :=
  pl ((1664525 : UInt32)) fun c1 =>
  pl ((1013904223 : UInt32)) fun c2 =>
  some ((c1 * a0) + c2)
theorem c_helper_Draw (a0 : UInt32) {r : UInt32} (h : p_helper_Draw a0 = some r) : Ctr prog 42 [.raw (.int .u32 (a0.toNat : Int))] [] (.raw (.int .u32 (r.toNat : Int))) [] := by
 unfold p_helper_Draw at h; refine Ctr.ofW tabOk func42 rfl call42 0 _ ntmps42 [.tmp 2] rfl rfl rfl (fun B => ?_); refine VC.seqF tabOkF [some 2] [0] rfl rfl (fun K hK => ?_); push_cast; (repeat refine .intro (by omega) ?_); refine hK _ ?_; clear hK K; obtain ⟨c1, hc1, h⟩ := pl_some h; have hc1i : (c1.toNat : Int) = 1664525 := by rw [hc1]; rfl
 obtain ⟨c2, hc2, h⟩ := pl_some h; have hc2i : (c2.toNat : Int) = 1013904223 := by rw [hc2]; rfl
 refine VC.seqF tabOkF [some 3, some 4, some 5, some 2] [2] rfl rfl (fun K hK => ?_); push_cast [hc1i, hc2i]; (repeat refine .intro (by omega) ?_); refine hK _ ?_; clear hK K; refine VC.ret ?_; have hr := Option.some.inj h; subst hr; refine endP (Sub.lo _) (Post.ret ?_ ?_ ?_)
 ·push_cast [hc1i, hc2i]
 ·push_cast [hc1i, hc2i]
 ·rfl
noncomputable def p_schema_in_J1 (i_1 : Bool) : Option (Bool) :=
  some i_1
noncomputable def p_schema_in (a0 : Int) (a1 : Int) (a2 : Int) : Option (Bool) :=
  po (
  cond (decide (a0 ≥ a1)) (
  some (decide (a0 ≤ a2))) (
  some false)) (fun x => p_schema_in_J1 x)
theorem c_schema_in (a0 : Int) (a1 : Int) (a2 : Int) {r : Bool} (h : p_schema_in a0 a1 a2 = some r) : Ctr prog 80 [.raw (.int .i64 a0), .raw (.int .i64 a1), .raw (.int .i64 a2)] [] (.raw (.bool r)) [] := by
 unfold p_schema_in at h; refine Ctr.ofW tabOk func80 rfl call80 0 _ ntmps80 [.tmp 6] rfl rfl rfl (fun B => ?_); refine VC.seqF tabOkF [some 6] [0, 1, 2] rfl rfl (fun K hK => ?_); push_cast; (repeat refine .intro (by omega) ?_); refine hK _ ?_; clear hK K; obtain ⟨v1, h, hk1⟩ := po_some h; refine VC.seqJ (X := Bool) (fun x => p_schema_in_J1 x = some r) (fun x => ⟨[(6, .raw (.bool x))], [], 10, 15, 0⟩) ?_ ?_
 ·rcases Bool.eq_false_or_eq_true (decide (a0 ≥ a1)) with hb2 | hb2
  ·replace h := cond_yes hb2 h; refine VC.lastF tabOkF [some 7, some 8, some 9, some 10, some 11, some 12, some 13, some 14, some 6] rfl rfl (fun K hK => ?_); push_cast [hb2]; (repeat refine .intro (by omega) ?_); refine hK _ ?_; clear hK K; have hv := Option.some.inj h; rw [← hv] at hk1; refine Exists.intro ((decide (a0 ≤ a2))) (And.intro hk1 ?_); refine slo ?_ ?_ rfl rfl
   ·push_cast [hb2]
   ·push_cast [hb2]
  ·replace h := cond_no hb2 h; refine VC.lastF tabOkF [some 7, some 8, some 9, some 10, some 11, some 12, some 13, some 14, some 6] rfl rfl (fun K hK => ?_); push_cast [hb2]; (repeat refine .intro (by omega) ?_); refine hK _ ?_; clear hK K; have hv := Option.some.inj h; rw [← hv] at hk1; refine Exists.intro (false) (And.intro hk1 ?_); refine slo ?_ ?_ rfl rfl
   ·push_cast [hb2]
   ·push_cast [hb2]
 ·rintro i_1 h; replace h : p_schema_in_J1 i_1 = some r := h; (try push_cast); unfold p_schema_in_J1 at h; refine VC.ret ?_; have hr := Option.some.inj h; subst hr; refine endP (Sub.lo _) (Post.ret ?_ ?_ ?_)
  ·push_cast
  ·push_cast
  ·rfl
noncomputable def p_schema_May_J3 (i_2 : Bool) : Option (Bool) :=
  some i_2
noncomputable def p_schema_May_J1 (a0 : T_Schema) (i_1 : Int) : Option (Bool) :=
  po (
  po (p_schema_in a0.Kind 0 3) fun r4 =>
  cond r4 (
  po (p_schema_in a0.Cap 1 16) fun r6 =>
  cond r6 (
  po (p_schema_in a0.Words 1 i_1) fun r8 =>
  cond r8 (
  po (p_schema_in a0.Ver 0 1000) fun r10 =>
  some r10) (
  some false)) (
  some false)) (
  some false)) (fun x => p_schema_May_J3 x)
noncomputable def p_schema_May (a0 : T_Schema) : Option (Bool) :=
  po (
  cond (a0.Kind == 3) (
  some 1) (
  some 4)) (fun x => p_schema_May_J1 a0 x)
theorem c_schema_May (a0 : T_Schema) {r : Bool} (h : p_schema_May a0 = some r) : Ctr prog 50 [.agg (enc_Schema a0)] [] (.raw (.bool r)) [] := by
 unfold p_schema_May at h; refine Ctr.ofW tabOk func50 rfl call50 0 _ ntmps50 [.tmp 2] rfl rfl rfl (fun B => ?_); refine VC.seqF tabOkF [some 1, some 2] [1] rfl rfl (fun K hK => ?_); push_cast; (repeat refine .intro (by omega) ?_); refine hK _ ?_; clear hK K; refine VC.seqF tabOkF [some 3] [1, 3] rfl rfl (fun K hK => ?_); push_cast; (repeat refine .intro (by omega) ?_); refine hK _ ?_; clear hK K; obtain ⟨v1, h, hk1⟩ := po_some h; refine VC.seqJ (X := Int) (fun x => p_schema_May_J1 a0 x = some r) (fun x => ⟨[(1, .ref 0 0), (3, .raw (.int .i64 x))], [(0, .box 23 [.raw (.int .i64 a0.Kind), .raw (.int .i64 a0.Cap), .raw (.int .i64 a0.Words), .raw (.int .i64 a0.Ver)])], 7, 26, 0⟩) ?_ ?_
 ·refine VC.seqF tabOkF [some 4, some 5, some 6] [1, 3, 6] rfl rfl (fun K hK => ?_); push_cast; (repeat refine .intro (by omega) ?_); refine hK _ ?_; clear hK K; refine VC.cond rfl rfl (fun hc2 => ?_) (fun hc2 => ?_)
  ·have hb2 : (a0.Kind == 3) = true := by simpa using hc2
   replace h := cond_yes hb2 h; refine VC.lastF tabOkF [some 3] rfl rfl (fun K hK => ?_); push_cast [hb2]; (repeat refine .intro (by omega) ?_); refine hK _ ?_; clear hK K; have hv := Option.some.inj h; rw [← hv] at hk1; refine Exists.intro (1) (And.intro hk1 ?_); refine slo ?_ ?_ rfl rfl
   ·push_cast [hb2]
   ·push_cast [hb2]
  ·have hb2 : (a0.Kind == 3) = false := by simpa using hc2
   replace h := cond_no hb2 h; refine VC.skip ?_; have hv := Option.some.inj h; rw [← hv] at hk1; refine Exists.intro (4) (And.intro hk1 ?_); refine slo ?_ ?_ rfl rfl
   ·push_cast [hb2]
   ·push_cast [hb2]
 ·rintro i_1 h; replace h : p_schema_May_J1 a0 i_1 = some r := h; (try push_cast); unfold p_schema_May_J1 at h; obtain ⟨v3, h, hk3⟩ := po_some h; refine VC.seqJ (X := Bool) (fun x => p_schema_May_J3 x = some r) (fun x => ⟨[(2, .raw (.bool x))], [], 27, 26, 0⟩) ?_ ?_
  ·obtain ⟨r4, hr4, h⟩ := po_some h; rcases Bool.eq_false_or_eq_true r4 with hb5 | hb5
   ·replace h := cond_yes hb5 h; obtain ⟨r6, hr6, h⟩ := po_some h; rcases Bool.eq_false_or_eq_true r6 with hb7 | hb7
    ·replace h := cond_yes hb7 h; obtain ⟨r8, hr8, h⟩ := po_some h; rcases Bool.eq_false_or_eq_true r8 with hb9 | hb9
     ·replace h := cond_yes hb9 h; obtain ⟨r10, hr10, h⟩ := po_some h; refine VC.lastF tabOkF [some 7, some 8, some 9, some 10, some 11, some 12, some 13, some 14, some 15, some 16, some 17, some 18, some 19, some 20, some 21, some 22, some 23, some 24, some 25, some 2] rfl rfl (fun K hK => ?_); refine runOps_cut 8 (fun K2 hK2 => ?_); push_cast [hb5, hb7, hb9]; (repeat refine .intro (by omega) ?_); refine callP (Ctr.lo (c_schema_in a0.Kind 0 3 hr4)) rfl ?_; push_cast [hb5, hb7, hb9]; (repeat refine .intro (by omega) ?_); refine callP (Ctr.lo (c_schema_in a0.Cap 1 16 hr6)) rfl ?_; push_cast [hb5, hb7, hb9]; (repeat refine .intro (by omega) ?_); refine hK2 _ _ ?_; clear hK2 K2; simp only [List.drop_succ_cons, List.drop_zero]; refine runOps_cut 8 (fun K2 hK2 => ?_); push_cast [hb5, hb7, hb9]; (repeat refine .intro (by omega) ?_); refine callP (Ctr.lo (c_schema_in a0.Words 1 i_1 hr8)) rfl ?_; push_cast [hb5, hb7, hb9]; (repeat refine .intro (by omega) ?_); refine hK2 _ _ ?_; clear hK2 K2; simp only [List.drop_succ_cons, List.drop_zero]; push_cast [hb5, hb7, hb9]; (repeat refine .intro (by omega) ?_); refine callP (Ctr.lo (c_schema_in a0.Ver 0 1000 hr10)) rfl ?_; push_cast [hb5, hb7, hb9]; (repeat refine .intro (by omega) ?_); refine hK _ ?_; clear hK K; have hv := Option.some.inj h; rw [← hv] at hk3; refine Exists.intro (r10) (And.intro hk3 ?_); refine slo ?_ ?_ rfl rfl
      ·push_cast [hb5, hb7, hb9]
      ·push_cast [hb5, hb7, hb9]
     ·replace h := cond_no hb9 h; refine VC.lastF tabOkF [some 7, some 8, some 9, some 10, some 11, some 12, some 13, some 14, some 15, some 16, some 17, some 18, some 19, some 20, some 21, some 22, some 23, some 24, some 25, some 2] rfl rfl (fun K hK => ?_); refine runOps_cut 8 (fun K2 hK2 => ?_); push_cast [hb5, hb7, hb9]; (repeat refine .intro (by omega) ?_); refine callP (Ctr.lo (c_schema_in a0.Kind 0 3 hr4)) rfl ?_; push_cast [hb5, hb7, hb9]; (repeat refine .intro (by omega) ?_); refine callP (Ctr.lo (c_schema_in a0.Cap 1 16 hr6)) rfl ?_; push_cast [hb5, hb7, hb9]; (repeat refine .intro (by omega) ?_); refine hK2 _ _ ?_; clear hK2 K2; simp only [List.drop_succ_cons, List.drop_zero]; refine runOps_cut 8 (fun K2 hK2 => ?_); push_cast [hb5, hb7, hb9]; (repeat refine .intro (by omega) ?_); refine callP (Ctr.lo (c_schema_in a0.Words 1 i_1 hr8)) rfl ?_; push_cast [hb5, hb7, hb9]; (repeat refine .intro (by omega) ?_); refine hK2 _ _ ?_; clear hK2 K2; simp only [List.drop_succ_cons, List.drop_zero]; push_cast [hb5, hb7, hb9]; (repeat refine .intro (by omega) ?_); refine hK _ ?_; clear hK K; have hv := Option.some.inj h; rw [← hv] at hk3; refine Exists.intro (false) (And.intro hk3 ?_); refine slo ?_ ?_ rfl rfl
      ·push_cast [hb5, hb7, hb9]
      ·push_cast [hb5, hb7, hb9]
    ·replace h := cond_no hb7 h; refine VC.lastF tabOkF [some 7, some 8, some 9, some 10, some 11, some 12, some 13, some 14, some 15, some 16, some 17, some 18, some 19, some 20, some 21, some 22, some 23, some 24, some 25, some 2] rfl rfl (fun K hK => ?_); refine runOps_cut 8 (fun K2 hK2 => ?_); push_cast [hb5, hb7]; (repeat refine .intro (by omega) ?_); refine callP (Ctr.lo (c_schema_in a0.Kind 0 3 hr4)) rfl ?_; push_cast [hb5, hb7]; (repeat refine .intro (by omega) ?_); refine callP (Ctr.lo (c_schema_in a0.Cap 1 16 hr6)) rfl ?_; push_cast [hb5, hb7]; (repeat refine .intro (by omega) ?_); refine hK2 _ _ ?_; clear hK2 K2; simp only [List.drop_succ_cons, List.drop_zero]; refine runOps_cut 8 (fun K2 hK2 => ?_); push_cast [hb5, hb7]; (repeat refine .intro (by omega) ?_); refine hK2 _ _ ?_; clear hK2 K2; simp only [List.drop_succ_cons, List.drop_zero]; push_cast [hb5, hb7]; (repeat refine .intro (by omega) ?_); refine hK _ ?_; clear hK K; have hv := Option.some.inj h; rw [← hv] at hk3; refine Exists.intro (false) (And.intro hk3 ?_); refine slo ?_ ?_ rfl rfl
     ·push_cast [hb5, hb7]
     ·push_cast [hb5, hb7]
   ·replace h := cond_no hb5 h; refine VC.lastF tabOkF [some 7, some 8, some 9, some 10, some 11, some 12, some 13, some 14, some 15, some 16, some 17, some 18, some 19, some 20, some 21, some 22, some 23, some 24, some 25, some 2] rfl rfl (fun K hK => ?_); refine runOps_cut 8 (fun K2 hK2 => ?_); push_cast [hb5]; (repeat refine .intro (by omega) ?_); refine callP (Ctr.lo (c_schema_in a0.Kind 0 3 hr4)) rfl ?_; push_cast [hb5]; (repeat refine .intro (by omega) ?_); refine hK2 _ _ ?_; clear hK2 K2; simp only [List.drop_succ_cons, List.drop_zero]; refine runOps_cut 8 (fun K2 hK2 => ?_); push_cast [hb5]; (repeat refine .intro (by omega) ?_); refine hK2 _ _ ?_; clear hK2 K2; simp only [List.drop_succ_cons, List.drop_zero]; push_cast [hb5]; (repeat refine .intro (by omega) ?_); refine hK _ ?_; clear hK K; have hv := Option.some.inj h; rw [← hv] at hk3; refine Exists.intro (false) (And.intro hk3 ?_); refine slo ?_ ?_ rfl rfl
    ·push_cast [hb5]
    ·push_cast [hb5]
  ·rintro i_2 h; replace h : p_schema_May_J3 i_2 = some r := h; (try push_cast); unfold p_schema_May_J3 at h; refine VC.ret ?_; have hr := Option.some.inj h; subst hr; refine endP (Sub.lo _) (Post.ret ?_ ?_ ?_)
   ·push_cast
   ·push_cast
   ·rfl
noncomputable def p_helper_Fits_J2 (i_1 : Bool) : Option (Bool) :=
  some i_1
noncomputable def p_helper_Fits_J10 (i_3 : Bool) : Option (Bool) :=
  some i_3
noncomputable def p_helper_Fits_J5 (a1 : T_Schema) (i_2 : Bool) : Option (Bool) :=
  cond i_2 (
  po (
  po (p_schema_May a1) fun r11 =>
  cond r11 (
  some (a1.Kind != 3)) (
  some false)) (fun x => p_helper_Fits_J10 x)) (
  some false)
noncomputable def p_helper_Fits (a0 : Int) (a1 : T_Schema) : Option (Bool) :=
  cond (a0 == 5) (
  po (
  po (p_schema_May a1) fun r3 =>
  cond r3 (
  some (a1.Kind == 3)) (
  some false)) (fun x => p_helper_Fits_J2 x)) (
  po (
  cond (a0 == 0) (
  some (a0 == 0)) (
  cond (a0 == 1) (
  some (a0 == 1)) (
  cond (a0 == 2) (
  some (a0 == 2)) (
  some (a0 == 3))))) (fun x => p_helper_Fits_J5 a1 x))
theorem c_helper_Fits (a0 : Int) (a1 : T_Schema) {r : Bool} (h : p_helper_Fits a0 a1 = some r) : Ctr prog 40 [.raw (.int .i64 a0), .agg (enc_Schema a1)] [] (.raw (.bool r)) [] := by
 unfold p_helper_Fits at h; refine Ctr.ofW tabOk func40 rfl call40 0 _ ntmps40 [.tmp 4] rfl rfl rfl (fun B => ?_); refine VC.seqF tabOkF [some 3, some 4] [0, 3] rfl rfl (fun K hK => ?_); push_cast; (repeat refine .intro (by omega) ?_); refine hK _ ?_; clear hK K; refine VC.seq ?_; refine VC.seqF tabOkF [some 5] [3, 5] rfl rfl (fun K hK => ?_); push_cast; (repeat refine .intro (by omega) ?_); refine hK _ ?_; clear hK K; refine VC.block ?_; refine VC.seqF tabOkF [some 7, some 6] [3, 5, 6] rfl rfl (fun K hK => ?_); push_cast; (repeat refine .intro (by omega) ?_); refine hK _ ?_; clear hK K; refine VC.cond rfl rfl (fun hc1 => ?_) (fun hc1 => ?_)
 ·have hb1 : (a0 == 5) = true := by simpa using hc1
  replace h := cond_yes hb1 h; obtain ⟨v2, h, hk2⟩ := po_some h; refine VC.seqJ (X := Bool) (fun x => p_helper_Fits_J2 x = some r) (fun x => ⟨[(4, .raw (.bool x))], [], 13, 27, 0⟩) ?_ ?_
  ·obtain ⟨r3, hr3, h⟩ := po_some h; rcases Bool.eq_false_or_eq_true r3 with hb4 | hb4
   ·replace h := cond_yes hb4 h; refine VC.lastF tabOkF [some 8, some 9, some 10, some 11, some 12, some 13, some 14, some 4] rfl rfl (fun K hK => ?_); push_cast [hb1, hb4]; (repeat refine .intro (by omega) ?_); refine callP (Ctr.lo (c_schema_May a1 hr3)) rfl ?_; push_cast [hb1, hb4]; (repeat refine .intro (by omega) ?_); refine hK _ ?_; clear hK K; have hv := Option.some.inj h; rw [← hv] at hk2; refine Exists.intro ((a1.Kind == 3)) (And.intro hk2 ?_); refine slo ?_ ?_ rfl rfl
    ·push_cast [hb1, hb4]
    ·push_cast [hb1, hb4]
   ·replace h := cond_no hb4 h; refine VC.lastF tabOkF [some 8, some 9, some 10, some 11, some 12, some 13, some 14, some 4] rfl rfl (fun K hK => ?_); push_cast [hb1, hb4]; (repeat refine .intro (by omega) ?_); refine callP (Ctr.lo (c_schema_May a1 hr3)) rfl ?_; push_cast [hb1, hb4]; (repeat refine .intro (by omega) ?_); refine hK _ ?_; clear hK K; have hv := Option.some.inj h; rw [← hv] at hk2; refine Exists.intro (false) (And.intro hk2 ?_); refine slo ?_ ?_ rfl rfl
    ·push_cast [hb1, hb4]
    ·push_cast [hb1, hb4]
  ·rintro i_1 h; replace h : p_helper_Fits_J2 i_1 = some r := h; (try push_cast); unfold p_helper_Fits_J2 at h; refine VC.ret ?_; have hr := Option.some.inj h; subst hr; refine endP (Sub.lo _) (Post.ret ?_ ?_ ?_)
   ·push_cast [hb1]
   ·push_cast [hb1]
   ·rfl
 ·have hb1 : (a0 == 5) = false := by simpa using hc1
  replace h := cond_no hb1 h; obtain ⟨v5, h, hk5⟩ := po_some h; refine VC.seqJ (X := Bool) (fun x => p_helper_Fits_J5 a1 x = some r) (fun x => ⟨[(3, .ref 0 0), (15, .raw (.bool x))], [(0, .box 23 [.raw (.int .i64 a1.Kind), .raw (.int .i64 a1.Cap), .raw (.int .i64 a1.Words), .raw (.int .i64 a1.Ver)])], 13, 27, 0⟩) ?_ ?_
  ·refine VC.seqF tabOkF [some 16, some 15] [3, 5, 15] rfl rfl (fun K hK => ?_); push_cast [hb1]; (repeat refine .intro (by omega) ?_); refine hK _ ?_; clear hK K; refine VC.cond rfl rfl (fun hc6 => ?_) (fun hc6 => ?_)
   ·have hb6 : (a0 == 0) = true := by simpa using hc6
    replace h := cond_yes hb6 h; refine VC.skip ?_; have hv := Option.some.inj h; rw [← hv] at hk5; refine Exists.intro ((a0 == 0)) (And.intro hk5 ?_); refine slo ?_ ?_ rfl rfl
    ·push_cast [hb1, hb6]
    ·push_cast [hb1, hb6]
   ·have hb6 : (a0 == 0) = false := by simpa using hc6
    replace h := cond_no hb6 h; refine VC.seqF tabOkF [some 17, some 15] [3, 5, 15] rfl rfl (fun K hK => ?_); push_cast [hb1, hb6]; (repeat refine .intro (by omega) ?_); refine hK _ ?_; clear hK K; refine VC.cond rfl rfl (fun hc7 => ?_) (fun hc7 => ?_)
    ·have hb7 : (a0 == 1) = true := by simpa using hc7
     replace h := cond_yes hb7 h; refine VC.skip ?_; have hv := Option.some.inj h; rw [← hv] at hk5; refine Exists.intro ((a0 == 1)) (And.intro hk5 ?_); refine slo ?_ ?_ rfl rfl
     ·push_cast [hb1, hb6, hb7]
     ·push_cast [hb1, hb6, hb7]
    ·have hb7 : (a0 == 1) = false := by simpa using hc7
     replace h := cond_no hb7 h; refine VC.seqF tabOkF [some 18, some 15] [3, 5, 15] rfl rfl (fun K hK => ?_); push_cast [hb1, hb6, hb7]; (repeat refine .intro (by omega) ?_); refine hK _ ?_; clear hK K; refine VC.cond rfl rfl (fun hc8 => ?_) (fun hc8 => ?_)
     ·have hb8 : (a0 == 2) = true := by simpa using hc8
      replace h := cond_yes hb8 h; refine VC.skip ?_; have hv := Option.some.inj h; rw [← hv] at hk5; refine Exists.intro ((a0 == 2)) (And.intro hk5 ?_); refine slo ?_ ?_ rfl rfl
      ·push_cast [hb1, hb6, hb7, hb8]
      ·push_cast [hb1, hb6, hb7, hb8]
     ·have hb8 : (a0 == 2) = false := by simpa using hc8
      replace h := cond_no hb8 h; refine VC.lastF tabOkF [some 19, some 15] rfl rfl (fun K hK => ?_); push_cast [hb1, hb6, hb7, hb8]; (repeat refine .intro (by omega) ?_); refine hK _ ?_; clear hK K; have hv := Option.some.inj h; rw [← hv] at hk5; refine Exists.intro ((a0 == 3)) (And.intro hk5 ?_); refine slo ?_ ?_ rfl rfl
      ·push_cast [hb1, hb6, hb7, hb8]
      ·push_cast [hb1, hb6, hb7, hb8]
  ·rintro i_2 h; replace h : p_helper_Fits_J5 a1 i_2 = some r := h; (try push_cast); unfold p_helper_Fits_J5 at h; refine VC.cond rfl rfl (fun hc9 => ?_) (fun hc9 => ?_)
   ·have hb9 : i_2 = true := by simpa using hc9
    replace h := cond_yes hb9 h; obtain ⟨v10, h, hk10⟩ := po_some h; refine VC.seqJ (X := Bool) (fun x => p_helper_Fits_J10 x = some r) (fun x => ⟨[(4, .raw (.bool x))], [], 21, 27, 0⟩) ?_ ?_
    ·obtain ⟨r11, hr11, h⟩ := po_some h; rcases Bool.eq_false_or_eq_true r11 with hb12 | hb12
     ·replace h := cond_yes hb12 h; refine VC.lastF tabOkF [some 20, some 21, some 22, some 23, some 24, some 25, some 26, some 4] rfl rfl (fun K hK => ?_); push_cast [hb1, hb9, hb12]; (repeat refine .intro (by omega) ?_); refine callP (Ctr.lo (c_schema_May a1 hr11)) rfl ?_; push_cast [hb1, hb9, hb12]; (repeat refine .intro (by omega) ?_); refine hK _ ?_; clear hK K; have hv := Option.some.inj h; rw [← hv] at hk10; refine Exists.intro ((a1.Kind != 3)) (And.intro hk10 ?_); refine slo ?_ ?_ rfl rfl
      ·push_cast [hb1, hb9, hb12]
      ·push_cast [hb1, hb9, hb12]
     ·replace h := cond_no hb12 h; refine VC.lastF tabOkF [some 20, some 21, some 22, some 23, some 24, some 25, some 26, some 4] rfl rfl (fun K hK => ?_); push_cast [hb1, hb9, hb12]; (repeat refine .intro (by omega) ?_); refine callP (Ctr.lo (c_schema_May a1 hr11)) rfl ?_; push_cast [hb1, hb9, hb12]; (repeat refine .intro (by omega) ?_); refine hK _ ?_; clear hK K; have hv := Option.some.inj h; rw [← hv] at hk10; refine Exists.intro (false) (And.intro hk10 ?_); refine slo ?_ ?_ rfl rfl
      ·push_cast [hb1, hb9, hb12]
      ·push_cast [hb1, hb9, hb12]
    ·rintro i_3 h; replace h : p_helper_Fits_J10 i_3 = some r := h; (try push_cast); unfold p_helper_Fits_J10 at h; refine VC.ret ?_; have hr := Option.some.inj h; subst hr; refine endP (Sub.lo _) (Post.ret ?_ ?_ ?_)
     ·push_cast [hb1, hb9]
     ·push_cast [hb1, hb9]
     ·rfl
   ·have hb9 : i_2 = false := by simpa using hc9
    replace h := cond_no hb9 h; refine VC.skip ?_; refine VC.seqF tabOkF [some 4] [4] rfl rfl (fun K hK => ?_); push_cast [hb1, hb9]; (repeat refine .intro (by omega) ?_); refine hK _ ?_; clear hK K; refine VC.ret ?_; have hr := Option.some.inj h; subst hr; refine endP (Sub.lo _) (Post.ret ?_ ?_ ?_)
    ·push_cast [hb1, hb9]
    ·push_cast [hb1, hb9]
    ·rfl
def p_slices_Clone_api_Entry_api_Entry (a0 : List T_Entry) : Option (List T_Entry) := pg (a0.length * 32 ≤ 140737488355328) (some a0)
theorem p_slices_Clone_api_Entry_api_Entry_of {a0 : List T_Entry} (h : a0.length * 32 ≤ 140737488355328) : p_slices_Clone_api_Entry_api_Entry a0 = some a0 := pg_of h
theorem c_slices_Clone_api_Entry_api_Entry (a0 : List T_Entry) {r : List T_Entry} (h : p_slices_Clone_api_Entry_api_Entry a0 = some r) : Ctr prog 76 [.sl false (a0.map enc_Entry)] [] (.row 0 0 2 0 r.length) [(0, .row 41 2 0 (r.map enc_Entry))] := by
 unfold p_slices_Clone_api_Entry_api_Entry at h; obtain ⟨hg, h⟩ := pg_some h; have hr := Option.some.inj h; subst hr; refine Ctr.ofW tabOk func76 rfl call76 0 _ ntmps76 [.tmp 2] rfl rfl rfl (fun B => ?_); refine VC.seqF tabOkF [some 2] [0] rfl rfl (fun K hK => ?_); push_cast; refine hK _ ?_; clear hK K; refine VC.seq ?_; refine VC.seqF tabOkF [some 3, some 4] [0, 4] rfl rfl (fun K hK => ?_); push_cast; intro bn hbn; refine hK _ ?_; clear hK K; refine VC.cond rfl rfl (fun hc => ?_) (fun hc => ?_)
 ·have hn : a0 = [] := by
   have := hbn hc; cases a0 with
   | nil => rfl
   | cons _ _ => simp at this
  subst hn; refine VC.seqF tabOkF [some 2] [2] rfl rfl (fun K hK => ?_); push_cast; refine hK _ ?_; clear hK K; refine VC.ret ?_; refine endS (Sub.adoptT (k := 2) (e := 41) (sz := 2) rfl) ?_; refine endS (Sub.renT (k := 2) (i' := 0) rfl rfl (Nat.le_of_ble_eq_true rfl) (Nat.le_of_ble_eq_true rfl) rfl) ?_; refine endP (Sub.lo _) (Post.ret ?_ ?_ ?_)
  ·push_cast
  ·push_cast
  ·rfl
 ·refine VC.skip ?_; refine VC.seqF tabOkF [some 5, some 6, some 7, some 2] [2] rfl rfl (fun K hK => ?_); push_cast [hg]; (repeat refine .intro (by omega) ?_); refine hK _ ?_; clear hK K; refine VC.ret ?_; refine endS (Sub.renT (k := 2) (i' := 0) rfl rfl (Nat.le_of_ble_eq_true rfl) (Nat.le_of_ble_eq_true rfl) rfl) ?_; refine endP (Sub.lo _) (Post.ret ?_ ?_ ?_)
  ·push_cast
  ·push_cast
  ·rfl
def p_slices_Clone_api_Table_api_Table (a0 : List T_Table) : Option (List T_Table) := pg (a0.length * 64 ≤ 140737488355328) (some a0)
theorem p_slices_Clone_api_Table_api_Table_of {a0 : List T_Table} (h : a0.length * 64 ≤ 140737488355328) : p_slices_Clone_api_Table_api_Table a0 = some a0 := pg_of h
theorem c_slices_Clone_api_Table_api_Table (a0 : List T_Table) {r : List T_Table} (h : p_slices_Clone_api_Table_api_Table a0 = some r) : Ctr prog 75 [.sl false (a0.map enc_Table)] [] (.row 0 0 6 0 r.length) [(0, .row 27 6 0 (r.map enc_Table))] := by
 unfold p_slices_Clone_api_Table_api_Table at h; obtain ⟨hg, h⟩ := pg_some h; have hr := Option.some.inj h; subst hr; refine Ctr.ofW tabOk func75 rfl call75 0 _ ntmps75 [.tmp 2] rfl rfl rfl (fun B => ?_); refine VC.seqF tabOkF [some 2] [0] rfl rfl (fun K hK => ?_); push_cast; refine hK _ ?_; clear hK K; refine VC.seq ?_; refine VC.seqF tabOkF [some 3, some 4] [0, 4] rfl rfl (fun K hK => ?_); push_cast; intro bn hbn; refine hK _ ?_; clear hK K; refine VC.cond rfl rfl (fun hc => ?_) (fun hc => ?_)
 ·have hn : a0 = [] := by
   have := hbn hc; cases a0 with
   | nil => rfl
   | cons _ _ => simp at this
  subst hn; refine VC.seqF tabOkF [some 2] [2] rfl rfl (fun K hK => ?_); push_cast; refine hK _ ?_; clear hK K; refine VC.ret ?_; refine endS (Sub.adoptT (k := 2) (e := 27) (sz := 6) rfl) ?_; refine endS (Sub.renT (k := 2) (i' := 0) rfl rfl (Nat.le_of_ble_eq_true rfl) (Nat.le_of_ble_eq_true rfl) rfl) ?_; refine endP (Sub.lo _) (Post.ret ?_ ?_ ?_)
  ·push_cast
  ·push_cast
  ·rfl
 ·refine VC.skip ?_; refine VC.seqF tabOkF [some 5, some 6, some 7, some 2] [2] rfl rfl (fun K hK => ?_); push_cast [hg]; (repeat refine .intro (by omega) ?_); refine hK _ ?_; clear hK K; refine VC.ret ?_; refine endS (Sub.renT (k := 2) (i' := 0) rfl rfl (Nat.le_of_ble_eq_true rfl) (Nat.le_of_ble_eq_true rfl) rfl) ?_; refine endP (Sub.lo _) (Post.ret ?_ ?_ ?_)
  ·push_cast
  ·push_cast
  ·rfl
def p_slices_Clone_uint32_uint32 (a0 : List UInt32) : Option (List UInt32) := pg (a0.length * 4 ≤ 140737488355328) (some a0)
theorem p_slices_Clone_uint32_uint32_of {a0 : List UInt32} (h : a0.length * 4 ≤ 140737488355328) : p_slices_Clone_uint32_uint32 a0 = some a0 := pg_of h
theorem c_slices_Clone_uint32_uint32 (a0 : List UInt32) {r : List UInt32} (h : p_slices_Clone_uint32_uint32 a0 = some r) : Ctr prog 77 [.sl false (a0.map encU32)] [] (.row 0 0 1 0 r.length) [(0, .row 25 1 0 (r.map encU32))] := by
 unfold p_slices_Clone_uint32_uint32 at h; obtain ⟨hg, h⟩ := pg_some h; have hr := Option.some.inj h; subst hr; refine Ctr.ofW tabOk func77 rfl call77 0 _ ntmps77 [.tmp 2] rfl rfl rfl (fun B => ?_); refine VC.seqF tabOkF [some 2] [0] rfl rfl (fun K hK => ?_); push_cast; refine hK _ ?_; clear hK K; refine VC.seq ?_; refine VC.seqF tabOkF [some 3, some 4] [0, 4] rfl rfl (fun K hK => ?_); push_cast; intro bn hbn; refine hK _ ?_; clear hK K; refine VC.cond rfl rfl (fun hc => ?_) (fun hc => ?_)
 ·have hn : a0 = [] := by
   have := hbn hc; cases a0 with
   | nil => rfl
   | cons _ _ => simp at this
  subst hn; refine VC.seqF tabOkF [some 2] [2] rfl rfl (fun K hK => ?_); push_cast; refine hK _ ?_; clear hK K; refine VC.ret ?_; refine endS (Sub.adoptT (k := 2) (e := 25) (sz := 1) rfl) ?_; refine endS (Sub.renT (k := 2) (i' := 0) rfl rfl (Nat.le_of_ble_eq_true rfl) (Nat.le_of_ble_eq_true rfl) rfl) ?_; refine endP (Sub.lo _) (Post.ret ?_ ?_ ?_)
  ·push_cast
  ·push_cast
  ·rfl
 ·refine VC.skip ?_; refine VC.seqF tabOkF [some 5, some 6, some 7, some 2] [2] rfl rfl (fun K hK => ?_); push_cast [hg]; (repeat refine .intro (by omega) ?_); refine hK _ ?_; clear hK K; refine VC.ret ?_; refine endS (Sub.renT (k := 2) (i' := 0) rfl rfl (Nat.le_of_ble_eq_true rfl) (Nat.le_of_ble_eq_true rfl) rfl) ?_; refine endP (Sub.lo _) (Post.ret ?_ ?_ ?_)
  ·push_cast
  ·push_cast
  ·rfl
noncomputable def p_helper_own_L9 (r7 : (List T_Entry)) (s_48 : T_Env) (s_49 : T_Table) (i_50 : Int) : Option ((T_Env × T_Table × Int) ⊕ (T_Env × T_Table)) :=
  cond (decide (i_50 < (r7.length : Int))) (
  po (idx s_49.E i_50) fun x11 =>
  po (p_slices_Clone_uint32_uint32 x11.V) fun r12 =>
  pl (s_49.E.set i_50.toNat (T_Entry.mk x11.Key r12)) fun y13 =>
  some (Sum.inl (s_48, (T_Table.mk s_49.S y13 s_49.Next), (IntKind.i64.wrap (i_50 + 1))))) (
  some (Sum.inr (s_48, s_49)))
noncomputable def p_helper_own_J8 (i_19 : Int) (s_54 : T_Env) (s_55 : T_Table) : Option (T_Env) :=
  po (idx s_54.T i_19) fun x14 =>
  pl (s_54.T.set i_19.toNat s_55) fun y15 =>
  some (T_Env.mk s_54.Ctx y15 s_54.Seed)
noncomputable def p_helper_own_J5 (i_19 : Int) (s_28 : T_Env) : Option ((T_Env × Int) ⊕ (T_Env)) :=
  some (Sum.inl (s_28, (IntKind.i64.wrap (i_19 + 1))))
noncomputable def p_helper_own_L3 (r1 : (List T_Table)) (s_18 : T_Env) (i_19 : Int) : Option ((T_Env × Int) ⊕ (T_Env)) :=
  cond (decide (i_19 < (r1.length : Int))) (
  po (
  po (idx s_18.T i_19) fun x6 =>
  po (p_slices_Clone_api_Entry_api_Entry x6.E) fun r7 =>
  po (
  lpU (fun x => p_helper_own_L9 r7 x.1 x.2.1 x.2.2) (s_18, (T_Table.mk x6.S r7 x6.Next), 0)) (fun x => p_helper_own_J8 i_19 x.1 x.2)) (fun x => p_helper_own_J5 i_19 x)) (
  some (Sum.inr s_18))
noncomputable def p_helper_own_J2 (s_47 : T_Env) : Option (T_Env) :=
  some s_47
noncomputable def p_helper_own (a0 : T_Env) : Option (T_Env) :=
  po (p_slices_Clone_api_Table_api_Table a0.T) fun r1 =>
  po (
  lpU (fun x => p_helper_own_L3 r1 x.1 x.2) ((T_Env.mk a0.Ctx r1 a0.Seed), 0)) (fun x => p_helper_own_J2 x)
theorem c_helper_own (a0 : T_Env) {r : T_Env} (h : p_helper_own a0 = some r) : Ctr prog 66 [.agg (enc_Env a0)] [] (.agg [.raw (.int .u32 (r.Ctx.a0.toNat : Int)), .raw (.int .u32 (r.Ctx.a1.toNat : Int)), .raw (.int .u32 (r.Ctx.a2.toNat : Int)), .raw (.int .u32 (r.Ctx.a3.toNat : Int)), .row 0 0 6 0 r.T.length, .raw (.int .u32 (r.Seed.toNat : Int))]) [(0, .row 27 6 0 (r.T.map enc_Table))] := by
 unfold p_helper_own at h; refine Ctr.ofW tabOk func66 rfl call66 0 _ ntmps66 [.cell 2 49] rfl rfl rfl (fun B => ?_); refine VC.seqF tabOkF [some 1, some 2] [1, 2] rfl rfl (fun K hK => ?_); push_cast; (repeat refine .intro (by omega) ?_); refine hK _ ?_; clear hK K; obtain ⟨r1, hr1, h⟩ := po_some h; refine VC.seqF tabOkF [some 6, some 7, some 8, some 9, none] [1, 2] rfl rfl (fun K hK => ?_); push_cast; (repeat refine .intro (by omega) ?_); refine callH (H := []) (Ctr.loH (Ctr.ren (Bij.swp 0 4 Bij.id) (c_slices_Clone_api_Table_api_Table a0.T hr1) (by push_cast) (by push_cast))) (by push_cast) rfl rfl rfl ?_; push_cast; (repeat refine .intro (by omega) ?_); refine hK _ ?_; clear hK K; refine VC.sub (s' := ⟨[(1, .ref 0 0), (2, .ref 1 0)], [(0, .box 49 [.raw (.int .u32 (a0.Ctx.a0.toNat : Int)), .raw (.int .u32 (a0.Ctx.a1.toNat : Int)), .raw (.int .u32 (a0.Ctx.a2.toNat : Int)), .raw (.int .u32 (a0.Ctx.a3.toNat : Int)), .row 4 0 6 0 r1.length, .raw (.int .u32 (a0.Seed.toNat : Int))]), (1, .box 49 [.raw (.int .u32 0), .raw (.int .u32 0), .raw (.int .u32 0), .raw (.int .u32 0), .sl true [], .raw (.int .u32 0)]), (4, .row 27 6 0 (r1.map enc_Table))], 7, 48, 0⟩) (sof ?_ ?_ rfl rfl) ?_
 ·push_cast
 ·push_cast
 obtain ⟨v2, h, hk2⟩ := po_some h; refine VC.seqJ (X := T_Env) (fun x => p_helper_own_J2 x = some r) (fun x => ⟨[(1, .ref 0 0), (2, .ref 1 0)], [(0, .box 49 [.raw (.int .u32 (x.Ctx.a0.toNat : Int)), .raw (.int .u32 (x.Ctx.a1.toNat : Int)), .raw (.int .u32 (x.Ctx.a2.toNat : Int)), .raw (.int .u32 (x.Ctx.a3.toNat : Int)), .row 4 0 6 0 x.T.length, .raw (.int .u32 (x.Seed.toNat : Int))]), (1, .box 49 [.raw (.int .u32 0), .raw (.int .u32 0), .raw (.int .u32 0), .raw (.int .u32 0), .sl true [], .raw (.int .u32 0)]), (4, .row 27 6 0 (x.T.map enc_Table))], 55, 48, 0⟩) ?_ ?_
 ·refine VC.seqF tabOkF [some 10, some 11, some 12, some 13] [1, 2, 11, 12, 13] rfl rfl (fun K hK => ?_); push_cast; (repeat refine .intro (by omega) ?_); refine hK _ ?_; clear hK K; refine VC.block ?_; refine VC.loopP h (fun x => ⟨[(1, .ref 0 0), (2, .ref 1 0), (11, .row 4 0 6 0 x.1.T.length), (12, .raw (.int .i64 (r1.length : Int))), (13, .raw (.int .i64 x.2))], [(0, .box 49 [.raw (.int .u32 (x.1.Ctx.a0.toNat : Int)), .raw (.int .u32 (x.1.Ctx.a1.toNat : Int)), .raw (.int .u32 (x.1.Ctx.a2.toNat : Int)), .raw (.int .u32 (x.1.Ctx.a3.toNat : Int)), .row 4 0 6 0 x.1.T.length, .raw (.int .u32 (x.1.Seed.toNat : Int))]), (1, .box 49 [.raw (.int .u32 0), .raw (.int .u32 0), .raw (.int .u32 0), .raw (.int .u32 0), .sl true [], .raw (.int .u32 0)]), (4, .row 27 6 0 (x.1.T.map enc_Table))], 54, 48, 0⟩) ?_ ?_
  ·refine sof ?_ ?_ rfl rfl
   ·push_cast
   ·push_cast
  rintro ⟨s_18, i_19⟩ b3 h hf3; replace h : p_helper_own_L3 r1 s_18 i_19 = some b3 := h; (try push_cast); unfold p_helper_own_L3 at h; refine VC.seqF tabOkF [some 14] [1, 2, 11, 12, 13, 14] rfl rfl (fun K hK => ?_); push_cast; (repeat refine .intro (by omega) ?_); refine hK _ ?_; clear hK K; refine VC.seq ?_; refine VC.cond rfl rfl (fun hc4 => ?_) (fun hc4 => ?_)
  ·have hb4 : (decide (i_19 < (r1.length : Int))) = true := by simpa using hc4
   replace h := cond_yes hb4 h; refine VC.skip ?_; obtain ⟨v5, h, hk5⟩ := po_some h; refine VC.seqJ (X := T_Env) (fun x => p_helper_own_J5 i_19 x = some b3) (fun x => ⟨[(1, .ref 0 0), (2, .ref 1 0), (11, .row 4 0 6 0 x.T.length), (12, .raw (.int .i64 (r1.length : Int))), (13, .raw (.int .i64 i_19))], [(0, .box 49 [.raw (.int .u32 (x.Ctx.a0.toNat : Int)), .raw (.int .u32 (x.Ctx.a1.toNat : Int)), .raw (.int .u32 (x.Ctx.a2.toNat : Int)), .raw (.int .u32 (x.Ctx.a3.toNat : Int)), .row 4 0 6 0 x.T.length, .raw (.int .u32 (x.Seed.toNat : Int))]), (1, .box 49 [.raw (.int .u32 0), .raw (.int .u32 0), .raw (.int .u32 0), .raw (.int .u32 0), .sl true [], .raw (.int .u32 0)]), (4, .row 27 6 0 (x.T.map enc_Table))], 95, 48, 0⟩) ?_ ?_
   ·refine VC.block ?_; obtain ⟨x6, hx6, h⟩ := po_some h; obtain ⟨hx61, hx62, hx63, hx64⟩ := idx_some4 hx6; refine VC.seqF tabOkF [some 15, some 16, some 17, some 4, some 3, none] [1, 2, 3, 4, 11, 12, 13] rfl rfl (fun K hK => ?_); push_cast [hb4, hx61, hx62, hx63, hx64]; (repeat refine .intro (by omega) ?_); refine hK _ ?_; clear hK K; obtain ⟨r7, hr7, h⟩ := po_some h; refine VC.seqF tabOkF [some 18, some 19, some 20, some 21, none] [1, 2, 3, 4, 11, 12, 13] rfl rfl (fun K hK => ?_); push_cast [hb4, hx61, hx62, hx63, hx64]; (repeat refine .intro (by omega) ?_); refine callH (H := []) (Ctr.loH (Ctr.ren (Bij.swp 0 63 Bij.id) (c_slices_Clone_api_Entry_api_Entry x6.E hr7) (by push_cast [hb4, hx61, hx62, hx63, hx64]) (by push_cast [hb4, hx61, hx62, hx63, hx64]))) (by push_cast [hb4, hx61, hx62, hx63, hx64]) rfl rfl rfl ?_; push_cast [hb4, hx61, hx62, hx63, hx64]; (repeat refine .intro (by omega) ?_); refine hK _ ?_; clear hK K; refine VC.sub (s' := ⟨[(1, .ref 0 0), (2, .ref 1 0), (3, .raw (.int .i64 i_19)), (4, .ref 58 0), (11, .row 4 0 6 0 s_18.T.length), (12, .raw (.int .i64 (r1.length : Int))), (13, .raw (.int .i64 i_19))], [(0, .box 49 [.raw (.int .u32 (s_18.Ctx.a0.toNat : Int)), .raw (.int .u32 (s_18.Ctx.a1.toNat : Int)), .raw (.int .u32 (s_18.Ctx.a2.toNat : Int)), .raw (.int .u32 (s_18.Ctx.a3.toNat : Int)), .row 4 0 6 0 s_18.T.length, .raw (.int .u32 (s_18.Seed.toNat : Int))]), (1, .box 49 [.raw (.int .u32 0), .raw (.int .u32 0), .raw (.int .u32 0), .raw (.int .u32 0), .sl true [], .raw (.int .u32 0)]), (4, .row 27 6 0 (s_18.T.map enc_Table)), (58, .box 27 [.raw (.int .i64 x6.S.Kind), .raw (.int .i64 x6.S.Cap), .raw (.int .i64 x6.S.Words), .raw (.int .i64 x6.S.Ver), .row 63 0 2 0 r7.length, .raw (.int .u32 (x6.Next.toNat : Int))]), (63, .row 41 2 0 (r7.map enc_Entry))], 66, 48, 0⟩) (sof ?_ ?_ rfl rfl) ?_
    ·push_cast [hb4]
    ·push_cast [hb4]
    obtain ⟨v8, h, hk8⟩ := po_some h; refine VC.seqJ (X := T_Env × T_Table) (fun x => p_helper_own_J8 i_19 x.1 x.2 = some v5) (fun x => ⟨[(1, .ref 0 0), (2, .ref 1 0), (3, .raw (.int .i64 i_19)), (4, .ref 58 0), (11, .row 4 0 6 0 x.1.T.length), (12, .raw (.int .i64 (r1.length : Int))), (13, .raw (.int .i64 i_19))], [(0, .box 49 [.raw (.int .u32 (x.1.Ctx.a0.toNat : Int)), .raw (.int .u32 (x.1.Ctx.a1.toNat : Int)), .raw (.int .u32 (x.1.Ctx.a2.toNat : Int)), .raw (.int .u32 (x.1.Ctx.a3.toNat : Int)), .row 4 0 6 0 x.1.T.length, .raw (.int .u32 (x.1.Seed.toNat : Int))]), (1, .box 49 [.raw (.int .u32 0), .raw (.int .u32 0), .raw (.int .u32 0), .raw (.int .u32 0), .sl true [], .raw (.int .u32 0)]), (4, .row 27 6 0 (x.1.T.map enc_Table)), (58, .box 27 [.raw (.int .i64 x.2.S.Kind), .raw (.int .i64 x.2.S.Cap), .raw (.int .i64 x.2.S.Words), .raw (.int .i64 x.2.S.Ver), .row 63 0 2 0 x.2.E.length, .raw (.int .u32 (x.2.Next.toNat : Int))]), (63, .row 41 2 0 (x.2.E.map enc_Entry))], 89, 48, 0⟩) ?_ ?_
    ·refine VC.seqF tabOkF [some 22, some 23, some 24, some 25] [1, 2, 3, 4, 11, 12, 13, 24, 25] rfl rfl (fun K hK => ?_); push_cast [hb4, hx61, hx62, hx63, hx64]; (repeat refine .intro (by omega) ?_); refine hK _ ?_; clear hK K; refine VC.block ?_; refine VC.loopP h (fun x => ⟨[(1, .ref 0 0), (2, .ref 1 0), (3, .raw (.int .i64 i_19)), (4, .ref 58 0), (11, .row 4 0 6 0 x.1.T.length), (12, .raw (.int .i64 (r1.length : Int))), (13, .raw (.int .i64 i_19)), (24, .raw (.int .i64 (r7.length : Int))), (25, .raw (.int .i64 x.2.2))], [(0, .box 49 [.raw (.int .u32 (x.1.Ctx.a0.toNat : Int)), .raw (.int .u32 (x.1.Ctx.a1.toNat : Int)), .raw (.int .u32 (x.1.Ctx.a2.toNat : Int)), .raw (.int .u32 (x.1.Ctx.a3.toNat : Int)), .row 4 0 6 0 x.1.T.length, .raw (.int .u32 (x.1.Seed.toNat : Int))]), (1, .box 49 [.raw (.int .u32 0), .raw (.int .u32 0), .raw (.int .u32 0), .raw (.int .u32 0), .sl true [], .raw (.int .u32 0)]), (4, .row 27 6 0 (x.1.T.map enc_Table)), (58, .box 27 [.raw (.int .i64 x.2.1.S.Kind), .raw (.int .i64 x.2.1.S.Cap), .raw (.int .i64 x.2.1.S.Words), .raw (.int .i64 x.2.1.S.Ver), .row 63 0 2 0 x.2.1.E.length, .raw (.int .u32 (x.2.1.Next.toNat : Int))]), (63, .row 41 2 0 (x.2.1.E.map enc_Entry))], 88, 48, 0⟩) ?_ ?_
     ·refine sof ?_ ?_ rfl rfl
      ·push_cast [hb4]
      ·push_cast [hb4]
     rintro ⟨s_48, s_49, i_50⟩ b9 h hf9; replace h : p_helper_own_L9 r7 s_48 s_49 i_50 = some b9 := h; (try push_cast); unfold p_helper_own_L9 at h; refine VC.seqF tabOkF [some 26] [1, 2, 3, 4, 11, 12, 13, 24, 25, 26] rfl rfl (fun K hK => ?_); push_cast [hb4, hx61, hx62, hx63, hx64]; (repeat refine .intro (by omega) ?_); refine hK _ ?_; clear hK K; refine VC.seq ?_; refine VC.cond rfl rfl (fun hc10 => ?_) (fun hc10 => ?_)
     ·have hb10 : (decide (i_50 < (r7.length : Int))) = true := by simpa using hc10
      replace h := cond_yes hb10 h; refine VC.skip ?_; refine VC.seq ?_; refine VC.block ?_; refine VC.seqF tabOkF [some 27, some 5] [1, 2, 3, 4, 5, 11, 12, 13, 24, 25] rfl rfl (fun K hK => ?_); push_cast [hb4, hx61, hx62, hx63, hx64, hb10]; (repeat refine .intro (by omega) ?_); refine hK _ ?_; clear hK K; obtain ⟨x11, hx11, h⟩ := po_some h; obtain ⟨hx111, hx112, hx113, hx114⟩ := idx_some4 hx11; obtain ⟨r12, hr12, h⟩ := po_some h; obtain ⟨y13, hy13, h⟩ := pl_some h; have hy13l : y13.length = s_49.E.length := by rw [hy13, List.length_set]
      refine VC.lastFD tabOkF hmixO [some 28, some 29, some 30, some 31, some 32, some 33, some 34, some 35, some 36, some 37, some 38, some 39, none] rfl rfl rfl (fun K hK => ?_); refine runD_cut 8 (fun K2 hK2 => ?_); push_cast [hb4, hx61, hx62, hx63, hx64, hb10, hx111, hx112, hx113, hx114]; (repeat refine .intro (by omega) ?_); refine hK2 _ _ _ ?_; clear hK2 K2; simp only [List.drop_succ_cons, List.drop_zero]; push_cast [hb4, hx61, hx62, hx63, hx64, hb10, hx111, hx112, hx113, hx114]; (repeat refine .intro (by omega) ?_); refine callHD (H := []) (Ctr.loH (Ctr.ren (Bij.swp 0 100 Bij.id) (c_slices_Clone_uint32_uint32 x11.V hr12) (by push_cast [hb4, hx61, hx62, hx63, hx64, hb10, hx111, hx112, hx113, hx114]) (by push_cast [hb4, hx61, hx62, hx63, hx64, hb10, hx111, hx112, hx113, hx114]))) (by push_cast [hb4, hx61, hx62, hx63, hx64, hb10, hx111, hx112, hx113, hx114]) rfl rfl rfl ?_; push_cast [hb4, hx61, hx62, hx63, hx64, hb10, hx111, hx112, hx113, hx114]; (repeat refine .intro (by omega) ?_); refine ⟨rfl, hK _ ?_⟩; clear hK K; refine VC.lastF tabOkF [some 40, some 25] rfl rfl (fun K hK => ?_); push_cast [hb4, hx61, hx62, hx63, hx64, hb10, hx111, hx112, hx113, hx114]; (repeat refine .intro (by omega) ?_); refine hK _ ?_; clear hK K; refine Exists.intro ((s_48, (T_Table.mk s_49.S y13 s_49.Next), (IntKind.i64.wrap (i_50 + 1)))) (And.intro (Option.some.inj h).symm ?_); refine sof ?_ ?_ rfl rfl
      ·push_cast [hb4, hb10, hy13, hy13l]
      ·push_cast [hb4, hb10, hy13, hy13l]
     ·have hb10 : (decide (i_50 < (r7.length : Int))) = false := by simpa using hc10
      replace h := cond_no hb10 h; refine VC.exit ?_; replace h := congrArg some (hf9 _ (Option.some.inj h).symm); have hv := Option.some.inj h; rw [← hv] at hk8; refine Exists.intro ((s_48, s_49)) (And.intro hk8 ?_); refine sof ?_ ?_ rfl rfl
      ·push_cast [hb4, hb10]
      ·push_cast [hb4, hb10]
    ·rintro ⟨s_54, s_55⟩ h; replace h : p_helper_own_J8 i_19 s_54 s_55 = some v5 := h; (try push_cast); unfold p_helper_own_J8 at h; obtain ⟨x14, hx14, h⟩ := po_some h; obtain ⟨hx141, hx142, hx143, hx144⟩ := idx_some4 hx14; obtain ⟨y15, hy15, h⟩ := pl_some h; have hy15l : y15.length = s_54.T.length := by rw [hy15, List.length_set]
     refine VC.lastF tabOkF [some 41, some 42, some 43, some 44, some 45, none] rfl rfl (fun K hK => ?_); push_cast [hb4, hx61, hx62, hx63, hx64, hx141, hx142, hx143, hx144]; (repeat refine .intro (by omega) ?_); refine hK _ ?_; clear hK K; have hv := Option.some.inj h; rw [← hv] at hk5; refine Exists.intro ((T_Env.mk s_54.Ctx y15 s_54.Seed)) (And.intro hk5 ?_); refine sof ?_ ?_ rfl rfl
     ·push_cast [hb4, hy15, hy15l]
     ·push_cast [hb4, hy15, hy15l]
   ·rintro s_28 h; replace h : p_helper_own_J5 i_19 s_28 = some b3 := h; (try push_cast); unfold p_helper_own_J5 at h; refine VC.lastF tabOkF [some 46, some 13] rfl rfl (fun K hK => ?_); push_cast [hb4]; (repeat refine .intro (by omega) ?_); refine hK _ ?_; clear hK K; refine Exists.intro ((s_28, (IntKind.i64.wrap (i_19 + 1)))) (And.intro (Option.some.inj h).symm ?_); refine sof ?_ ?_ rfl rfl
    ·push_cast [hb4]
    ·push_cast [hb4]
  ·have hb4 : (decide (i_19 < (r1.length : Int))) = false := by simpa using hc4
   replace h := cond_no hb4 h; refine VC.exit ?_; replace h := congrArg some (hf3 _ (Option.some.inj h).symm); have hv := Option.some.inj h; rw [← hv] at hk2; refine Exists.intro (s_18) (And.intro hk2 ?_); refine sof ?_ ?_ rfl rfl
   ·push_cast [hb4]
   ·push_cast [hb4]
 ·rintro s_47 h; replace h : p_helper_own_J2 s_47 = some r := h; (try push_cast); unfold p_helper_own_J2 at h; refine VC.seqF tabOkF [some 47, none] [2] rfl rfl (fun K hK => ?_); push_cast; (repeat refine .intro (by omega) ?_); refine hK _ ?_; clear hK K; refine VC.ret ?_; have hr := Option.some.inj h; subst hr; refine endS (Sub.of (s' := ⟨[(2, .ref 1 0)], [(1, .box 49 [.raw (.int .u32 (s_47.Ctx.a0.toNat : Int)), .raw (.int .u32 (s_47.Ctx.a1.toNat : Int)), .raw (.int .u32 (s_47.Ctx.a2.toNat : Int)), .raw (.int .u32 (s_47.Ctx.a3.toNat : Int)), .row 4 0 6 0 s_47.T.length, .raw (.int .u32 (s_47.Seed.toNat : Int))]), (4, .row 27 6 0 (s_47.T.map enc_Table))], 57, 48, 0⟩) (by push_cast) (by push_cast) ⟨rfl, rfl, Nat.le_of_ble_eq_true rfl⟩ rfl) ?_; refine endS (Sub.renB (b := 1) (j := 4) (i' := 0) rfl rfl rfl (Nat.le_of_ble_eq_true rfl) (Nat.le_of_ble_eq_true rfl) rfl) ?_; refine endP (Sub.lo _) (Post.ret ?_ ?_ ?_)
  ·push_cast
  ·push_cast
  ·rfl
end Go.Proofs.Ytkhanhhingicpaa
