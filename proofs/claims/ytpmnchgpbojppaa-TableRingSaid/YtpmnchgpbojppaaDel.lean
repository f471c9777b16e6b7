/- table.Del. -/
import Derived.Test.YtpmnchgpbojppaaDelete
import Derived.Test.YtpmnchgpbojppaaGet
namespace Go.Proofs.Ytpmnchgpbojppaa
open Go Go.RowKit Go.Proofs.Try

/-- An entry's words made noughts. -/
def zeroE (l : List Ent) (i : Nat) : List Ent :=
  match l[i]? with
  | some e => l.set i { e with v := List.replicate e.v.length 0 }
  | none => l
def Tab.del (t : Tab) (key : Nat) : Tab × Bool :=
  if t.has key 0 = false then (t, false)
  else if t.s.kind = 0 then ({ t with e := zeroE t.e (t.idx key) }, true)
  else ({ t with e := t.e.eraseIdx (t.idx key) }, true)

theorem splice_all {α : Type} {l r : List α} (h : l.length = r.length) : splice l 0 r = r := by
  unfold splice
  rw [List.take_zero, List.nil_append, List.drop_eq_nil_of_le (by omega), List.append_nil]

set_option maxRecDepth 100000 in
set_option maxHeartbeats 4000000 in
theorem del_any (s : Sch) (A : Option Addr) (n c nx key : Nat) (es : List Ent) (w : World) (hx : nx < 4294967296) (hfit : fits es) (hE : kEnt.At w w.heap.size A n c es) :
    Calls prog 29 #[tabV s A n c nx, .int .u32 (key : Int)] w fun e w' => ∃ A' n' c' us, e = .returned (.tuple #[tabV s A' n' c' nx, .bool (Tab.del ⟨s, es, nx⟩ key).2]) ∧ OwnEs w' w.heap.size (.slice A' n' c') (Tab.del ⟨s, es, nx⟩ key).1.e us ∧ Below w.heap.size w w' := by
  have hl := Lib.hid hE.len
  obtain ⟨T, hT⟩ : ∃ T, T = Tab.del ⟨s, es, nx⟩ key := ⟨_, rfl⟩
  rw [← hT]
  replace hT := Lib.hid hT
  unfold tabV
  obtain ⟨W1, hW1, hB1, hS1, hG1, hO1, hP1⟩ := boxedB w _ rfl #[.int .i64 s.kind, .int .i64 s.cap, .int .i64 s.words, .int .i64 s.ver, .slice A n c, .int .u32 (nx : Int)] 27
  obtain ⟨W2, hW2, hB2, hS2, hG2, hO2, hP2⟩ := boxedB W1 _ hS1 #[.int .i64 0, .int .i64 0, .int .i64 0, .int .i64 0, .slice none 0 0, .int .u32 0] 27
  have hC1 := (hG1.below hB2 (Nat.lt_succ_self _)).cell
  have hb2 := hB1.trans (hB2.mono (Nat.le_succ _))
  clear hO1 hP1 hO2 hP2
  go_enter func29, ntmps29
  go_wp2_with fail
  refine (own_any s A n c nx es _ hfit (by exact (hE.below hb2).mono (by omega))).mono ?_
  rintro e1 w3 ⟨A', us, rfl, hown, hb3⟩
  rw [hS2] at hown hb3
  have hs3 := hb3.size
  have hb03 := hb2.trans (hb3.mono (by omega))
  obtain ⟨W4, hW4, hB4, hS4, hG4, hO4, hP4⟩ := boxedB w3 _ rfl #[.int .i64 s.kind, .int .i64 s.cap, .int .i64 s.words, .int .i64 s.ver, .slice A' n n, .int .u32 (nx : Int)] 27
  have hC4 := hG4.cell
  have hb04 := hb03.trans (hB4.mono (by omega))
  clear hO4 hP4
  unfold tabV
  have hE4 := (hown.at_.below hB4).mono (B' := W4.heap.size) (by omega)
  go_wp2_with fail
  refine (find_any s A' n n nx key es _ W4.heap.size (by omega) hE4).mono ?_
  rintro e1 w5 ⟨rfl, hb5⟩
  have hs5 := hb5.size
  have hG15 := (((hG1.below hB2 (Nat.lt_succ_self _)).below hb3 (by omega)).below hB4 (by omega)).below hb5 (by omega)
  have hC15 := hG15.cell
  have hb05 := hb04.trans (hb5.mono (by omega))
  obtain ⟨xx, hfi, hx1⟩ : ∃ xx : Int, fidx key es 0 = xx ∧ Hid (xx = fidx key es 0) := ⟨_, rfl, rfl⟩
  rw [hfi]
  replace hfi := Lib.hid hfi
  go_wp2_with fail
  refine (words_tab s A n c nx 0 es _ hx (by omega) (by exact (hE.below hb05).mono (by omega))).mono ?_
  rintro e1 w6 ⟨rfl, hb6⟩
  have hs6 := hb6.size
  have hG46 := (hG4.below hb5 (by omega)).below hb6 (by omega)
  have hC46 := hG46.cell
  have hF46 := hG46.frozen
  have hG26 := (((hG2.below hb3 (by omega)).below hB4 (by omega)).below hb5 (by omega)).below hb6 (by omega)
  have hC26 := hG26.cell
  have hF26 := hG26.frozen
  have hb06 := hb05.trans (hb6.mono (by omega))
  have hO6 := ((hown.below hB4).below (hb5.mono (by omega))).below (hb6.mono (by omega))
  by_cases hh : Tab.has ⟨s, es, nx⟩ key 0 = false
  · have hTv : T = (⟨s, es, nx⟩, false) := by rw [hT.out]; unfold Tab.del; rw [if_pos hh]
    replace hTv := Lib.hid hTv
    have hr7 := hG26.setBox [.int .i64 s.kind, .int .i64 s.cap, .int .i64 s.words, .int .i64 s.ver, .slice A' n n, .int .u32 (nx : Int)] rfl
    have ho7 := setAll_only (w.heap.size + 1) [.int .i64 s.kind, .int .i64 s.cap, .int .i64 s.words, .int .i64 s.ver, .slice A' n n, .int .u32 (nx : Int)] 0 w6
    have hb7 := Only.below hb06 ho7 (by omega) (by omega)
    have hO7 := (hO6.far ho7 (by omega)).mono (show w.heap.size ≤ w.heap.size + 1 + 1 by omega)
    rcases hkd : Tab.keyed ⟨s, es, nx⟩ 0 with _ | _
    · clear hh
      go_wp2_with fail
      refine bodyPost_ret (results_ct results29 rfl hr7 underlying27 rfl (by kernel_rfl)) rfl ?_
      rw [hTv.out]
      exact ⟨A', n, n, us, rfl, hO7, hb7⟩
    · have hxm : (xx == -1) = true := by
        have h1 := fidx_lt key es 0
        have h2 := hx1.out
        have h3 : ¬ 0 ≤ fidx key es 0 := by simpa [Tab.has, hkd] using hh
        simp
        omega
      clear hh
      go_wp2_with fail
      refine bodyPost_ret (results_ct results29 rfl hr7 underlying27 rfl (by kernel_rfl)) rfl ?_
      rw [hTv.out]
      exact ⟨A', n, n, us, rfl, hO7, hb7⟩
  obtain ⟨hkd, hpos⟩ : Tab.keyed ⟨s, es, nx⟩ 0 = true ∧ 0 ≤ fidx key es 0 := by simpa [Tab.has] using hh
  obtain ⟨hmay, hk3, hfw⟩ := Tab.keyed_may hkd
  simp only at hk3 hfw
  have hsch := Sch.may_bounds (Tab.may_sch hmay)
  simp only at hsch
  have hlen := Tab.may_len hmay
  simp only [hl.out] at hlen
  obtain ⟨hxi, hil⟩ := fidx_nat hpos
  obtain ⟨i, hii⟩ : ∃ i, i = (fidx key es 0).toNat := ⟨_, rfl⟩
  rw [← hii] at hxi hil
  have hxi' : xx = (i : Int) := hx1.out.trans hxi
  subst hxi'
  have hin : i < n := by rw [← hl.out]; exact hil
  have hxm : ((i : Int) == -1) = false := by simp
  have hid : Tab.idx ⟨s, es, nx⟩ key = i := by unfold Tab.idx; exact hii.symm
  have hn16 : n ≤ 16 := by omega
  obtain ⟨g, rfl, hg1, hg2, _⟩ := hown.block (by omega)
  have hiu : i < us.length := by rw [hO6.len, hl.out]; exact hin
  obtain ⟨e, he⟩ : ∃ e, es[i]? = some e := ⟨_, List.getElem?_eq_getElem hil⟩
  obtain ⟨u, hu⟩ : ∃ u, us[i]? = some u := ⟨_, List.getElem?_eq_getElem hiu⟩
  have hji : (i : Int) < (n : Int) := by omega
  have hgne := hO6.ne_box hG46 (by decide)
  rcases hk0 : (s.kind == 0) with _ | _
  · have hk0' : ¬ s.kind = 0 := by simpa using hk0
    have hTv : T = (⟨s, es.eraseIdx i, nx⟩, true) := by
      rw [hT.out]
      unfold Tab.del
      rw [if_neg hh, if_neg (by simpa using hk0'), hid]
    replace hTv := Lib.hid hTv
    clear hpos hxi hii hx1 hmay hfi hk0' hh hT
    go_wp2_with fail
    refine (delete_any g n i es us _ (w.heap.size + 1 + 1) hO6 hl.out hin (by omega)).mono ?_
    rintro e1 w7 ⟨rfl, ho7, hO7⟩
    have hs7 := ho7.size
    have hG47 := hG46.grown ho7 (by simp; omega)
    have hC47 := hG47.cell
    have hF47 := hG47.frozen
    have hG27 := hG26.grown ho7 (by simp; omega)
    obtain ⟨W8, hW8, ho8, hs8, hG8, hO8, hP8⟩ := storedB hG47 4 (.slice (some ⟨g, 0, none⟩) (n - 1) n)
    have hC8 := hG8.cell
    have hG28 := hG27.grown ho8 (by simp; omega)
    have hC28 := hG28.cell
    have hF28 := hG28.frozen
    clear hO8 hP8
    have hr9 := hG28.setBox [.int .i64 s.kind, .int .i64 s.cap, .int .i64 s.words, .int .i64 s.ver, .slice (some ⟨g, 0, none⟩) (n - 1) n, .int .u32 (nx : Int)] rfl
    have ho9 := setAll_only (w.heap.size + 1) [.int .i64 s.kind, .int .i64 s.cap, .int .i64 s.words, .int .i64 s.ver, .slice (some ⟨g, 0, none⟩) (n - 1) n, .int .u32 (nx : Int)] 0 W8
    have hb9 := Only.below (Only.below (Only.below hb06 ho7 (by omega) (by omega)) ho8 (by omega) (by omega)) ho9 (by omega) (by omega)
    have hO9 := ((hO7.box hG47 ho8 (by decide) (by decide)).far ho9 (by omega)).mono (show w.heap.size ≤ w.heap.size + 1 + 1 by omega)
    go_wp2_with fail
    refine bodyPost_ret (results_ct results29 rfl hr9 underlying27 rfl (by kernel_rfl)) rfl ?_
    rw [hTv.out]
    exact ⟨some ⟨g, 0, none⟩, n - 1, n, us.eraseIdx i, rfl, hO9, hb9⟩
  · have hk0' : s.kind = 0 := by simpa using hk0
    have hTv : T = (⟨s, es.set i { e with v := List.replicate e.v.length 0 }, nx⟩, true) := by
      rw [hT.out]
      unfold Tab.del
      rw [if_neg hh, if_pos (by simpa using hk0'), hid]
      simp [zeroE, he]
    replace hTv := Lib.hid hTv
    have hwd : 0 < e.v.length := by
      have := ((Tab.elOk_iff _ _ _).1 ((Tab.may_iff _).1 hmay |>.2 i e he)).1
      simp only at this
      omega
    have hwd4 : e.v.length ≤ 4 := by
      have := ((Tab.elOk_iff _ _ _).1 ((Tab.may_iff _).1 hmay |>.2 i e he)).1
      simp only at this
      omega
    obtain ⟨c0, c1'⟩ := hO6.cells_ he hu
    obtain ⟨hval, _⟩ := hO6.val i e u he hu
    obtain ⟨y, hy⟩ : ∃ y, e.v[0]? = some y := ⟨_, List.getElem?_eq_getElem hwd⟩
    obtain ⟨gu, cu, rfl, hgu1, hgu2, hcu, hcw, hfz⟩ := hval.cells_ hy
    have hgu4 := hval.ne_blk hG46 (by decide)
    obtain ⟨cap, cur, hGu, hcuq, hcs, hct⟩ : ∃ (cap : Nat) (cur : Array Value), Blk w6 gu 25 cur ∧ cap = cu ∧ cur.size = cap * 1 ∧ cap ≤ maxLen := by
      rcases hval.row.2 with ⟨h1, _⟩ | ⟨g', cap, cur, hee, _, hg', _, hm, hcs, _⟩
      · cases h1
      · cases hee
        exact ⟨_, cur, hg', rfl, hcs, hm⟩
    subst hcuq
    obtain ⟨iw, hiw, hzw, hsw, _⟩ := info_parts info_u32
    have hcl : (List.replicate e.v.length (Value.int .u32 0)).length ≤ cur.toList.length := by simp [hcs]; omega
    have hclr : ∀ ty, (Builtin.clear_ #[36] ty #[.slice (some ⟨gu, 0, none⟩) e.v.length cap]).run prog w6 = .ok (.tuple #[]) (w6.setRow gu (splice cur.toList 0 (List.replicate e.v.length (.int .u32 0))).toArray) := by
      intro ty
      have := run_clearN (P := prog) w6 36 25 ty iw (.int .u32 0) underlying36 hiw hzw gu 0 e.v.length cap hwd 25 cur.toList (by simpa using hGu) (by rw [zeroCells_u32]; simpa using hcl) (by rw [zeroCells_u32]; intro v hv; rw [List.eq_of_mem_replicate hv]; rfl)
      rw [zeroCells_u32] at this
      exact this
    obtain ⟨W7, hW7⟩ : ∃ W, w6.setRow gu (splice cur.toList 0 (List.replicate e.v.length (.int .u32 0))).toArray = W := ⟨_, rfl⟩
    have ho7 : Only gu w6 W7 := by rw [← hW7]; exact Only.setRow _ _ _
    have hs7 := ho7.size
    have hGu7 : Blk W7 gu 25 (splice cur.toList 0 (List.replicate e.v.length (.int .u32 0))).toArray := by
      rw [← hW7]
      exact setRow_heap w6 gu cur (splice cur.toList 0 (List.replicate e.v.length (.int .u32 0))).toArray _ (0, 0) hGu
    have hnew : OwnW W7 (w.heap.size + 1 + 1) (.slice (some ⟨gu, 0, none⟩) e.v.length cap) (List.replicate e.v.length 0) := by
      refine ⟨⟨by simp [u32s_length], .inr ⟨gu, cap, _, by simp, hgu1, hGu7, by simpa using hcu, hct, ?_, ?_⟩⟩, fun z hz => by simp at hz; omega⟩
      · rw [List.size_toArray, length_splice _ _ _ (by simpa using hcl), Array.length_toList]
        exact hcs
      · unfold splice
        simp [u32s]
    have hO7 := hO6.setV he hu ho7 hnew
    rw [hW7] at hclr
    have hG47 := hG46.grown ho7 (by simp; omega)
    have hC47 := hG47.cell
    have hG27 := hG26.grown ho7 (by simp; omega)
    have hC27 := hG27.cell
    have hF27 := hG27.frozen
    have hr9 := hG27.setBox [.int .i64 s.kind, .int .i64 s.cap, .int .i64 s.words, .int .i64 s.ver, .slice (some ⟨g, 0, none⟩) n n, .int .u32 (nx : Int)] rfl
    have ho9 := setAll_only (w.heap.size + 1) [.int .i64 s.kind, .int .i64 s.cap, .int .i64 s.words, .int .i64 s.ver, .slice (some ⟨g, 0, none⟩) n n, .int .u32 (nx : Int)] 0 W7
    have hb9 := Only.below (Only.below hb06 ho7 (by omega) (by omega)) ho9 (by omega) (by omega)
    have hO9 := (hO7.far ho9 (by omega)).mono (show w.heap.size ≤ w.heap.size + 1 + 1 by omega)
    replace hO9 := Lib.hid hO9
    clear hpos hxi hii hx1 hmay hfi hk0' hh hT he hu hy hO7 hO6 hval c0
    go_wp2_with (refine wpList_clear rfl _ _ rfl rfl (hclr _) ?_)
    go_wp2_with fail
    refine bodyPost_ret (results_ct results29 rfl hr9 underlying27 rfl (by kernel_rfl)) rfl ?_
    rw [hTv.out]
    exact ⟨some ⟨g, 0, none⟩, n, n, us, rfl, hO9.out, hb9⟩
end Go.Proofs.Ytpmnchgpbojppaa
