/- table.Get. -/
import Derived.Test.YtpmnchgpbojppaaOwn
import Derived.Test.YtpmnchgpbojppaaLast
import Derived.Test.YtpmnchgpbojppaaKeyed
namespace Go.Proofs.Ytpmnchgpbojppaa
open Go Go.RowKit Go.Proofs.Try

/-- Has a table such a word of such a key? -/
def Tab.has (t : Tab) (key f : Nat) : Bool := t.keyed f && decide (0 ≤ fidx key t.e 0)
def Tab.idx (t : Tab) (key : Nat) : Nat := (fidx key t.e 0).toNat
def Tab.word (t : Tab) (i f : Nat) : Nat := (((t.e[i]?).elim [] Ent.v)[f]?).getD 0
def Tab.get (t : Tab) (key f : Nat) : Tab × Nat × Bool :=
  if t.has key f then ({ t with e := touch t.s.kind t.e (t.idx key) }, t.word (t.idx key) f, true) else (t, 0, false)
theorem fidx_nat {key : Nat} {es : List Ent} (h : 0 ≤ fidx key es 0) : fidx key es 0 = (((fidx key es 0).toNat : Nat) : Int) ∧ (fidx key es 0).toNat < es.length := by
  have := fidx_lt key es 0
  omega
theorem Tab.keyed_may {t : Tab} {f : Nat} (h : t.keyed f = true) : t.may = true ∧ t.s.kind ≠ 3 ∧ (f : Int) < t.s.words := by
  simpa [Tab.keyed, and_assoc] using h

set_option maxRecDepth 100000 in
set_option maxHeartbeats 2000000 in
theorem get_any (s : Sch) (A : Option Addr) (n c nx key f : Nat) (es : List Ent) (w : World) (hx : nx < 4294967296) (hf : f < 4294967296) (hfit : fits es) (hE : kEnt.At w w.heap.size A n c es) :
    Calls prog 22 #[tabV s A n c nx, .int .u32 (key : Int), .int .u32 (f : Int)] w fun e w' => ∃ A' c' us, e = .returned (.tuple #[tabV s A' n c' nx, .int .u32 ((Tab.get ⟨s, es, nx⟩ key f).2.1 : Int), .bool (Tab.get ⟨s, es, nx⟩ key f).2.2]) ∧ OwnEs w' w.heap.size (.slice A' n c') (Tab.get ⟨s, es, nx⟩ key f).1.e us ∧ Below w.heap.size w w' := by
  have hl := Lib.hid hE.len
  unfold tabV
  obtain ⟨W1, hW1, hB1, hS1, hG1, hO1, hP1⟩ := boxedB w _ rfl #[.int .i64 s.kind, .int .i64 s.cap, .int .i64 s.words, .int .i64 s.ver, .slice A n c, .int .u32 (nx : Int)] 27
  obtain ⟨W2, hW2, hB2, hS2, hG2, hO2, hP2⟩ := boxedB W1 _ hS1 #[.int .i64 0, .int .i64 0, .int .i64 0, .int .i64 0, .slice none 0 0, .int .u32 0] 27
  have hC1 := (hG1.below hB2 (Nat.lt_succ_self _)).cell
  have hb2 := hB1.trans (hB2.mono (Nat.le_succ _))
  clear hO1 hP1 hO2 hP2
  rcases hkd : Tab.keyed ⟨s, es, nx⟩ f with _ | _ <;> rcases hpos : decide (0 ≤ fidx key es 0) with _ | _
  all_goals
    obtain ⟨x, hfi, hx1⟩ : ∃ x : Int, fidx key es 0 = x ∧ Hid (x = fidx key es 0) := ⟨_, rfl, rfl⟩
    replace hfi := Lib.hid hfi
    go_enter func22, ntmps22
    go_wp2_with fail
    refine (own_any s A n c nx es _ hfit (by exact (hE.below hb2).mono (by omega))).mono ?_
    rintro e1 w3 ⟨A', us, rfl, hown, hb3⟩
    rw [hS2] at hown hb3
    have hs3 := hb3.size
    have hb03 := hb2.trans (hb3.mono (by omega))
    have hC13 := ((hG1.below hB2 (Nat.lt_succ_self _)).below hb3 (by omega)).cell
    obtain ⟨W4, hW4, hB4, hS4, hG4, hO4, hP4⟩ := boxedB w3 _ rfl #[.int .i64 s.kind, .int .i64 s.cap, .int .i64 s.words, .int .i64 s.ver, .slice A' n n, .int .u32 (nx : Int)] 27
    have hC4 := hG4.cell
    have hb04 := hb03.trans (hB4.mono (by omega))
    clear hO4 hP4
    unfold tabV
    have hE3 := hown.at_
    have hE4 := (hE3.below hB4).mono (B' := W4.heap.size) (by omega)
    go_wp2_with fail
    refine (find_any s A' n n nx key es _ W4.heap.size (by omega) hE4).mono ?_
    rintro e1 w5 ⟨rfl, hb5⟩
    rw [hfi.out]
    have hs5 := hb5.size
    have hC15 := (((hG1.below hB2 (Nat.lt_succ_self _)).below hb3 (by omega)).below hB4 (by omega)).below hb5 (by omega)
    have hC15' := hC15.cell
    have hG45 := hG4.below hb5 (by omega)
    have hC45 := hG45.cell
    have hb05 := hb04.trans (hb5.mono (by omega))
    go_wp2_with fail
    refine (words_tab s A n c nx f es _ hx hf (by exact (hE.below hb05).mono (by omega))).mono ?_
    rintro e1 w6 ⟨rfl, hb6⟩
    have hs6 := hb6.size
    have hG46 := hG45.below hb6 (by omega)
    have hC46 := hG46.cell
    have hG26 := (((hG2.below hb3 (by omega)).below hB4 (by omega)).below hb5 (by omega)).below hb6 (by omega)
    have hC26 := hG26.cell
    have hF26 := hG26.frozen
    have hb06 := hb05.trans (hb6.mono (by omega))
    have hO6 := ((hown.below hB4).below (hb5.mono (by omega))).below (hb6.mono (by omega))
  · have hg : Tab.get ⟨s, es, nx⟩ key f = (⟨s, es, nx⟩, 0, false) := by simp [Tab.get, Tab.has, hkd]
    replace hg := Lib.hid hg
    have hres := hG26.setBox [.int .i64 s.kind, .int .i64 s.cap, .int .i64 s.words, .int .i64 s.ver, .slice A' n n, .int .u32 (nx : Int)] rfl
    have ho7 := setAll_only (w.heap.size + 1) [.int .i64 s.kind, .int .i64 s.cap, .int .i64 s.words, .int .i64 s.ver, .slice A' n n, .int .u32 (nx : Int)] 0 w6
    go_wp2_with fail
    refine bodyPost_ret (results_ctt results22 rfl hres underlying27 rfl (by kernel_rfl)) rfl ?_
    rw [hg.out]
    exact ⟨A', n, us, rfl, (hO6.far ho7 (by omega)).mono (by omega), Only.below hb06 ho7 (by omega) (by omega)⟩
  · have hg : Tab.get ⟨s, es, nx⟩ key f = (⟨s, es, nx⟩, 0, false) := by simp [Tab.get, Tab.has, hkd]
    replace hg := Lib.hid hg
    have hres := hG26.setBox [.int .i64 s.kind, .int .i64 s.cap, .int .i64 s.words, .int .i64 s.ver, .slice A' n n, .int .u32 (nx : Int)] rfl
    have ho7 := setAll_only (w.heap.size + 1) [.int .i64 s.kind, .int .i64 s.cap, .int .i64 s.words, .int .i64 s.ver, .slice A' n n, .int .u32 (nx : Int)] 0 w6
    go_wp2_with fail
    refine bodyPost_ret (results_ctt results22 rfl hres underlying27 rfl (by kernel_rfl)) rfl ?_
    rw [hg.out]
    exact ⟨A', n, us, rfl, (hO6.far ho7 (by omega)).mono (by omega), Only.below hb06 ho7 (by omega) (by omega)⟩
  · have hxm : (x == -1) = true := by
      have := fidx_lt key es 0
      have := hx1.out
      simp at hpos ⊢
      omega
    have hg : Tab.get ⟨s, es, nx⟩ key f = (⟨s, es, nx⟩, 0, false) := by simp [Tab.get, Tab.has, hkd, hpos]
    replace hg := Lib.hid hg
    have hres := hG26.setBox [.int .i64 s.kind, .int .i64 s.cap, .int .i64 s.words, .int .i64 s.ver, .slice A' n n, .int .u32 (nx : Int)] rfl
    have ho7 := setAll_only (w.heap.size + 1) [.int .i64 s.kind, .int .i64 s.cap, .int .i64 s.words, .int .i64 s.ver, .slice A' n n, .int .u32 (nx : Int)] 0 w6
    go_wp2_with fail
    refine bodyPost_ret (results_ctt results22 rfl hres underlying27 rfl (by kernel_rfl)) rfl ?_
    rw [hg.out]
    exact ⟨A', n, us, rfl, (hO6.far ho7 (by omega)).mono (by omega), Only.below hb06 ho7 (by omega) (by omega)⟩
  · simp only [decide_eq_true_eq] at hpos
    obtain ⟨hxi, hil⟩ := fidx_nat hpos
    obtain ⟨i, hii⟩ : ∃ i, i = (fidx key es 0).toNat := ⟨_, rfl⟩
    rw [← hii] at hxi hil
    have hxi' : x = (i : Int) := hx1.out.trans hxi
    subst hxi'
    have hin : i < n := by rw [← hl.out]; exact hil
    have hxm : ((i : Int) == -1) = false := by simp
    have hg : Tab.get ⟨s, es, nx⟩ key f = (⟨s, touch s.kind es i, nx⟩, Tab.word ⟨s, es, nx⟩ i f, true) := by
      simp [Tab.get, Tab.has, hkd, hpos, Tab.idx, ← hii]
    obtain ⟨g, rfl, hg1, hg2, _⟩ := hown.block (by omega)
    obtain ⟨e, he⟩ : ∃ e, es[i]? = some e := ⟨_, List.getElem?_eq_getElem hil⟩
    obtain ⟨u, hu⟩ : ∃ u, us[i]? = some u := ⟨_, List.getElem?_eq_getElem (by rw [hO6.len]; exact hil)⟩
    obtain ⟨hmay, hk3, hfw⟩ := Tab.keyed_may hkd
    have hew := ((Tab.elOk_iff _ _ _).1 ((Tab.may_iff _).1 hmay |>.2 i e he)).1
    simp only at hew hfw
    obtain ⟨y, hy⟩ : ∃ y, e.v[f]? = some y := ⟨_, List.getElem?_eq_getElem (by omega)⟩
    have hword : Tab.word ⟨s, es, nx⟩ i f = y := by simp [Tab.word, he, hy]
    rw [hword] at hg
    replace hg := Lib.hid hg
    have hfl : (f : Int) < (e.v.length : Int) := by omega
    replace hew := Lib.hid hew
    clear hfi hword hpos hxi hii hx1 hmay
    go_wp2_with fail
    refine (last_any s g n n nx i es us _ (w.heap.size + 1 + 1) hO6 hl.out hin).mono ?_
    rintro e1 w7 ⟨rfl, ho7, hO7⟩
    obtain ⟨us', hus'⟩ : ∃ us', us' = touch s.kind us i := ⟨_, rfl⟩
    obtain ⟨j, hj2⟩ : ∃ j, j = tpos s.kind n i := ⟨_, rfl⟩
    have hj : j < n := by rw [hj2]; exact tpos_lt hin
    have he7 : (touch s.kind es i)[j]? = es[i]? := by rw [hj2, ← hl.out]; exact touch_get hil
    have hu7 : us'[j]? = us[i]? := by rw [hj2, hus', ← hl.out, ← hO6.len]; exact touch_get (by rw [hO6.len]; exact hil)
    rw [← hus'] at hO7
    rw [← hj2]
    clear hus' hj2
    have hs7 := ho7.size
    have hG47 := (hG46.grown ho7 (by simp; omega)).cell
    have hG27 := hG26.grown ho7 (by simp; omega)
    have hC27 := hG27.cell
    have hF27 := hG27.frozen
    have hb07 := Only.below hb06 ho7 (by omega) (by omega)
    obtain ⟨c0, c1⟩ := hO7.cells_ (he7.trans he) (hu7.trans hu)
    obtain ⟨hval, _⟩ := hO7.val j e u (he7.trans he) (hu7.trans hu)
    obtain ⟨gu, cu, rfl, hgu1, hgu2, hcu, hcw, hfz⟩ := hval.cells_ hy
    have hji : (j : Int) < (n : Int) := by omega
    replace hu := Lib.hid hu
    replace he := Lib.hid he
    replace hu7 := Lib.hid hu7
    replace he7 := Lib.hid he7
    replace hy := Lib.hid hy
    go_wp2_with fail
    have hne1 : ¬ w3.heap.size = w.heap.size + 1 := by omega
    have hne2 : ¬ g = w.heap.size + 1 := by omega
    have hne3 : ¬ gu = w.heap.size + 1 := by omega
    go_region_held3 (fun w' => ∀ b o, b ≠ w.heap.size + 1 → w'.cell? ⟨b, o, none⟩ = w7.cell? ⟨b, o, none⟩)
      ((intro b o hb; simp only [World.cell?_drew, cell_set_ne hb]))
      (fail)
    have hres := hG27.setBox [.int .i64 s.kind, .int .i64 s.cap, .int .i64 s.words, .int .i64 s.ver, .slice (some ⟨g, 0, none⟩) n n, .int .u32 (nx : Int)] rfl
    have hres' := hres.drew
    have ho8 := setAll_only (w.heap.size + 1) [.int .i64 s.kind, .int .i64 s.cap, .int .i64 s.words, .int .i64 s.ver, .slice (some ⟨g, 0, none⟩) n n, .int .u32 (nx : Int)] 0 w7
    have hb8 := Only.below hb07 ho8 (by omega) (by omega)
    have hO8 := (hO7.far ho8 (by omega)).mono (show w.heap.size ≤ w.heap.size + 1 + 1 by omega)
    go_wp2_with fail
    refine bodyPost_ret (results_ctt results22 rfl hres' underlying27 rfl (by kernel_rfl)) rfl ?_
    rw [hg.out]
    exact ⟨some ⟨g, 0, none⟩, n, us', rfl, hO8.below (below_drewN (Below.refl _ _) 1), below_drewN hb8 1⟩
end Go.Proofs.Ytpmnchgpbojppaa
