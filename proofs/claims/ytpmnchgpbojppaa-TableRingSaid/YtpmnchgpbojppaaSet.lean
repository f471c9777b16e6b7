/- table.Set. -/
import Derived.Test.YtpmnchgpbojppaaGet
import Derived.Test.YtpmnchgpbojppaaApp
import Derived.Deep.DeepCutAuto
import Derived.Deep.CutBlock
namespace Go.Proofs.Ytpmnchgpbojppaa
open Go Go.RowKit Go.Proofs.Try

/-- A word of an entry's value set anew. -/
def updE (l : List Ent) (i f x : Nat) : List Ent :=
  match l[i]? with
  | some e => l.set i { e with v := e.v.set f x }
  | none => l
def Tab.zero : Tab := ⟨⟨0, 0, 0, 0⟩, [], 0⟩
/-- The entries with a new key behind them. -/
def Tab.grow (t : Tab) (key : Nat) : List Ent :=
  (if (t.e.length : Int) = t.s.cap then t.e.drop 1 else t.e) ++ [⟨key, List.replicate t.s.words.toNat 0⟩]
def Tab.set (t : Tab) (key f x : Nat) : Tab × Int :=
  if t.keyed f = false then (Tab.zero, 1)
  else if 0 ≤ fidx key t.e 0 then ({ t with e := touch t.s.kind (updE t.e (t.idx key) f x) (t.idx key) }, 0)
  else if t.s.kind = 0 then (Tab.zero, 3)
  else if t.s.kind = 1 ∧ (t.e.length : Int) = t.s.cap then (Tab.zero, 4)
  else ({ t with e := touch t.s.kind (updE (t.grow key) ((t.grow key).length - 1) f x) ((t.grow key).length - 1) }, 0)

/-- What holds ahead of an entry's being met. -/
structure SetMid (s : Sch) (b0 b10 : Nat) (w : World) (nx f x : Nat) (T : Tab × Int) (i g n c : Nat) (es : List Ent) (us : List Value) (wx : World) : Prop where
  lt : i < n
  len : es.length = n
  small : n ≤ 1048577
  own : OwnEs wx (b0 + 1 + 1) (.slice (some ⟨g, 0, none⟩) n c) es us
  box : Blk wx b10 27 #[.int .i64 s.kind, .int .i64 s.cap, .int .i64 s.words, .int .i64 s.ver, .slice (some ⟨g, 0, none⟩) n c, .int .u32 (nx : Int)]
  res : Blk wx (b0 + 1) 27 #[.int .i64 0, .int .i64 0, .int .i64 0, .int .i64 0, .slice none 0 0, .int .u32 0]
  below : Below b0 w wx
  ne : g ≠ b10
  spec : T = (⟨s, touch s.kind (updE es i f x) i, nx⟩, 0)
  word : ∀ e, es[i]? = some e → f < e.v.length

set_option maxRecDepth 100000 in
set_option maxHeartbeats 4000000 in
theorem set_any (s : Sch) (A : Option Addr) (n c nx key f x : Nat) (es : List Ent) (w : World) (hx : nx < 4294967296) (hf : f < 4294967296) (hk : key < 4294967296) (hxx : x < 4294967296) (hfit : fits es) (hE : kEnt.At w w.heap.size A n c es) :
    Calls prog 21 #[tabV s A n c nx, .int .u32 (key : Int), .int .u32 (f : Int), .int .u32 (x : Int)] w fun e w' => ∃ A' n' c' us, e = .returned (.tuple #[tabV (Tab.set ⟨s, es, nx⟩ key f x).1.s A' n' c' (Tab.set ⟨s, es, nx⟩ key f x).1.next, .int .i64 (Tab.set ⟨s, es, nx⟩ key f x).2]) ∧ OwnEs w' w.heap.size (.slice A' n' c') (Tab.set ⟨s, es, nx⟩ key f x).1.e us ∧ Below w.heap.size w w' := by
  have hl := Lib.hid hE.len
  obtain ⟨T, hT⟩ : ∃ T, T = Tab.set ⟨s, es, nx⟩ key f x := ⟨_, rfl⟩
  rw [← hT]
  replace hT := Lib.hid hT
  unfold tabV
  obtain ⟨W1, hW1, hB1, hS1, hG1, hO1, hP1⟩ := boxedB w _ rfl #[.int .i64 s.kind, .int .i64 s.cap, .int .i64 s.words, .int .i64 s.ver, .slice A n c, .int .u32 (nx : Int)] 27
  obtain ⟨W2, hW2, hB2, hS2, hG2, hO2, hP2⟩ := boxedB W1 _ hS1 #[.int .i64 0, .int .i64 0, .int .i64 0, .int .i64 0, .slice none 0 0, .int .u32 0] 27
  have hC1 := (hG1.below hB2 (Nat.lt_succ_self _)).cell
  have hb2 := hB1.trans (hB2.mono (Nat.le_succ _))
  clear hO1 hP1 hO2 hP2
  obtain ⟨xx, hfi, hx1⟩ : ∃ xx : Int, fidx key es 0 = xx ∧ Hid (xx = fidx key es 0) := ⟨_, rfl, rfl⟩
  replace hfi := Lib.hid hfi
  go_enter func21, ntmps21
  go_wp2_with fail
  refine (own_any s A n c nx es _ hfit (by exact (hE.below hb2).mono (by omega))).mono ?_
  rintro e1 w3 ⟨A', us, rfl, hown, hb3⟩
  rw [hS2] at hown hb3
  have hs3 := hb3.size
  have hb03 := hb2.trans (hb3.mono (by omega))
  obtain ⟨W4, hW4, hB4, hS4, hG4, hO4, hP4⟩ := boxedB w3 _ rfl #[.int .i64 s.kind, .int .i64 s.cap, .int .i64 s.words, .int .i64 s.ver, .slice A' n n, .int .u32 (nx : Int)] 27
  have hC4 := hG4.cell
  have hb04 := hb03.trans (hB4.mono (by omega))
  clear hO4 hP4
  unfold tabV
  have hE3 := hown.at_
  have hE4 := (hE3.below hB4).mono (B' := W4.heap.size) (by omega)
  go_wp2_with fail
  refine (find_any s A' n n nx key es _ W4.heap.size (by omega) hE4).mono ?_
  rintro e1 w5 ⟨rfl, hb5⟩
  rw [hfi.out]
  have hs5 := hb5.size
  have hG15 := (((hG1.below hB2 (Nat.lt_succ_self _)).below hb3 (by omega)).below hB4 (by omega)).below hb5 (by omega)
  have hC15 := hG15.cell
  have hG45 := hG4.below hb5 (by omega)
  have hC45 := hG45.cell
  have hb05 := hb04.trans (hb5.mono (by omega))
  go_upto_block 0 with fail
  go_cut [11, 12] (fun s11 s12 wx => ∃ (i g n1 c1 : Nat) (es1 : List Ent) (us1 : List Value), s11 = .int .i64 (i : Int) ∧ SetMid s w.heap.size w3.heap.size w nx f x T i g n1 c1 es1 us1 wx)
  case first =>
    go_wp2_with fail
    refine (words_tab s A n c nx f es _ hx hf (by exact (hE.below hb05).mono (by omega))).mono ?_
    rintro e1 w6 ⟨rfl, hb6⟩
    have hs6 := hb6.size
    have hG46 := hG45.below hb6 (by omega)
    have hC46 := hG46.cell
    have hG26 := (((hG2.below hb3 (by omega)).below hB4 (by omega)).below hb5 (by omega)).below hb6 (by omega)
    have hC26 := hG26.cell
    have hF26 := hG26.frozen
    have hb06 := hb05.trans (hb6.mono (by omega))
    have hO6 := ((hown.below hB4).below (hb5.mono (by omega))).below (hb6.mono (by omega))
    rcases hkd : Tab.keyed ⟨s, es, nx⟩ f with _ | _
    · have hTv : T = (Tab.zero, 1) := by rw [hT.out]; simp [Tab.set, hkd]
      replace hTv := Lib.hid hTv
      have hr7 := hG26.setBox [.int .i64 0, .int .i64 0, .int .i64 0, .int .i64 0, .slice none 0 0, .int .u32 0] rfl
      have ho7 := setAll_only (w.heap.size + 1) [.int .i64 0, .int .i64 0, .int .i64 0, .int .i64 0, .slice none 0 0, .int .u32 0] 0 w6
      have hb7 := Only.below hb06 ho7 (by omega) (by omega)
      go_wp2_with fail
      refine bodyPost_ret (results_ct results21 rfl hr7 underlying27 rfl (by kernel_rfl)) rfl ?_
      rw [hTv.out]
      exact ⟨none, 0, 0, [], rfl, OwnEs.nil_ _ _, hb7⟩
    obtain ⟨hmay, hk3, hfw⟩ := Tab.keyed_may hkd
    simp only at hk3 hfw
    have hsch := Sch.may_bounds (Tab.may_sch hmay)
    simp only at hsch
    have hlen := Tab.may_len hmay
    simp only [hl.out] at hlen
    by_cases hpos : 0 ≤ fidx key es 0
    · obtain ⟨hxi, hil⟩ := fidx_nat hpos
      obtain ⟨i, hii⟩ : ∃ i, i = (fidx key es 0).toNat := ⟨_, rfl⟩
      rw [← hii] at hxi hil
      have hxi' : xx = (i : Int) := hx1.out.trans hxi
      subst hxi'
      have hin : i < n := by rw [← hl.out]; exact hil
      have hxm : ((i : Int) != -1) = true := by simp
      have hTv : T = (⟨s, touch s.kind (updE es i f x) i, nx⟩, 0) := by rw [hT.out]; simp [Tab.set, hkd, hpos, Tab.idx, ← hii]
      replace hTv := Lib.hid hTv
      obtain ⟨g, rfl, hg1, hg2, _⟩ := hown.block (by omega)
      have hwd : ∀ e, es[i]? = some e → f < e.v.length := by
        intro e he
        have := ((Tab.elOk_iff _ _ _).1 ((Tab.may_iff _).1 hmay |>.2 i e he)).1
        simp only at this
        omega
      replace hwd := Lib.hid hwd
      have hn16 : n ≤ 1048577 := by omega
      clear hpos hxi hii hx1 hmay hfi
      go_wp2_with fail
      go_meet
      exact ⟨i, g, n, n, es, us, rfl, hin, hl.out, hn16, hO6, hG46, hG26, hb06, by omega, hTv.out, hwd.out⟩
    have hxm : (xx != -1) = false := by
      have := fidx_lt key es 0
      have := hx1.out
      simp
      omega
    by_cases hk0 : s.kind = 0
    · have hTv : T = (Tab.zero, 3) := by rw [hT.out]; simp [Tab.set, hkd, hpos, hk0]
      replace hTv := Lib.hid hTv
      have hk0' : (s.kind == 0) = true := by simp [hk0]
      clear hk0 hpos
      have hr7 := hG26.setBox [.int .i64 0, .int .i64 0, .int .i64 0, .int .i64 0, .slice none 0 0, .int .u32 0] rfl
      have ho7 := setAll_only (w.heap.size + 1) [.int .i64 0, .int .i64 0, .int .i64 0, .int .i64 0, .slice none 0 0, .int .u32 0] 0 w6
      have hb7 := Only.below hb06 ho7 (by omega) (by omega)
      go_wp2_with fail
      refine bodyPost_ret (results_ct results21 rfl hr7 underlying27 rfl (by kernel_rfl)) rfl ?_
      rw [hTv.out]
      exact ⟨none, 0, 0, [], rfl, OwnEs.nil_ _ _, hb7⟩
    have hk0' : (s.kind == 0) = false := by simp [hk0]
    by_cases hk1 : s.kind = 1 ∧ (n : Int) = s.cap
    · have hTv : T = (Tab.zero, 4) := by rw [hT.out]; simp [Tab.set, hkd, hpos, hk1.1, hl.out, hk1.2]
      replace hTv := Lib.hid hTv
      have hk1' : (s.kind == 1) = true := by simp [hk1.1]
      have hf1' : ((n : Int) == s.cap) = true := by simp [hk1.2]
      clear hk0 hpos hk1
      have hr7 := hG26.setBox [.int .i64 0, .int .i64 0, .int .i64 0, .int .i64 0, .slice none 0 0, .int .u32 0] rfl
      have ho7 := setAll_only (w.heap.size + 1) [.int .i64 0, .int .i64 0, .int .i64 0, .int .i64 0, .slice none 0 0, .int .u32 0] 0 w6
      have hb7 := Only.below hb06 ho7 (by omega) (by omega)
      go_wp2_with fail
      refine bodyPost_ret (results_ct results21 rfl hr7 underlying27 rfl (by kernel_rfl)) rfl ?_
      rw [hTv.out]
      exact ⟨none, 0, 0, [], rfl, OwnEs.nil_ _ _, hb7⟩
    obtain ⟨m, hm⟩ : ∃ m : Nat, s.words = (m : Int) := ⟨s.words.toNat, by omega⟩
    have hm4 : m ≤ 4 := by omega
    have hmk : ∀ W : World, (Instr.makeSlice 36 (.int .i64 s.words) (.int .i64 s.words)).run prog W = .ok (.slice (some ⟨W.heap.size, 0, none⟩) m m) (W.alloc (.cells (madeCells #[.int .u32 0] m) 25)) := by
      intro W
      rw [hm]
      have := run_makeN (P := prog) 36 25 _ 1 4 underlying36 info_u32 m (by omega) (by omega) W
      rw [Nat.mul_one] at this
      exact this
    have hmt : s.words.toNat = m := by omega
    have hgrow := Lib.hid (show Tab.grow ⟨s, es, nx⟩ key = (if (es.length : Int) = s.cap then es.drop 1 else es) ++ [⟨key, List.replicate s.words.toNat 0⟩] from rfl)
    have hTg : T = (⟨s, touch s.kind (updE (Tab.grow ⟨s, es, nx⟩ key) ((Tab.grow ⟨s, es, nx⟩ key).length - 1) f x) ((Tab.grow ⟨s, es, nx⟩ key).length - 1), nx⟩, 0) := by
      rw [hT.out]
      unfold Tab.set
      rw [if_neg (by simp [hkd]), if_neg (by simpa using hpos), if_neg (by simpa using hk0), if_neg (by simpa [hl.out] using hk1)]
    replace hTg := Lib.hid hTg
    have hfm : f < m := by omega
    have hcap1 := hsch.2.2.1
    replace hm := Lib.hid hm
    by_cases hfull : (n : Int) = s.cap
    case neg =>
      have hf1' : ((n : Int) == s.cap) = false := by simp [hfull]
      have hn15 : n ≤ 15 := by omega
      obtain ⟨W7, hW7, hB7, hS7, hG7, hO7, hP7⟩ := boxedB w6 _ rfl (madeCells #[.int .u32 0] m) 25
      obtain ⟨W8, hW8, hB8, hS8, hG8, hO8, hP8⟩ := boxedB W7 _ hS7 #[.int .u32 (key : Int), .slice (some ⟨w6.heap.size, 0, none⟩) m m] 39
      have hB68 := hB7.trans (hB8.mono (Nat.le_succ _))
      have hown8 := hO6.below hB68
      have hG78 := hG7.below hB8 (Nat.lt_succ_self _)
      have hu8 := OwnW.made (base := w.heap.size + 1 + 1) hG78 (by omega) (by simp only [maxLen]; omega)
      have hC8 := hG8.cell
      obtain ⟨v9, w9, hrun, hO9, hg9, hat9⟩ := run_appEnt (w := W8.drew) (e := ⟨key, List.replicate m 0⟩) (hown8.below (below_drewN (Below.refl _ _) 1)) ⟨w6.heap.size + 1, 0, none⟩ ((hC8 0).trans rfl) (by rw [add_lit0]; exact (hC8 1).trans rfl)
        (hu8.below (below_drewN (Below.refl _ _) 1)) hk (fun i u' b hu' hb hb' => by
          have hil : i < es.length := by rw [← hO6.len]; exact (List.getElem?_eq_some_iff.1 hu').1
          have := ((hO6.val i _ u' (List.getElem?_eq_getElem hil) hu').1.row.lt b hb').2
          simp only [Value.ownBlock, Option.some.injEq] at hb
          omega) (by rw [hl.out]; omega) (show w.heap.size + 1 + 1 ≤ W8.heap.size by omega)
      have hE9 := hO9.reads
      obtain ⟨A9, c9, rfl, _⟩ := hE9
      obtain ⟨g9, rfl, hg9b, hg9l, _⟩ := hO9.block (by simp)
      have hln : (es ++ [Ent.mk key (List.replicate m 0)]).length = n + 1 := by simp [hl.out]
      rw [hln] at hrun hO9 hat9
      have hb4 : w3.heap.size < W8.heap.size := by omega
      have hne9 : ∀ b, b < w3.heap.size + 1 → w3.heap.size ≤ b ∨ b = w.heap.size + 1 ∨ b < w.heap.size → some b ≠ (Value.slice A' n n).ownBlock := by
        intro b hb hb' he
        have := (hown.row.lt b (by rw [he])).2
        have := (hown.row.lt b (by rw [he])).1
        omega
      have hG49 : Blk w9 w3.heap.size _ _ := ((hG46.below hB68 (by omega)).drew).grown hg9 (hne9 _ (by omega) (by omega))
      have hG29 : Blk w9 (w.heap.size + 1) _ _ := ((hG26.below hB68 (by omega)).drew).grown hg9 (hne9 _ (by omega) (by omega))
      have hC49 := hG49.cell
      have hF49 := hG49.frozen
      have hb09 : Below w.heap.size w w9 := (Below.drew (hb06.trans (hB68.mono (by omega)))).grown hg9 (show w.heap.size ≤ W8.heap.size by omega) (fun b hb => by have := (hown.row.lt b hb).1; omega)
      obtain ⟨W10, hW10, ho10, hs10, hG10, hO10, hP10⟩ := storedB hG49 4 (.slice (some ⟨g9, 0, none⟩) (n + 1) c9)
      have hC10 := hG10.cell
      have hb010 := Only.below hb09 ho10 (by omega) (by have := hg9.size; simp at this; omega)
      have hgrn : Tab.grow ⟨s, es, nx⟩ key = es ++ [⟨key, List.replicate m 0⟩] := by rw [hgrow.out, if_neg (by rw [hl.out]; exact hfull), hmt]
      replace hgrn := Lib.hid hgrn
      have hCb := ((hG46.below hB68 (by omega))).cell
      have hCa := ((hG46.below hB7 (by omega))).cell
      have hwd : ∀ e, (es ++ [Ent.mk key (List.replicate m 0)])[n]? = some e → f < e.v.length := by
        intro e he
        rw [List.getElem?_append_right (by rw [hl.out]; exact Nat.le_refl _), hl.out] at he
        simp at he
        subst he
        simp
        exact hfm
      have hTv : T = (⟨s, touch s.kind (updE (es ++ [Ent.mk key (List.replicate m 0)]) n f x) n, nx⟩, 0) := by
        rw [hTg.out, hgrn.out, hln]
        rfl
      replace hTv := Lib.hid hTv
      replace hwd := Lib.hid hwd
      have hmid : SetMid s w.heap.size w3.heap.size w nx f x T n g9 (n + 1) c9 (es ++ [Ent.mk key (List.replicate m 0)]) (us ++ [Value.slice (some ⟨w6.heap.size, 0, none⟩) m m]) W10 :=
        ⟨by omega, hln, by omega, hO9.box hG49 ho10 (by decide) (by decide), hG10, hG29.grown ho10 (by simp; omega), hb010, hO9.ne_box hG49 (by decide), hTv.out, hwd.out⟩
      replace hmid := Lib.hid hmid
      rcases hk1b : (s.kind == 1) with _ | _
      all_goals
        clear hO10 hP10 hO7 hP7 hO8 hP8
        go_wp2_with fail
        go_region_law (refine step_runApp rfl _ _ _ _ rfl rfl rfl hrun ?_)
        all_goals
          go_wp2_with fail
          go_meet
          exact ⟨n, g9, n + 1, c9, _, _, rfl, hmid⟩
    obtain ⟨g, rfl, hg1, hg2, _⟩ := hown.block (by omega)
    have hf1' : ((n : Int) == s.cap) = true := by simp [hfull]
    have hk1b : (s.kind == 1) = false := by simp; omega
    have hn16 : n ≤ 16 := by omega
    have hn1 : 1 ≤ n := by omega
    replace hfull := Lib.hid hfull
    have hsl := run_cut (P := prog) 24 39 2 underlying24 (by kernel_rfl) (some ⟨g, 0, none⟩) n n 1 1 rfl hn1
    obtain ⟨W61, hW61, ho61, hs61, hG461, hO1_, hP1_⟩ := storedB hG46 4 (.slice (cutA (some ⟨g, 0, none⟩) n 1 2) (n - 1) (n - 1))
    have hO61 := hO6.box hG46 ho61 (by decide) (by decide)
    have hG261 := hG26.grown ho61 (by simp; omega)
    have hC461 := hG461.cell
    have hF46 := hG46.frozen
    have hb061 := Only.below hb06 ho61 (by omega) (by omega)
    obtain ⟨W7, hW7, hB7, hS7, hG7, hO7, hP7⟩ := boxedB W61 _ hs61 (madeCells #[.int .u32 0] m) 25
    obtain ⟨W8, hW8, hB8, hS8, hG8, hO8, hP8⟩ := boxedB W7 _ hS7 #[.int .u32 (key : Int), .slice (some ⟨w6.heap.size, 0, none⟩) m m] 39
    have hB68 := hB7.trans (hB8.mono (Nat.le_succ _))
    have hown8 := hO61.below (hs61 ▸ hB68)
    have hG78 := hG7.below hB8 (Nat.lt_succ_self _)
    have hu8 := OwnW.made (base := w.heap.size + 1 + 1) hG78 (by omega) (by simp only [maxLen]; omega)
    have hC8 := hG8.cell
    obtain ⟨v9, w9, hrun, hO9, hg9⟩ := run_appCut (w := W8.drew) (e := ⟨key, List.replicate m 0⟩) (hown8.below (below_drewN (Below.refl _ _) 1)) hl.out (by omega) ⟨w6.heap.size + 1, 0, none⟩ ((hC8 0).trans rfl) (by rw [add_lit0]; exact (hC8 1).trans rfl)
      (hu8.below (below_drewN (Below.refl _ _) 1)) hk (fun i u' b hu' hb hb' => by
        have hil : i < es.length := by rw [← hO6.len]; exact (List.getElem?_eq_some_iff.1 hu').1
        have := ((hO6.val i _ u' (List.getElem?_eq_getElem hil) hu').1.row.lt b hb').2
        simp only [Value.ownBlock, Option.some.injEq] at hb
        omega) (by omega) (show w.heap.size + 1 + 1 ≤ W8.heap.size by omega)
    have hE9 := hO9.reads
    obtain ⟨A9, c9, rfl, _⟩ := hE9
    obtain ⟨g9, rfl, hg9b, hg9l, _⟩ := hO9.block (by simp)
    have hln : (es.drop 1 ++ [Ent.mk key (List.replicate m 0)]).length = n := by simp [hl.out]; omega
    rw [hln] at hrun hO9
    have hb4 : w3.heap.size < W8.heap.size := by omega
    have hG49 := ((hG461.below hB68 (by omega)).drew).grown hg9 (by simp)
    have hG29 := ((hG261.below hB68 (by omega)).drew).grown hg9 (by simp)
    have hC49 := hG49.cell
    have hF49 := hG49.frozen
    have hb09 : Below w.heap.size w w9 := (Below.drew (hb061.trans (hB68.mono (by omega)))).grown hg9 (show w.heap.size ≤ W8.heap.size by omega) (fun b hb => by cases hb)
    obtain ⟨W10, hW10, ho10, hs10, hG10, hO10, hP10⟩ := storedB hG49 4 (.slice (some ⟨g9, 0, none⟩) n c9)
    have hC10 := hG10.cell
    have hb010 := Only.below hb09 ho10 (by omega) (by have := hg9.size; simp at this; omega)
    have hgrn : Tab.grow ⟨s, es, nx⟩ key = es.drop 1 ++ [⟨key, List.replicate m 0⟩] := by rw [hgrow.out, if_pos (by rw [hl.out]; exact hfull.out), hmt]
    replace hgrn := Lib.hid hgrn
    have hCb := ((hG461.below hB68 (by omega))).cell
    have hCa := ((hG461.below hB7 (by omega))).cell
    have hwd : ∀ e, (es.drop 1 ++ [Ent.mk key (List.replicate m 0)])[n - 1]? = some e → f < e.v.length := by
      intro e he
      have hdl : (es.drop 1).length = n - 1 := by rw [List.length_drop, hl.out]
      rw [List.getElem?_append_right (by rw [hdl]; exact Nat.le_refl _), hdl, Nat.sub_self] at he
      simp at he
      subst he
      simp
      exact hfm
    have hTv : T = (⟨s, touch s.kind (updE (es.drop 1 ++ [Ent.mk key (List.replicate m 0)]) (n - 1) f x) (n - 1), nx⟩, 0) := by
      rw [hTg.out, hgrn.out, hln]
    replace hTv := Lib.hid hTv
    replace hwd := Lib.hid hwd
    have hmid : SetMid s w.heap.size w3.heap.size w nx f x T (n - 1) g9 n c9 (es.drop 1 ++ [Ent.mk key (List.replicate m 0)]) (us.drop 1 ++ [Value.slice (some ⟨w6.heap.size, 0, none⟩) m m]) W10 :=
      ⟨by omega, hln, by omega, hO9.box hG49 ho10 (by decide) (by decide), hG10, hG29.grown ho10 (by simp; omega), hb010, hO9.ne_box hG49 (by decide), hTv.out, hwd.out⟩
    replace hmid := Lib.hid hmid
    clear hO10 hP10 hO7 hP7 hO8 hP8 hO1_ hP1_
    go_wp2_with fail
    go_region_law (refine step_runApp rfl _ _ _ _ rfl rfl rfl hrun ?_)
    all_goals
      go_wp2_with fail
      go_meet
      exact ⟨n - 1, g9, n, c9, _, _, by rw [show ((n : Int) - 1) = ((n - 1 : Nat) : Int) by omega], hmid⟩
  case rest =>
    obtain ⟨i, g, n1, c1, es1, us1, rfl, hm⟩ := hcut
    have hC4c := hm.box.cell
    have hwc := hm.below
    have hgl : g < wc.heap.size := by
      obtain ⟨g', hg', _, hlt, _⟩ := hm.own.block (by have := hm.lt; omega)
      cases hg'
      exact hlt
    have hgb : w.heap.size + 1 + 1 ≤ g := by
      obtain ⟨g', hg', hlt, _⟩ := hm.own.block (by have := hm.lt; omega)
      cases hg'
      exact hlt
    have hbox := hm.box.lt
    have hres := hm.res
    have hne := hm.ne
    have hmO := Lib.hid hm.own
    have hil : i < es1.length := by rw [hm.len]; exact hm.lt
    have hiu : i < us1.length := by rw [hm.own.len]; exact hil
    obtain ⟨e, he⟩ : ∃ e, es1[i]? = some e := ⟨_, List.getElem?_eq_getElem hil⟩
    obtain ⟨u, hu⟩ : ∃ u, us1[i]? = some u := ⟨_, List.getElem?_eq_getElem hiu⟩
    have hfe := hm.word e he
    obtain ⟨y, hy⟩ : ∃ y, e.v[f]? = some y := ⟨_, List.getElem?_eq_getElem hfe⟩
    have hfl : (f : Int) < (e.v.length : Int) := by omega
    go_wp2_with fail
    refine (last_any s g n1 c1 nx i es1 us1 _ (w.heap.size + 1 + 1) hm.own hm.len hm.lt).mono ?_
    rintro e1 w7 ⟨rfl, ho7, hO7⟩
    have hs7 := ho7.size
    have hj0 := tpos_lt (kind := s.kind) hm.lt
    have he7 : (touch s.kind es1 i)[tpos s.kind n1 i]? = some e := by rw [← hm.len, touch_get hil, he]
    have hu7 : (touch s.kind us1 i)[tpos s.kind n1 i]? = some u := by rw [← hm.len, ← hm.own.len, touch_get hiu, hu]
    have hspec : touch s.kind (updE es1 i f x) i = (touch s.kind es1 i).set (tpos s.kind n1 i) { e with v := e.v.set f x } := by
      rw [← hm.len, touch_set hil]
      simp [updE, he]
    replace hspec := Lib.hid hspec
    obtain ⟨j, hj⟩ : ∃ j, tpos s.kind n1 i = j := ⟨_, rfl⟩
    rw [hj] at he7 hu7 hspec hj0 ⊢
    clear hj
    obtain ⟨c0, c1'⟩ := hO7.cells_ he7 hu7
    obtain ⟨hval, _⟩ := hO7.val j e u he7 hu7
    obtain ⟨gu, cu, rfl, hgu1, hgu2, hcu, hcw, hfz⟩ := hval.cells_ hy
    have hG47 := hm.box.grown ho7 (by simp; omega)
    have hG27 := hm.res.grown ho7 (by simp; omega)
    have hgu4 := hval.ne_blk hG47 (by decide)
    have hC47 := hG47.cell
    have hji : (j : Int) < (n1 : Int) := by omega
    have hO8 := hO7.setWord he7 hu7 hxx (f := f)
    obtain ⟨W8, hW8⟩ : ∃ W, w7.setCell ⟨gu, f, none⟩ (.int .u32 (x : Int)) = W := ⟨_, rfl⟩
    rw [hW8] at hO8
    have ho8 : Only gu w7 W8 := by rw [← hW8]; exact Only.setCell _ _ _ _
    have hs8 := ho8.size
    have hG48 := hG47.grown ho8 (by simp; omega)
    have hG28 := hG27.grown ho8 (by simp; omega)
    have hC48 := hG48.cell
    have hC28 := hG28.cell
    have hF28 := hG28.frozen
    have hr9 := hG28.setBox [.int .i64 s.kind, .int .i64 s.cap, .int .i64 s.words, .int .i64 s.ver, .slice (some ⟨g, 0, none⟩) n1 c1, .int .u32 (nx : Int)] rfl
    have ho9 := setAll_only (w.heap.size + 1) [.int .i64 s.kind, .int .i64 s.cap, .int .i64 s.words, .int .i64 s.ver, .slice (some ⟨g, 0, none⟩) n1 c1, .int .u32 (nx : Int)] 0 W8
    have hb9 := Only.below (Only.below (Only.below hm.below ho7 (by omega) (by have := hm.below.size; omega)) ho8 (by omega) (by have := hm.below.size; omega)) ho9 (by omega) (by have := hm.below.size; omega)
    have hO9 := (hO8.far ho9 (by omega)).mono (show w.heap.size ≤ w.heap.size + 1 + 1 by omega)
    have hsp := Lib.hid hm.spec
    clear he hu he7 hu7 hy hC4c c0
    clear hm
    go_wp2_with fail
    refine bodyPost_ret (results_ct results21 rfl hr9 underlying27 rfl (by kernel_rfl)) rfl ?_
    rw [hsp.out]
    refine ⟨some ⟨g, 0, none⟩, n1, c1, touch s.kind us1 i, rfl, ?_, hb9⟩
    simp only
    rw [hspec.out]
    exact hO9
end Go.Proofs.Ytpmnchgpbojppaa
