/- Packed texts: Row, Op, Zdrydocklaw06awake, ZslicesIndexuint32uint32, ZdeltaMay, ZslicesContainsuint32uint32, ZdeltaNote, ZdeltaOf, Zdrydocklaw19awake, Zdrydockref05All, Zdrydockref06Same. -/
import Derived.Test.YtpmnchgpbojppaaB4
import Derived.OpenShut
/- From a row's arguments to the abstract machine. -/
set_option linter.unusedVariables false
namespace Go.Proofs.Ytpmnchgpbojppaa
open Go Go.RowKit Go.Proofs.Try Go.WideShapes Go.ChangeShapes Go.Deep

set_option maxRecDepth 100000
def lawCx (w : World) : Cx := ⟨fun b => b < w.heap.size, fun _ _ => False, fun _ => none, fun _ => 0⟩
/-- A law of the abstract machine, as a call. -/
theorem Ctr.law {P : Program} {f : FuncId} {args : List AV} (h : Ctr P f args [] (.raw (.bool true)) []) {w : World} {vals : Array Value} (hsz : vals.size = args.length)
    (ha : ∀ (i : Nat) (u : AV), args[i]? = some u → VRel w (lawCx w) [] u (vals.getD i undef)) : Calls P f vals w fun e w' => e = .returned (.bool true) ∧ Below w.heap.size w w' := by
  have hH : HRel w (lawCx w) [] := ⟨fun b h => h, fun id o h => by simp [look] at h, fun id t sz g els g' h => by simp [look] at h, fun id t sz g els h => by simp [look] at h, fun id o b h => by simp [look] at h, fun id id' o o' b h => by simp [look] at h, fun id o h => by simp [look] at h⟩
  refine Calls.mono (h.2 w (lawCx w) vals hH (fun id g h => h.elim) hsz ha) ?_
  rintro e w' ⟨v, x', rfl, st, hv, _⟩
  exact ⟨by rw [hv.rawEq], st.tr.os, st.tr.tape, st.tr.output, st.tr.size, fun k hk => st.tr.keep k hk fun id o h => by simp [look] at h⟩
theorem VRels.of1 {w : World} {x : Cx} {hp : Hp} {l : List AV} {m : List Value} (h : VRels w x hp l m) : ∀ (i : Nat) (u : AV), l[i]? = some u → VRel w x hp u (m.toArray.getD i undef) := h.at_
theorem kW_dat {w : World} {f : Bool} {A : Option Addr} {n c : Nat} {xs : List Nat} (ht : f = true → c = n) (h : kW.At w w.heap.size A n c xs) : Dat w (fun b => b < w.heap.size) (.sl f (xs.map encW)) (.slice A n c) := by
  have hlen : (xs.map encW).length = n := by rw [List.length_map, h.len]
  have key := Dat.sl (w := w) (ok := fun b => b < w.heap.size) f (xs.map encW) A c 1 (fun i j => match A with | some ad => (w.cell? (ad.add (i * 1 + j))).getD undef | none => undef) (by rw [hlen]; exact h.le) h.cap (by rw [hlen]; exact ht) ?_ ?_ ?_ ?_
  · rw [hlen] at key
    exact key
  · intro i cs hi
    rw [List.getElem?_map] at hi
    obtain ⟨x, _, rfl⟩ := Option.map_eq_some_iff.1 hi
    rfl
  · intro i cs hi
    rw [List.getElem?_map] at hi
    obtain ⟨x, hx, rfl⟩ := Option.map_eq_some_iff.1 hi
    obtain ⟨ad, cs, e, hB, _⟩ := h.el i x hx
    exact ⟨ad, e, hB⟩
  · intro i j cs a hi hj ha
    rw [List.getElem?_map] at hi
    obtain ⟨x, hx, rfl⟩ := Option.map_eq_some_iff.1 hi
    obtain ⟨ad, cs, e, hB, hc, rfl, _⟩ := h.el i x hx
    rw [e] at ha
    injection ha with ha
    subst ha
    subst e
    have : j = 0 := by omega
    subst this
    have h0 : w.cell? (ad.add (i * 1 + 0)) = some (.int .u32 (x : Int)) := hc 0 _ rfl
    simp only [h0, Option.getD_some]
    exact ⟨trivial, rfl⟩
  · intro i j cs u hi hu
    rw [List.getElem?_map] at hi
    obtain ⟨x, hx, rfl⟩ := Option.map_eq_some_iff.1 hi
    obtain ⟨ad, cs, e, hB, hc, rfl, _⟩ := h.el i x hx
    subst e
    match j, hu with
    | 0, hu =>
      simp only [encW, List.getElem?_cons_zero, Option.some.injEq] at hu
      subst hu
      have h0 : w.cell? (ad.add (i * 1 + 0)) = some (.int .u32 (x : Int)) := hc 0 _ rfl
      simp only [h0, Option.getD_some]
      exact .raw _
    | j + 1, hu => simp [encW] at hu
theorem kEnt_dat {w : World} {f : Bool} {A : Option Addr} {n c : Nat} {es : List Ent} (ht : f = true → c = n) (h : kEnt.At w w.heap.size A n c es) : Dat w (fun b => b < w.heap.size) (.sl f (es.map encEnt)) (.slice A n c) := by
  have hlen : (es.map encEnt).length = n := by rw [List.length_map, h.len]
  have key := Dat.sl (w := w) (ok := fun b => b < w.heap.size) f (es.map encEnt) A c 2 (fun i j => match A with | some ad => (w.cell? (ad.add (i * 2 + j))).getD undef | none => undef) (by rw [hlen]; exact h.le) h.cap (by rw [hlen]; exact ht) ?_ ?_ ?_ ?_
  · rw [hlen] at key
    exact key
  · intro i cs hi
    rw [List.getElem?_map] at hi
    obtain ⟨x, _, rfl⟩ := Option.map_eq_some_iff.1 hi
    rfl
  · intro i cs hi
    rw [List.getElem?_map] at hi
    obtain ⟨x, hx, rfl⟩ := Option.map_eq_some_iff.1 hi
    obtain ⟨ad, cs, e, hB, _⟩ := h.el i x hx
    exact ⟨ad, e, hB⟩
  · intro i j cs a hi hj ha
    rw [List.getElem?_map] at hi
    obtain ⟨x, hx, rfl⟩ := Option.map_eq_some_iff.1 hi
    obtain ⟨ad, cs, e, hB, hc, A', n', c', rfl, _, _⟩ := h.el i x hx
    rw [e] at ha
    injection ha with ha
    subst ha
    subst e
    have hj : j = 0 ∨ j = 1 := by omega
    rcases hj with rfl | rfl
    · have h0 : w.cell? (ad.add (i * 2 + 0)) = some (.int .u32 (x.key : Int)) := hc 0 _ rfl
      simp only [h0, Option.getD_some]
      exact ⟨trivial, rfl⟩
    · have h0 : w.cell? (ad.add (i * 2 + 1)) = some (.slice A' n' c') := hc 1 _ rfl
      simp only [h0, Option.getD_some]
      exact ⟨trivial, rfl⟩
  · intro i j cs u hi hu
    rw [List.getElem?_map] at hi
    obtain ⟨x, hx, rfl⟩ := Option.map_eq_some_iff.1 hi
    obtain ⟨ad, cs, e, hB, hc, A', n', c', rfl, _, hin⟩ := h.el i x hx
    subst e
    match j, hu with
    | 0, hu =>
      simp only [encEnt, List.getElem?_cons_zero, Option.some.injEq] at hu
      subst hu
      have h0 : w.cell? (ad.add (i * 2 + 0)) = some (.int .u32 (x.key : Int)) := hc 0 _ rfl
      simp only [h0, Option.getD_some]
      exact .raw _
    | 1, hu =>
      simp only [encEnt, List.getElem?_cons_succ, List.getElem?_cons_zero, Option.some.injEq] at hu
      subst hu
      have h0 : w.cell? (ad.add (i * 2 + 1)) = some (.slice A' n' c') := hc 1 _ rfl
      simp only [h0, Option.getD_some]
      exact kW_dat (by intro h; cases h) hin
    | j + 2, hu => simp [encEnt] at hu
theorem okEs_of {w : World} {B : Nat} {A : Option Addr} {n c : Nat} {es : List Ent} (h : kEnt.At w B A n c es) : okEs es := by
  intro e he
  obtain ⟨i, hi⟩ := List.mem_iff_getElem?.1 he
  obtain ⟨ad, cs, _, _, _, A', n', c', _, hk, hin⟩ := h.el i e hi
  refine ⟨hk, fun y hy => ?_⟩
  obtain ⟨j, hj⟩ := List.mem_iff_getElem?.1 hy
  obtain ⟨_, _, _, _, _, _, h2⟩ := hin.el j y hj
  exact h2
theorem lt32_of {w : World} {B : Nat} {A : Option Addr} {n c : Nat} {xs : List Nat} (h : kW.At w B A n c xs) : lt32 xs := by
  intro y hy
  obtain ⟨j, hj⟩ := List.mem_iff_getElem?.1 hy
  obtain ⟨_, _, _, _, _, _, h2⟩ := h.el j y hj
  exact h2
theorem tab_rel {w : World} {s : Sch} {A : Option Addr} {n c nx : Nat} {es : List Ent} (h : kEnt.At w w.heap.size A n c es) : VRel w (lawCx w) [] (avTab false ⟨s, es, nx⟩) (tabV s A n c nx) :=
  avTab_ofs rfl rfl (kEnt_dat (by intro h; cases h) h)
section
variable {H : Type} {enc : TypeId × Value → H} {w : World} {base : Nat} {spare : Nat → Bool} {held : Bool}
theorem open_words {v : Value} {d : DataW H} {p : List MemPlace} {r : Reach} {b0 : Nat} (hv : Value.okWide prog w r b0 36 v) (h : DataW.Trod enc prog w base spare held 36 v d p) : ∃ A n c xs, v = .slice A n c ∧ kW.At w w.heap.size A n c xs := by
  obtain ⟨a, len, cap, rfl⟩ := okWide_slice underlying36 hv
  obtain ⟨fuel, hf⟩ := h
  obtain ⟨A, n, c, xs, hc, hat⟩ := kW.of_trod hf
  injection hc with hc
  injection hc with e1 e2 e3
  subst e1
  subst e2
  subst e3
  exact ⟨_, _, _, xs, rfl, hat⟩
theorem open_i64 {v : Value} {d : DataW H} {p : List MemPlace} {r : Reach} {b0 : Nat} (hv : Value.okWide prog w r b0 3 v) (h : DataW.Trod enc prog w base spare held 3 v d p) : ∃ x : Int, v = .int .i64 x ∧ i64ok x := by
  obtain ⟨z, rfl, _, _, hw⟩ := open_int underlying3 hv h
  exact ⟨z, rfl, i64ok_of hw⟩
end
end Go.Proofs.Ytpmnchgpbojppaa

/- The rows' arguments, of whatever plain type: data read as it is. -/
set_option linter.unusedVariables false
namespace Go.Proofs.Ytpmnchgpbojppaa
open Go Go.RowKit Go.Proofs.Try Go.WideShapes Go.ChangeShapes Go.Deep

inductive DRels (w : World) (ok : Nat → Prop) : List AV → List Value → Prop where
  | nil : DRels w ok [] []
  | cons {u v l m} (h : Dat w ok u v) (h1 : v.oneCell' = true) (r : DRels w ok l m) : DRels w ok (u :: l) (v :: m)
section
variable {w : World} {ok : Nat → Prop}
theorem DRels.len {l : List AV} {m : List Value} (h : DRels w ok l m) : m.length = l.length := by
  induction h with
  | nil => rfl
  | cons _ _ _ ih => simp [ih]
theorem DRels.app {l l' : List AV} {m m' : List Value} (h : DRels w ok l m) (h' : DRels w ok l' m') : DRels w ok (l ++ l') (m ++ m') := by
  induction h with
  | nil => exact h'
  | cons a b _ ih => exact .cons a b ih
theorem DRels.at_ {l : List AV} {m : List Value} (h : DRels w ok l m) : ∀ (i : Nat) (u : AV), l[i]? = some u → Dat w ok u (m.getD i undef) ∧ (m.getD i undef).oneCell' = true := by
  induction h with
  | nil => intro i u h; simp at h
  | cons a b _ ih =>
    intro i u h
    cases i with
    | zero => simp at h; subst h; exact ⟨a, b⟩
    | succ i => simpa using ih i u (by simpa using h)
/-- Parts of a list, one behind the other. -/
theorem DRels.cat {l l' : List AV} {cs : List Value} {o s s' : Nat} (h : DRels w ok l ((cs.drop o).take s)) (h' : DRels w ok l' ((cs.drop (o + s)).take s')) : DRels w ok (l ++ l') ((cs.drop o).take (s + s')) := by
  have e : (cs.drop o).take (s + s') = (cs.drop o).take s ++ (cs.drop (o + s)).take s' := by
    rw [List.take_add, List.drop_drop]
  rw [e]
  exact h.app h'
end
def okW (w : World) : Nat → Prop := fun b => b < w.heap.size
section
variable {H : Type} {enc : TypeId × Value → H} {w : World} {base : Nat} {spare : Nat → Bool} {held : Bool} {t e : TypeId} {fuel : Nat} {cs : List Value} {x : DataW H × List MemPlace}
theorem oU32 (ht : prog.underlying t = some (.int .u32)) (h : DataW.trod enc prog w base spare held fuel t cs = some x) : ∃ a : UInt32, DRels w (okW w) (encU32 a) cs := by
  obtain ⟨z, rfl, _, hw⟩ := DataW.trod_int ht h
  obtain ⟨m, rfl, hm⟩ := u32_of hw
  refine ⟨UInt32.ofNat m, .cons ?_ rfl .nil⟩
  have : (UInt32.ofNat m).toNat = m := Nat.mod_eq_of_lt hm
  rw [this]
  exact .raw _
theorem oI64 (ht : prog.underlying t = some (.int .i64)) (h : DataW.trod enc prog w base spare held fuel t cs = some x) : ∃ a : Int, DRels w (okW w) (encI64 a) cs := by
  obtain ⟨z, rfl, _, hw⟩ := DataW.trod_int ht h
  exact ⟨z, .cons (.raw _) rfl .nil⟩
theorem oSl {α : Type} {f : α → List AV} {sz : Nat} (ht : prog.underlying t = some (.slice e)) (hsz : prog.cellsOf e = sz) (hpos : 0 < sz) (hl : ∀ a, (f a).length = sz)
    (hel : ∀ n cs' y, DataW.trod enc prog w base spare held n e cs' = some y → ∃ a, DRels w (okW w) (f a) cs') (h : DataW.trod enc prog w base spare held fuel t cs = some x) : ∃ l : List α, DRels w (okW w) [.sl false (l.map f)] cs := by
  rcases open_slice ht h with ⟨rfl, _⟩ | ⟨a, len, cap, m, n, D, Pl, rfl, hb, hle, hm, hmm, hx, hi⟩
  · exact ⟨[], .cons (Dat.nil _ _) rfl .nil⟩
  · have hlm : len ≤ m := by rw [hmm]; split <;> omega
    obtain ⟨xs, hxl, hxs⟩ := choose_list (p := fun i v => ∃ cs', w.cells? base (a.add (i * prog.cellsOf e)) (prog.cellsOf e) = some cs' ∧ DRels w (okW w) (f v) cs') len (fun i hil => by
      obtain ⟨cs', hc, ht'⟩ := hi i (by omega)
      obtain ⟨x, hx⟩ := hel _ _ _ ht'
      exact ⟨x, cs', hc, hx⟩)
    have hlen : (xs.map f).length = len := by rw [List.length_map, hxl]
    have cell : ∀ (i : Nat) (v : α), xs[i]? = some v → ∃ cs' : List Value, DRels w (okW w) (f v) cs' ∧ cs'.length = sz ∧ ∀ j, j < sz → w.cell? (a.add (i * sz + j)) = cs'[j]? := fun i v hv => by
      obtain ⟨cs', hc, hk⟩ := hxs i v hv
      obtain ⟨_, hl', hat⟩ := World.cells?_some hc
      refine ⟨cs', hk, by rw [hl', hsz], fun j hj => ?_⟩
      have := hat j (by rw [hsz]; exact hj)
      rw [hsz, av_add_add] at this
      exact this
    have key := Dat.sl (w := w) (ok := okW w) false (xs.map f) (some a) cap sz (fun i j => (w.cell? (a.add (i * sz + j))).getD undef) (by rw [hlen]; exact hle) hm (by intro h; cases h) ?_ ?_ ?_ ?_
    · rw [hlen] at key
      exact ⟨xs, .cons key rfl .nil⟩
    · intro i cs0 h0
      obtain ⟨v, _, rfl⟩ := map_at h0
      exact hl v
    · intro i cs0 h0
      obtain ⟨v, hv, rfl⟩ := map_at h0
      refine ⟨a, rfl, ?_⟩
      obtain ⟨cs', hk, hl', hat⟩ := cell i v hv
      have h1 := hat 0 hpos
      have h2 : 0 < cs'.length := by omega
      rw [List.getElem?_eq_getElem h2] at h1
      have := World.block_lt_of_cell? w _ h1
      rw [av_add_block] at this
      exact this
    · intro i j cs0 a' h0 hj ha'
      injection ha' with ha'
      subst ha'
      obtain ⟨v, hv, rfl⟩ := map_at h0
      obtain ⟨cs', hk, hl', hat⟩ := cell i v hv
      have h1 := hat j hj
      have h2 : j < cs'.length := by omega
      rw [List.getElem?_eq_getElem h2] at h1
      rw [h1]
      refine ⟨rfl, ?_⟩
      have h3 : j < (f v).length := by rw [hl]; exact hj
      have := (hk.at_ j _ (List.getElem?_eq_getElem h3)).2
      simpa [List.getD_eq_getElem?_getD, List.getElem?_eq_getElem h2] using this
    · intro i j cs0 u h0 hu
      obtain ⟨v, hv, rfl⟩ := map_at h0
      obtain ⟨cs', hk, hl', hat⟩ := cell i v hv
      have h3 := lt_of_get hu
      rw [hl] at h3
      rw [hat j h3]
      have := (hk.at_ j u hu).1
      simpa [List.getD_eq_getElem?_getD] using this
theorem oBool (ht : prog.underlying t = some .bool) (h : DataW.trod enc prog w base spare held fuel t cs = some x) : ∃ a : Bool, DRels w (okW w) (encBool a) cs := by
  obtain ⟨z, rfl, _⟩ := DataW.trod_bool ht h
  exact ⟨z, .cons (.raw _) rfl .nil⟩
theorem full {cs : List Value} {n : Nat} (h : cs.length = n) : (cs.drop 0).take n = cs := by
  rw [List.drop_zero, List.take_of_length_le (by omega)]
/-! Arguments. -/
theorem arg_agg {us : List AV} {vs : Array Value} (h : DRels w (okW w) us vs.toList) : VRel w (lawCx w) [] (.agg us) (.agg vs) := by
  have hl := h.len
  refine .agg us vs (by simpa using hl) (fun i hi => ?_) (fun i u hu => ?_)
  · have hi' : i < us.length := by rw [← hl]; simpa using hi
    have := (h.at_ i _ (List.getElem?_eq_getElem hi')).2
    simpa using this
  · have := (h.at_ i u hu).1
    exact .dat (show Dat w (okW w) u _ from by simpa using this)
theorem arg_one {u : AV} {v : Value} (h : DRels w (okW w) [u] [v]) : VRel w (lawCx w) [] u v := by
  cases h with
  | cons h _ _ => exact .dat h
theorem okWide_arr {P : Program} {w : World} {r : Reach} {base : Nat} {t n e : TypeId} {v : Value} (ht : P.underlying t = some (.array n e)) (h : Value.okWide P w r base t v) : ∃ cs, v = .agg cs := by
  simp only [Value.okWide, ht] at h
  obtain ⟨cs, h1, _⟩ := h
  exact ⟨cs, h1⟩
end
end Go.Proofs.Ytpmnchgpbojppaa

/- The plain function of drydock/drydocklaw06.awake. -/
set_option linter.unusedVariables false
set_option linter.unusedSimpArgs false
namespace Go.Proofs.Ytpmnchgpbojppaa
open Go Go.RowKit Go.Proofs.Try
noncomputable def p_drydocklaw06_awake_J4 (i_1 : Bool) : Option (Bool) :=
  some i_1
noncomputable def p_drydocklaw06_awake : Option (Bool) :=
  po (p_table_New (T_Schema.mk 1 2 1 0)) fun r1 =>
  po (p_helper_Call 1 (T_Env.mk (A4.mk 0 0 0 0) ([r1.1]) 0) ([0, 5, 0, 7])) fun r2 =>
  po (p_helper_Call 0 r2.1 ([0, 5, 0])) fun r3 =>
  po (
  cond (r1.2 == 0) (
  cond (r2.2.2 == 0) (
  cond (r3.2.2 == 0) (
  cond ((r2.2.1.toNat : Int) == 0) (
  cond ((r3.2.1.toNat : Int) == 7) (
  cond ((r3.1.T.length : Int) == 1) (
  po (p_helper_Draw 0) fun r11 =>
  cond ((r11.toNat : Int) == 1013904223) (
  po (p_helper_Args 1) fun r13 =>
  some (r13 == 4)) (
  some false)) (
  some false)) (
  some false)) (
  some false)) (
  some false)) (
  some false)) (
  some false)) (fun x => p_drydocklaw06_awake_J4 x)
set_option maxHeartbeats 4000000 in
set_option maxRecDepth 100000 in
theorem c_drydocklaw06_awake {r : Bool} (h : p_drydocklaw06_awake = some r) : Ctr prog 39 [] [] (.raw (.bool r)) [] := by
  unfold p_drydocklaw06_awake at h
  refine Ctr.ofW tabOk func39 rfl call39 0 _ ntmps39 [.tmp 0] rfl rfl rfl (fun B => ?_)
  refine VC.seqF tabOkF [some 0] [] rfl rfl (fun K hK => ?_)
  push_cast
  repeat (refine And.intro (by omega) ?_)
  refine hK _ ?_
  clear hK K
  obtain ⟨r1, hr1, h⟩ := po_some h
  refine VC.seqF tabOkF [some 9, some 10, some 8, some 11, some 12, some 1, none, some 2] [1, 2] rfl rfl (fun K hK => ?_)
  push_cast
  repeat (refine And.intro (by omega) ?_)
  refine callP (Ctr.lo (c_table_New (T_Schema.mk 1 2 1 0) hr1)) rfl ?_
  push_cast
  repeat (refine And.intro (by omega) ?_)
  refine hK _ ?_
  clear hK K
  refine VC.seqF tabOkF [some 13, some 14, some 15, some 3, none] [2, 3] rfl rfl (fun K hK => ?_)
  push_cast
  repeat (refine And.intro (by omega) ?_)
  refine hK _ ?_
  clear hK K
  refine VC.sub (s' := ⟨[(2, .raw (.int .i64 r1.2)), (3, .ref 12 0)], [(10, .row 27 6 0 (([r1.1]).map enc_Table)), (12, .box 55 [.raw (.int .u32 0), .raw (.int .u32 0), .raw (.int .u32 0), .raw (.int .u32 0), .row 10 0 6 0 1, .raw (.int .u32 0)])], 14, 62, 0⟩) (Sub.of ?_ ?_ ⟨rfl, rfl, Nat.le_of_ble_eq_true rfl⟩ rfl) ?_
  · push_cast
  · push_cast
  refine VC.sub (Sub.freeze prog (b := 12) (j := 4) rfl rfl rfl (by push_cast <;> omega) (by decide)) ?_
  refine VC.sub (s' := ⟨[(2, .raw (.int .i64 r1.2)), (3, .ref 12 0)], [(12, .box 55 [.raw (.int .u32 0), .raw (.int .u32 0), .raw (.int .u32 0), .raw (.int .u32 0), .sl false (([r1.1]).map enc_Table), .raw (.int .u32 0)])], 14, 62, 0⟩) (Sub.of ?_ ?_ ⟨rfl, rfl, Nat.le_of_ble_eq_true rfl⟩ rfl) ?_
  · push_cast
  · push_cast
  obtain ⟨r2, hr2, h⟩ := po_some h
  refine VC.seqF tabOkF [some 17, some 18, some 19, some 16, some 20, some 21, some 22, none, some 4, some 5] [2, 3, 4, 5] rfl rfl (fun K hK => ?_)
  push_cast
  repeat (refine And.intro (by omega) ?_)
  refine callH (H := [(15, .row 25 1 0 (([0, 5, 0, 7]).map encU32))]) (Ctr.consume (args0 := [.raw (.int .i64 1), .agg [.raw (.int .u32 0), .raw (.int .u32 0), .raw (.int .u32 0), .raw (.int .u32 0), .sl false (([r1.1]).map enc_Table), .raw (.int .u32 0)], .sl false (([0, 5, 0, 7]).map encU32)]) (Ctr.ren (Bij.swp 0 16 Bij.id) (c_helper_Call 1 (T_Env.mk (A4.mk 0 0 0 0) ([r1.1]) 0) ([0, 5, 0, 7]) hr2) (by push_cast) (by push_cast)) (by push_cast) rfl) (by push_cast) rfl rfl rfl ?_
  push_cast
  repeat (refine And.intro (by omega) ?_)
  refine hK _ ?_
  clear hK K
  refine VC.sub (s' := ⟨[(2, .raw (.int .i64 r1.2)), (3, .ref 12 0), (4, .raw (.int .u32 (r2.2.1.toNat : Int))), (5, .raw (.int .i64 r2.2.2))], [(12, .box 55 [.raw (.int .u32 (r2.1.Ctx.a0.toNat : Int)), .raw (.int .u32 (r2.1.Ctx.a1.toNat : Int)), .raw (.int .u32 (r2.1.Ctx.a2.toNat : Int)), .raw (.int .u32 (r2.1.Ctx.a3.toNat : Int)), .row 16 0 6 0 r2.1.T.length, .raw (.int .u32 (r2.1.Seed.toNat : Int))]), (16, .row 27 6 0 (r2.1.T.map enc_Table))], 24, 62, 0⟩) (Sub.of ?_ ?_ ⟨rfl, rfl, Nat.le_of_ble_eq_true rfl⟩ rfl) ?_
  · push_cast
  · push_cast
  refine VC.sub (Sub.freeze prog (b := 12) (j := 4) rfl rfl rfl (by push_cast <;> omega) (by decide)) ?_
  refine VC.sub (s' := ⟨[(2, .raw (.int .i64 r1.2)), (3, .ref 12 0), (4, .raw (.int .u32 (r2.2.1.toNat : Int))), (5, .raw (.int .i64 r2.2.2))], [(12, .box 55 [.raw (.int .u32 (r2.1.Ctx.a0.toNat : Int)), .raw (.int .u32 (r2.1.Ctx.a1.toNat : Int)), .raw (.int .u32 (r2.1.Ctx.a2.toNat : Int)), .raw (.int .u32 (r2.1.Ctx.a3.toNat : Int)), .sl false (r2.1.T.map enc_Table), .raw (.int .u32 (r2.1.Seed.toNat : Int))])], 24, 62, 0⟩) (Sub.of ?_ ?_ ⟨rfl, rfl, Nat.le_of_ble_eq_true rfl⟩ rfl) ?_
  · push_cast
  · push_cast
  obtain ⟨r3, hr3, h⟩ := po_some h
  refine VC.seqF tabOkF [some 24, some 25, some 26, some 23, some 27, some 28, some 29, none, some 6, some 7] [2, 3, 4, 5, 6, 7] rfl rfl (fun K hK => ?_)
  push_cast
  repeat (refine And.intro (by omega) ?_)
  refine callH (H := [(25, .row 25 1 0 (([0, 5, 0]).map encU32))]) (Ctr.consume (args0 := [.raw (.int .i64 0), .agg [.raw (.int .u32 (r2.1.Ctx.a0.toNat : Int)), .raw (.int .u32 (r2.1.Ctx.a1.toNat : Int)), .raw (.int .u32 (r2.1.Ctx.a2.toNat : Int)), .raw (.int .u32 (r2.1.Ctx.a3.toNat : Int)), .sl false (r2.1.T.map enc_Table), .raw (.int .u32 (r2.1.Seed.toNat : Int))], .sl false (([0, 5, 0]).map encU32)]) (Ctr.ren (Bij.swp 0 26 Bij.id) (c_helper_Call 0 r2.1 ([0, 5, 0]) hr3) (by push_cast) (by push_cast)) (by push_cast) rfl) (by push_cast) rfl rfl rfl ?_
  push_cast
  repeat (refine And.intro (by omega) ?_)
  refine hK _ ?_
  clear hK K
  refine VC.sub (s' := ⟨[(2, .raw (.int .i64 r1.2)), (3, .ref 12 0), (4, .raw (.int .u32 (r2.2.1.toNat : Int))), (5, .raw (.int .i64 r2.2.2)), (6, .raw (.int .u32 (r3.2.1.toNat : Int))), (7, .raw (.int .i64 r3.2.2))], [(12, .box 55 [.raw (.int .u32 (r3.1.Ctx.a0.toNat : Int)), .raw (.int .u32 (r3.1.Ctx.a1.toNat : Int)), .raw (.int .u32 (r3.1.Ctx.a2.toNat : Int)), .raw (.int .u32 (r3.1.Ctx.a3.toNat : Int)), .row 26 0 6 0 r3.1.T.length, .raw (.int .u32 (r3.1.Seed.toNat : Int))]), (26, .row 27 6 0 (r3.1.T.map enc_Table))], 34, 62, 0⟩) (Sub.of ?_ ?_ ⟨rfl, rfl, Nat.le_of_ble_eq_true rfl⟩ rfl) ?_
  · push_cast
  · push_cast
  obtain ⟨v4, h, hk4⟩ := po_some h
  refine VC.seqJ (X := Bool) (fun x => p_drydocklaw06_awake_J4 x = some r) (fun x => ⟨[(0, .raw (.bool x))], [], 67, 62, 0⟩) ?_ ?_
  · rcases Bool.eq_false_or_eq_true (r1.2 == 0) with hb5 | hb5
    · replace h := cond_yes hb5 h
      rcases Bool.eq_false_or_eq_true (r2.2.2 == 0) with hb6 | hb6
      · replace h := cond_yes hb6 h
        rcases Bool.eq_false_or_eq_true (r3.2.2 == 0) with hb7 | hb7
        · replace h := cond_yes hb7 h
          rcases Bool.eq_false_or_eq_true ((r2.2.1.toNat : Int) == 0) with hb8 | hb8
          · replace h := cond_yes hb8 h
            rcases Bool.eq_false_or_eq_true ((r3.2.1.toNat : Int) == 7) with hb9 | hb9
            · replace h := cond_yes hb9 h
              rcases Bool.eq_false_or_eq_true ((r3.1.T.length : Int) == 1) with hb10 | hb10
              · replace h := cond_yes hb10 h
                obtain ⟨r11, hr11, h⟩ := po_some h
                rcases Bool.eq_false_or_eq_true ((r11.toNat : Int) == 1013904223) with hb12 | hb12
                · replace h := cond_yes hb12 h
                  obtain ⟨r13, hr13, h⟩ := po_some h
                  refine VC.lastF tabOkF [some 30, some 31, some 32, some 33, some 34, some 35, some 36, some 37, some 38, some 39, some 40, some 41, some 42, some 43, some 44, some 45, some 46, some 47, some 48, some 49, some 50, some 51, some 52, some 53, some 54, some 55, some 56, some 57, some 58, some 59, some 60, some 61, some 0] rfl rfl (fun K hK => ?_)
                  refine runOps_cut 8 (fun K2 hK2 => ?_)
                  push_cast [hb5, hb6, hb7, hb8, hb9, hb10, hb12]
                  repeat (refine And.intro (by omega) ?_)
                  refine hK2 _ _ ?_
                  clear hK2 K2
                  simp only [List.drop_succ_cons, List.drop_zero]
                  refine runOps_cut 8 (fun K2 hK2 => ?_)
                  push_cast [hb5, hb6, hb7, hb8, hb9, hb10, hb12]
                  repeat (refine And.intro (by omega) ?_)
                  refine hK2 _ _ ?_
                  clear hK2 K2
                  simp only [List.drop_succ_cons, List.drop_zero]
                  refine runOps_cut 8 (fun K2 hK2 => ?_)
                  push_cast [hb5, hb6, hb7, hb8, hb9, hb10, hb12]
                  repeat (refine And.intro (by omega) ?_)
                  refine hK2 _ _ ?_
                  clear hK2 K2
                  simp only [List.drop_succ_cons, List.drop_zero]
                  push_cast [hb5, hb6, hb7, hb8, hb9, hb10, hb12]
                  repeat (refine And.intro (by omega) ?_)
                  refine callP (Ctr.lo (c_helper_Draw 0 hr11)) rfl ?_
                  push_cast [hb5, hb6, hb7, hb8, hb9, hb10, hb12]
                  repeat (refine And.intro (by omega) ?_)
                  refine callP (Ctr.lo (c_helper_Args 1 hr13)) rfl ?_
                  push_cast [hb5, hb6, hb7, hb8, hb9, hb10, hb12]
                  repeat (refine And.intro (by omega) ?_)
                  refine hK _ ?_
                  clear hK K
                  have hv := Option.some.inj h
                  rw [← hv] at hk4
                  refine Exists.intro ((r13 == 4)) (And.intro hk4 ?_)
                  refine Sub.trans (Sub.lo _) ?_
                  refine Sub.of ?_ ?_ ⟨rfl, rfl, Nat.le_of_ble_eq_true rfl⟩ rfl
                  · push_cast [hb5, hb6, hb7, hb8, hb9, hb10, hb12]
                  · push_cast [hb5, hb6, hb7, hb8, hb9, hb10, hb12]
                · replace h := cond_no hb12 h
                  refine VC.lastF tabOkF [some 30, some 31, some 32, some 33, some 34, some 35, some 36, some 37, some 38, some 39, some 40, some 41, some 42, some 43, some 44, some 45, some 46, some 47, some 48, some 49, some 50, some 51, some 52, some 53, some 54, some 55, some 56, some 57, some 58, some 59, some 60, some 61, some 0] rfl rfl (fun K hK => ?_)
                  refine runOps_cut 8 (fun K2 hK2 => ?_)
                  push_cast [hb5, hb6, hb7, hb8, hb9, hb10, hb12]
                  repeat (refine And.intro (by omega) ?_)
                  refine hK2 _ _ ?_
                  clear hK2 K2
                  simp only [List.drop_succ_cons, List.drop_zero]
                  refine runOps_cut 8 (fun K2 hK2 => ?_)
                  push_cast [hb5, hb6, hb7, hb8, hb9, hb10, hb12]
                  repeat (refine And.intro (by omega) ?_)
                  refine hK2 _ _ ?_
                  clear hK2 K2
                  simp only [List.drop_succ_cons, List.drop_zero]
                  refine runOps_cut 8 (fun K2 hK2 => ?_)
                  push_cast [hb5, hb6, hb7, hb8, hb9, hb10, hb12]
                  repeat (refine And.intro (by omega) ?_)
                  refine hK2 _ _ ?_
                  clear hK2 K2
                  simp only [List.drop_succ_cons, List.drop_zero]
                  push_cast [hb5, hb6, hb7, hb8, hb9, hb10, hb12]
                  repeat (refine And.intro (by omega) ?_)
                  refine callP (Ctr.lo (c_helper_Draw 0 hr11)) rfl ?_
                  push_cast [hb5, hb6, hb7, hb8, hb9, hb10, hb12]
                  repeat (refine And.intro (by omega) ?_)
                  refine hK _ ?_
                  clear hK K
                  have hv := Option.some.inj h
                  rw [← hv] at hk4
                  refine Exists.intro (false) (And.intro hk4 ?_)
                  refine Sub.trans (Sub.lo _) ?_
                  refine Sub.of ?_ ?_ ⟨rfl, rfl, Nat.le_of_ble_eq_true rfl⟩ rfl
                  · push_cast [hb5, hb6, hb7, hb8, hb9, hb10, hb12]
                  · push_cast [hb5, hb6, hb7, hb8, hb9, hb10, hb12]
              · replace h := cond_no hb10 h
                refine VC.lastF tabOkF [some 30, some 31, some 32, some 33, some 34, some 35, some 36, some 37, some 38, some 39, some 40, some 41, some 42, some 43, some 44, some 45, some 46, some 47, some 48, some 49, some 50, some 51, some 52, some 53, some 54, some 55, some 56, some 57, some 58, some 59, some 60, some 61, some 0] rfl rfl (fun K hK => ?_)
                refine runOps_cut 8 (fun K2 hK2 => ?_)
                push_cast [hb5, hb6, hb7, hb8, hb9, hb10]
                repeat (refine And.intro (by omega) ?_)
                refine hK2 _ _ ?_
                clear hK2 K2
                simp only [List.drop_succ_cons, List.drop_zero]
                refine runOps_cut 8 (fun K2 hK2 => ?_)
                push_cast [hb5, hb6, hb7, hb8, hb9, hb10]
                repeat (refine And.intro (by omega) ?_)
                refine hK2 _ _ ?_
                clear hK2 K2
                simp only [List.drop_succ_cons, List.drop_zero]
                refine runOps_cut 8 (fun K2 hK2 => ?_)
                push_cast [hb5, hb6, hb7, hb8, hb9, hb10]
                repeat (refine And.intro (by omega) ?_)
                refine hK2 _ _ ?_
                clear hK2 K2
                simp only [List.drop_succ_cons, List.drop_zero]
                push_cast [hb5, hb6, hb7, hb8, hb9, hb10]
                repeat (refine And.intro (by omega) ?_)
                refine hK _ ?_
                clear hK K
                have hv := Option.some.inj h
                rw [← hv] at hk4
                refine Exists.intro (false) (And.intro hk4 ?_)
                refine Sub.trans (Sub.lo _) ?_
                refine Sub.of ?_ ?_ ⟨rfl, rfl, Nat.le_of_ble_eq_true rfl⟩ rfl
                · push_cast [hb5, hb6, hb7, hb8, hb9, hb10]
                · push_cast [hb5, hb6, hb7, hb8, hb9, hb10]
            · replace h := cond_no hb9 h
              refine VC.lastF tabOkF [some 30, some 31, some 32, some 33, some 34, some 35, some 36, some 37, some 38, some 39, some 40, some 41, some 42, some 43, some 44, some 45, some 46, some 47, some 48, some 49, some 50, some 51, some 52, some 53, some 54, some 55, some 56, some 57, some 58, some 59, some 60, some 61, some 0] rfl rfl (fun K hK => ?_)
              refine runOps_cut 8 (fun K2 hK2 => ?_)
              push_cast [hb5, hb6, hb7, hb8, hb9]
              repeat (refine And.intro (by omega) ?_)
              refine hK2 _ _ ?_
              clear hK2 K2
              simp only [List.drop_succ_cons, List.drop_zero]
              refine runOps_cut 8 (fun K2 hK2 => ?_)
              push_cast [hb5, hb6, hb7, hb8, hb9]
              repeat (refine And.intro (by omega) ?_)
              refine hK2 _ _ ?_
              clear hK2 K2
              simp only [List.drop_succ_cons, List.drop_zero]
              refine runOps_cut 8 (fun K2 hK2 => ?_)
              push_cast [hb5, hb6, hb7, hb8, hb9]
              repeat (refine And.intro (by omega) ?_)
              refine hK2 _ _ ?_
              clear hK2 K2
              simp only [List.drop_succ_cons, List.drop_zero]
              push_cast [hb5, hb6, hb7, hb8, hb9]
              repeat (refine And.intro (by omega) ?_)
              refine hK _ ?_
              clear hK K
              have hv := Option.some.inj h
              rw [← hv] at hk4
              refine Exists.intro (false) (And.intro hk4 ?_)
              refine Sub.trans (Sub.lo _) ?_
              refine Sub.of ?_ ?_ ⟨rfl, rfl, Nat.le_of_ble_eq_true rfl⟩ rfl
              · push_cast [hb5, hb6, hb7, hb8, hb9]
              · push_cast [hb5, hb6, hb7, hb8, hb9]
          · replace h := cond_no hb8 h
            refine VC.lastF tabOkF [some 30, some 31, some 32, some 33, some 34, some 35, some 36, some 37, some 38, some 39, some 40, some 41, some 42, some 43, some 44, some 45, some 46, some 47, some 48, some 49, some 50, some 51, some 52, some 53, some 54, some 55, some 56, some 57, some 58, some 59, some 60, some 61, some 0] rfl rfl (fun K hK => ?_)
            refine runOps_cut 8 (fun K2 hK2 => ?_)
            push_cast [hb5, hb6, hb7, hb8]
            repeat (refine And.intro (by omega) ?_)
            refine hK2 _ _ ?_
            clear hK2 K2
            simp only [List.drop_succ_cons, List.drop_zero]
            refine runOps_cut 8 (fun K2 hK2 => ?_)
            push_cast [hb5, hb6, hb7, hb8]
            repeat (refine And.intro (by omega) ?_)
            refine hK2 _ _ ?_
            clear hK2 K2
            simp only [List.drop_succ_cons, List.drop_zero]
            refine runOps_cut 8 (fun K2 hK2 => ?_)
            push_cast [hb5, hb6, hb7, hb8]
            repeat (refine And.intro (by omega) ?_)
            refine hK2 _ _ ?_
            clear hK2 K2
            simp only [List.drop_succ_cons, List.drop_zero]
            push_cast [hb5, hb6, hb7, hb8]
            repeat (refine And.intro (by omega) ?_)
            refine hK _ ?_
            clear hK K
            have hv := Option.some.inj h
            rw [← hv] at hk4
            refine Exists.intro (false) (And.intro hk4 ?_)
            refine Sub.trans (Sub.lo _) ?_
            refine Sub.of ?_ ?_ ⟨rfl, rfl, Nat.le_of_ble_eq_true rfl⟩ rfl
            · push_cast [hb5, hb6, hb7, hb8]
            · push_cast [hb5, hb6, hb7, hb8]
        · replace h := cond_no hb7 h
          refine VC.lastF tabOkF [some 30, some 31, some 32, some 33, some 34, some 35, some 36, some 37, some 38, some 39, some 40, some 41, some 42, some 43, some 44, some 45, some 46, some 47, some 48, some 49, some 50, some 51, some 52, some 53, some 54, some 55, some 56, some 57, some 58, some 59, some 60, some 61, some 0] rfl rfl (fun K hK => ?_)
          refine runOps_cut 8 (fun K2 hK2 => ?_)
          push_cast [hb5, hb6, hb7]
          repeat (refine And.intro (by omega) ?_)
          refine hK2 _ _ ?_
          clear hK2 K2
          simp only [List.drop_succ_cons, List.drop_zero]
          refine runOps_cut 8 (fun K2 hK2 => ?_)
          push_cast [hb5, hb6, hb7]
          repeat (refine And.intro (by omega) ?_)
          refine hK2 _ _ ?_
          clear hK2 K2
          simp only [List.drop_succ_cons, List.drop_zero]
          refine runOps_cut 8 (fun K2 hK2 => ?_)
          push_cast [hb5, hb6, hb7]
          repeat (refine And.intro (by omega) ?_)
          refine hK2 _ _ ?_
          clear hK2 K2
          simp only [List.drop_succ_cons, List.drop_zero]
          push_cast [hb5, hb6, hb7]
          repeat (refine And.intro (by omega) ?_)
          refine hK _ ?_
          clear hK K
          have hv := Option.some.inj h
          rw [← hv] at hk4
          refine Exists.intro (false) (And.intro hk4 ?_)
          refine Sub.trans (Sub.lo _) ?_
          refine Sub.of ?_ ?_ ⟨rfl, rfl, Nat.le_of_ble_eq_true rfl⟩ rfl
          · push_cast [hb5, hb6, hb7]
          · push_cast [hb5, hb6, hb7]
      · replace h := cond_no hb6 h
        refine VC.lastF tabOkF [some 30, some 31, some 32, some 33, some 34, some 35, some 36, some 37, some 38, some 39, some 40, some 41, some 42, some 43, some 44, some 45, some 46, some 47, some 48, some 49, some 50, some 51, some 52, some 53, some 54, some 55, some 56, some 57, some 58, some 59, some 60, some 61, some 0] rfl rfl (fun K hK => ?_)
        refine runOps_cut 8 (fun K2 hK2 => ?_)
        push_cast [hb5, hb6]
        repeat (refine And.intro (by omega) ?_)
        refine hK2 _ _ ?_
        clear hK2 K2
        simp only [List.drop_succ_cons, List.drop_zero]
        refine runOps_cut 8 (fun K2 hK2 => ?_)
        push_cast [hb5, hb6]
        repeat (refine And.intro (by omega) ?_)
        refine hK2 _ _ ?_
        clear hK2 K2
        simp only [List.drop_succ_cons, List.drop_zero]
        refine runOps_cut 8 (fun K2 hK2 => ?_)
        push_cast [hb5, hb6]
        repeat (refine And.intro (by omega) ?_)
        refine hK2 _ _ ?_
        clear hK2 K2
        simp only [List.drop_succ_cons, List.drop_zero]
        push_cast [hb5, hb6]
        repeat (refine And.intro (by omega) ?_)
        refine hK _ ?_
        clear hK K
        have hv := Option.some.inj h
        rw [← hv] at hk4
        refine Exists.intro (false) (And.intro hk4 ?_)
        refine Sub.trans (Sub.lo _) ?_
        refine Sub.of ?_ ?_ ⟨rfl, rfl, Nat.le_of_ble_eq_true rfl⟩ rfl
        · push_cast [hb5, hb6]
        · push_cast [hb5, hb6]
    · replace h := cond_no hb5 h
      refine VC.lastF tabOkF [some 30, some 31, some 32, some 33, some 34, some 35, some 36, some 37, some 38, some 39, some 40, some 41, some 42, some 43, some 44, some 45, some 46, some 47, some 48, some 49, some 50, some 51, some 52, some 53, some 54, some 55, some 56, some 57, some 58, some 59, some 60, some 61, some 0] rfl rfl (fun K hK => ?_)
      refine runOps_cut 8 (fun K2 hK2 => ?_)
      push_cast [hb5]
      repeat (refine And.intro (by omega) ?_)
      refine hK2 _ _ ?_
      clear hK2 K2
      simp only [List.drop_succ_cons, List.drop_zero]
      refine runOps_cut 8 (fun K2 hK2 => ?_)
      push_cast [hb5]
      repeat (refine And.intro (by omega) ?_)
      refine hK2 _ _ ?_
      clear hK2 K2
      simp only [List.drop_succ_cons, List.drop_zero]
      refine runOps_cut 8 (fun K2 hK2 => ?_)
      push_cast [hb5]
      repeat (refine And.intro (by omega) ?_)
      refine hK2 _ _ ?_
      clear hK2 K2
      simp only [List.drop_succ_cons, List.drop_zero]
      push_cast [hb5]
      repeat (refine And.intro (by omega) ?_)
      refine hK _ ?_
      clear hK K
      have hv := Option.some.inj h
      rw [← hv] at hk4
      refine Exists.intro (false) (And.intro hk4 ?_)
      refine Sub.trans (Sub.lo _) ?_
      refine Sub.of ?_ ?_ ⟨rfl, rfl, Nat.le_of_ble_eq_true rfl⟩ rfl
      · push_cast [hb5]
      · push_cast [hb5]
  · rintro i_1 h
    replace h : p_drydocklaw06_awake_J4 i_1 = some r := h
    try push_cast
    unfold p_drydocklaw06_awake_J4 at h
    refine VC.ret ?_
    have hr := Option.some.inj h
    subst hr
    refine endP (Sub.lo _) (Post.ret ?_ ?_ ?_)
    · push_cast
    · push_cast
    · rfl
end Go.Proofs.Ytpmnchgpbojppaa

/- The plain function of slices.Index   uint32 uint32 . -/
set_option linter.unusedVariables false
set_option linter.unusedSimpArgs false
namespace Go.Proofs.Ytpmnchgpbojppaa
open Go Go.RowKit Go.Proofs.Try
noncomputable def p_slices_Index_uint32_uint32_L2 (a0 : (List UInt32)) (a1 : UInt32) (i_1 : Int) : Option ((Int) ⊕ ((Unit) ⊕ (Int))) :=
  cond (decide (i_1 < (a0.length : Int))) (
  po (idx a0 i_1) fun x4 =>
  cond ((a1.toNat : Int) == (x4.toNat : Int)) (
  some (Sum.inr (Sum.inr i_1))) (
  some (Sum.inl (IntKind.i64.wrap (i_1 + 1))))) (
  some (Sum.inr (Sum.inl ())))
noncomputable def p_slices_Index_uint32_uint32_J1 : Option (Int) :=
  some (-1)
noncomputable def p_slices_Index_uint32_uint32 (a0 : (List UInt32)) (a1 : UInt32) : Option (Int) :=
  pm (
  lpU (fun x => p_slices_Index_uint32_uint32_L2 a0 a1 x) 0) (fun x => p_slices_Index_uint32_uint32_J1)
set_option maxHeartbeats 4000000 in
set_option maxRecDepth 100000 in
theorem c_slices_Index_uint32_uint32 (a0 : (List UInt32)) (a1 : UInt32) {r : Int} (h : p_slices_Index_uint32_uint32 a0 a1 = some r) : Ctr prog 89 [.sl false (a0.map encU32), .raw (.int .u32 (a1.toNat : Int))] [] (.raw (.int .i64 r)) [] := by
  unfold p_slices_Index_uint32_uint32 at h
  refine Ctr.ofW tabOk func89 rfl call89 0 _ ntmps89 [.tmp 4] rfl rfl rfl (fun B => ?_)
  refine VC.seqF tabOkF [some 4] [0, 1] rfl rfl (fun K hK => ?_)
  push_cast
  repeat (refine And.intro (by omega) ?_)
  refine hK _ ?_
  clear hK K
  obtain ⟨v1, h, hk1⟩ := pm_some h
  refine VC.seqJ (X := Unit) (fun x => p_slices_Index_uint32_uint32_J1 = some r) (fun x => ⟨[], [], 16, 19, 0⟩) ?_ ?_
  · refine VC.seqF tabOkF [some 6, some 7, some 8] [0, 1, 7, 8] rfl rfl (fun K hK => ?_)
    push_cast
    repeat (refine And.intro (by omega) ?_)
    refine hK _ ?_
    clear hK K
    refine VC.block ?_
    refine VC.loopP h (fun x => ⟨[(0, .sl false (a0.map encU32)), (1, .raw (.int .u32 (a1.toNat : Int))), (7, .raw (.int .i64 (a0.length : Int))), (8, .raw (.int .i64 x))], [], 15, 19, 0⟩) ?_ ?_
    · refine Sub.trans (Sub.lo _) ?_
      refine Sub.of ?_ ?_ ⟨rfl, rfl, Nat.le_of_ble_eq_true rfl⟩ rfl
      · push_cast
      · push_cast
    rintro i_1 b2 h hf2
    replace h : p_slices_Index_uint32_uint32_L2 a0 a1 i_1 = some b2 := h
    try push_cast
    unfold p_slices_Index_uint32_uint32_L2 at h
    refine VC.seqF tabOkF [some 9] [0, 1, 7, 8, 9] rfl rfl (fun K hK => ?_)
    push_cast
    repeat (refine And.intro (by omega) ?_)
    refine hK _ ?_
    clear hK K
    refine VC.seq ?_
    refine VC.cond rfl rfl (fun hc3 => ?_) (fun hc3 => ?_)
    · have hb3 : (decide (i_1 < (a0.length : Int))) = true := by simpa using hc3
      replace h := cond_yes hb3 h
      refine VC.skip ?_
      refine VC.seq ?_
      refine VC.block ?_
      refine VC.seqF tabOkF [some 10, some 5] [0, 1, 5, 7, 8] rfl rfl (fun K hK => ?_)
      push_cast [hb3]
      repeat (refine And.intro (by omega) ?_)
      refine hK _ ?_
      clear hK K
      obtain ⟨x4, hx4, h⟩ := po_some h
      obtain ⟨hx41, hx42, hx43, hx44⟩ := idx_some4 hx4
      refine VC.seqF tabOkF [some 11, some 12, some 13, some 14, some 15, some 16] [0, 1, 5, 7, 8, 16] rfl rfl (fun K hK => ?_)
      push_cast [hb3, hx41, hx42, hx43, hx44]
      repeat (refine And.intro (by omega) ?_)
      refine hK _ ?_
      clear hK K
      refine VC.cond rfl rfl (fun hc5 => ?_) (fun hc5 => ?_)
      · have hb5 : ((a1.toNat : Int) == (x4.toNat : Int)) = true := by simpa using hc5
        replace h := cond_yes hb5 h
        refine VC.seqF tabOkF [some 17, some 4] [4] rfl rfl (fun K hK => ?_)
        push_cast [hb3, hx41, hx42, hx43, hx44, hb5]
        repeat (refine And.intro (by omega) ?_)
        refine hK _ ?_
        clear hK K
        refine VC.ret ?_
        replace h := congrArg some (hf2 _ (Option.some.inj h).symm)
        have hv := Option.some.inj h
        rw [← hv] at hk1
        replace h : some i_1 = some r := hk1
        have hr := Option.some.inj h
        subst hr
        refine endP (Sub.lo _) (Post.ret ?_ ?_ ?_)
        · push_cast [hb3, hb5]
        · push_cast [hb3, hb5]
        · rfl
      · have hb5 : ((a1.toNat : Int) == (x4.toNat : Int)) = false := by simpa using hc5
        replace h := cond_no hb5 h
        refine VC.skip ?_
        refine VC.lastF tabOkF [some 18, some 8] rfl rfl (fun K hK => ?_)
        push_cast [hb3, hx41, hx42, hx43, hx44, hb5]
        repeat (refine And.intro (by omega) ?_)
        refine hK _ ?_
        clear hK K
        refine Exists.intro ((IntKind.i64.wrap (i_1 + 1))) (And.intro (Option.some.inj h).symm ?_)
        refine Sub.trans (Sub.lo _) ?_
        refine Sub.of ?_ ?_ ⟨rfl, rfl, Nat.le_of_ble_eq_true rfl⟩ rfl
        · push_cast [hb3, hb5]
        · push_cast [hb3, hb5]
    · have hb3 : (decide (i_1 < (a0.length : Int))) = false := by simpa using hc3
      replace h := cond_no hb3 h
      refine VC.exit ?_
      replace h := congrArg some (hf2 _ (Option.some.inj h).symm)
      have hv := Option.some.inj h
      rw [← hv] at hk1
      refine Exists.intro (()) (And.intro hk1 ?_)
      refine Sub.trans (Sub.lo _) ?_
      refine Sub.of ?_ ?_ ⟨rfl, rfl, Nat.le_of_ble_eq_true rfl⟩ rfl
      · push_cast [hb3]
      · push_cast [hb3]
  · rintro ⟨⟩ h
    replace h : p_slices_Index_uint32_uint32_J1 = some r := h
    try push_cast
    unfold p_slices_Index_uint32_uint32_J1 at h
    refine VC.seqF tabOkF [some 4] [4] rfl rfl (fun K hK => ?_)
    push_cast
    repeat (refine And.intro (by omega) ?_)
    refine hK _ ?_
    clear hK K
    refine VC.ret ?_
    have hr := Option.some.inj h
    subst hr
    refine endP (Sub.lo _) (Post.ret ?_ ?_ ?_)
    · push_cast
    · push_cast
    · rfl
end Go.Proofs.Ytpmnchgpbojppaa

/- The plain function of drydock/delta.May. -/
set_option linter.unusedVariables false
set_option linter.unusedSimpArgs false
namespace Go.Proofs.Ytpmnchgpbojppaa
open Go Go.RowKit Go.Proofs.Try
noncomputable def p_delta_May_L2 (a0 : T_Delta) (i_1 : Int) : Option ((Int) ⊕ ((Unit) ⊕ (Bool))) :=
  cond (decide (i_1 < (a0.L.length : Int))) (
  po (idx a0.L i_1) fun x4 =>
  po (p_slices_Index_uint32_uint32 a0.L x4) fun r5 =>
  cond (r5 != i_1) (
  some (Sum.inr (Sum.inr false))) (
  some (Sum.inl (IntKind.i64.wrap (i_1 + 1))))) (
  some (Sum.inr (Sum.inl ())))
noncomputable def p_delta_May_J7 (i_3 : Bool) : Option (Bool) :=
  some i_3
noncomputable def p_delta_May_J1 (a0 : T_Delta) : Option (Bool) :=
  po (
  cond (decide ((a0.L.length : Int) ≤ 8)) (
  cond a0.Over (
  some ((a0.L.length : Int) == 8)) (
  some true)) (
  some false)) (fun x => p_delta_May_J7 x)
noncomputable def p_delta_May (a0 : T_Delta) : Option (Bool) :=
  pm (
  lpU (fun x => p_delta_May_L2 a0 x) 0) (fun x => p_delta_May_J1 a0)
set_option maxHeartbeats 4000000 in
set_option maxRecDepth 100000 in
theorem c_delta_May (a0 : T_Delta) {r : Bool} (h : p_delta_May a0 = some r) : Ctr prog 77 [.agg (enc_Delta a0)] [] (.raw (.bool r)) [] := by
  unfold p_delta_May at h
  refine Ctr.ofW tabOk func77 rfl call77 0 _ ntmps77 [.tmp 2] rfl rfl rfl (fun B => ?_)
  refine VC.seqF tabOkF [some 1, some 2] [1] rfl rfl (fun K hK => ?_)
  push_cast
  repeat (refine And.intro (by omega) ?_)
  refine hK _ ?_
  clear hK K
  obtain ⟨v1, h, hk1⟩ := pm_some h
  refine VC.seqJ (X := Unit) (fun x => p_delta_May_J1 a0 = some r) (fun x => ⟨[(1, .ref 0 0)], [(0, .box 97 [.sl false (a0.L.map encU32), .raw (.bool a0.Over)])], 21, 35, 0⟩) ?_ ?_
  · refine VC.seqF tabOkF [some 5, some 6, some 7, some 8] [1, 6, 7, 8] rfl rfl (fun K hK => ?_)
    push_cast
    repeat (refine And.intro (by omega) ?_)
    refine hK _ ?_
    clear hK K
    refine VC.block ?_
    refine VC.loopP h (fun x => ⟨[(1, .ref 0 0), (6, .sl false (a0.L.map encU32)), (7, .raw (.int .i64 (a0.L.length : Int))), (8, .raw (.int .i64 x))], [(0, .box 97 [.sl false (a0.L.map encU32), .raw (.bool a0.Over)])], 20, 35, 0⟩) ?_ ?_
    · refine Sub.trans (Sub.lo _) ?_
      refine Sub.of ?_ ?_ ⟨rfl, rfl, Nat.le_of_ble_eq_true rfl⟩ rfl
      · push_cast
      · push_cast
    rintro i_1 b2 h hf2
    replace h : p_delta_May_L2 a0 i_1 = some b2 := h
    try push_cast
    unfold p_delta_May_L2 at h
    refine VC.seqF tabOkF [some 9] [1, 6, 7, 8, 9] rfl rfl (fun K hK => ?_)
    push_cast
    repeat (refine And.intro (by omega) ?_)
    refine hK _ ?_
    clear hK K
    refine VC.seq ?_
    refine VC.cond rfl rfl (fun hc3 => ?_) (fun hc3 => ?_)
    · have hb3 : (decide (i_1 < (a0.L.length : Int))) = true := by simpa using hc3
      replace h := cond_yes hb3 h
      refine VC.skip ?_
      refine VC.seq ?_
      refine VC.block ?_
      obtain ⟨x4, hx4, h⟩ := po_some h
      obtain ⟨hx41, hx42, hx43, hx44⟩ := idx_some4 hx4
      refine VC.seqF tabOkF [some 10, some 11, some 12, some 3, some 4] [1, 3, 4, 6, 7, 8] rfl rfl (fun K hK => ?_)
      push_cast [hb3, hx41, hx42, hx43, hx44]
      repeat (refine And.intro (by omega) ?_)
      refine hK _ ?_
      clear hK K
      obtain ⟨r5, hr5, h⟩ := po_some h
      refine VC.seqF tabOkF [some 13, some 14, some 15, some 16, some 17, some 18] [1, 6, 7, 8, 18] rfl rfl (fun K hK => ?_)
      push_cast [hb3, hx41, hx42, hx43, hx44]
      repeat (refine And.intro (by omega) ?_)
      refine callP (Ctr.lo (c_slices_Index_uint32_uint32 a0.L x4 hr5)) rfl ?_
      push_cast [hb3, hx41, hx42, hx43, hx44]
      repeat (refine And.intro (by omega) ?_)
      refine hK _ ?_
      clear hK K
      refine VC.cond rfl rfl (fun hc6 => ?_) (fun hc6 => ?_)
      · have hb6 : (r5 != i_1) = true := by simpa using hc6
        replace h := cond_yes hb6 h
        refine VC.seqF tabOkF [some 2] [2] rfl rfl (fun K hK => ?_)
        push_cast [hb3, hx41, hx42, hx43, hx44, hb6]
        repeat (refine And.intro (by omega) ?_)
        refine hK _ ?_
        clear hK K
        refine VC.ret ?_
        replace h := congrArg some (hf2 _ (Option.some.inj h).symm)
        have hv := Option.some.inj h
        rw [← hv] at hk1
        replace h : some false = some r := hk1
        have hr := Option.some.inj h
        subst hr
        refine endP (Sub.lo _) (Post.ret ?_ ?_ ?_)
        · push_cast [hb3, hb6]
        · push_cast [hb3, hb6]
        · rfl
      · have hb6 : (r5 != i_1) = false := by simpa using hc6
        replace h := cond_no hb6 h
        refine VC.skip ?_
        refine VC.lastF tabOkF [some 19, some 8] rfl rfl (fun K hK => ?_)
        push_cast [hb3, hx41, hx42, hx43, hx44, hb6]
        repeat (refine And.intro (by omega) ?_)
        refine hK _ ?_
        clear hK K
        refine Exists.intro ((IntKind.i64.wrap (i_1 + 1))) (And.intro (Option.some.inj h).symm ?_)
        refine Sub.trans (Sub.lo _) ?_
        refine Sub.of ?_ ?_ ⟨rfl, rfl, Nat.le_of_ble_eq_true rfl⟩ rfl
        · push_cast [hb3, hb6]
        · push_cast [hb3, hb6]
    · have hb3 : (decide (i_1 < (a0.L.length : Int))) = false := by simpa using hc3
      replace h := cond_no hb3 h
      refine VC.exit ?_
      replace h := congrArg some (hf2 _ (Option.some.inj h).symm)
      have hv := Option.some.inj h
      rw [← hv] at hk1
      refine Exists.intro (()) (And.intro hk1 ?_)
      refine Sub.trans (Sub.lo _) ?_
      refine Sub.of ?_ ?_ ⟨rfl, rfl, Nat.le_of_ble_eq_true rfl⟩ rfl
      · push_cast [hb3]
      · push_cast [hb3]
  · rintro ⟨⟩ h
    replace h : p_delta_May_J1 a0 = some r := h
    try push_cast
    unfold p_delta_May_J1 at h
    obtain ⟨v7, h, hk7⟩ := po_some h
    refine VC.seqJ (X := Bool) (fun x => p_delta_May_J7 x = some r) (fun x => ⟨[(2, .raw (.bool x))], [], 37, 35, 0⟩) ?_ ?_
    · rcases Bool.eq_false_or_eq_true (decide ((a0.L.length : Int) ≤ 8)) with hb8 | hb8
      · replace h := cond_yes hb8 h
        rcases Bool.eq_false_or_eq_true a0.Over with hb9 | hb9
        · replace h := cond_yes hb9 h
          refine VC.lastF tabOkF [some 20, some 21, some 22, some 23, some 24, some 25, some 26, some 27, some 28, some 29, some 30, some 31, some 32, some 33, some 34, some 2] rfl rfl (fun K hK => ?_)
          refine runOps_cut 8 (fun K2 hK2 => ?_)
          push_cast [hb8, hb9]
          repeat (refine And.intro (by omega) ?_)
          refine hK2 _ _ ?_
          clear hK2 K2
          simp only [List.drop_succ_cons, List.drop_zero]
          push_cast [hb8, hb9]
          repeat (refine And.intro (by omega) ?_)
          refine hK _ ?_
          clear hK K
          have hv := Option.some.inj h
          rw [← hv] at hk7
          refine Exists.intro (((a0.L.length : Int) == 8)) (And.intro hk7 ?_)
          refine Sub.trans (Sub.lo _) ?_
          refine Sub.of ?_ ?_ ⟨rfl, rfl, Nat.le_of_ble_eq_true rfl⟩ rfl
          · push_cast [hb8, hb9]
          · push_cast [hb8, hb9]
        · replace h := cond_no hb9 h
          refine VC.lastF tabOkF [some 20, some 21, some 22, some 23, some 24, some 25, some 26, some 27, some 28, some 29, some 30, some 31, some 32, some 33, some 34, some 2] rfl rfl (fun K hK => ?_)
          refine runOps_cut 8 (fun K2 hK2 => ?_)
          push_cast [hb8, hb9]
          repeat (refine And.intro (by omega) ?_)
          refine hK2 _ _ ?_
          clear hK2 K2
          simp only [List.drop_succ_cons, List.drop_zero]
          push_cast [hb8, hb9]
          repeat (refine And.intro (by omega) ?_)
          refine hK _ ?_
          clear hK K
          have hv := Option.some.inj h
          rw [← hv] at hk7
          refine Exists.intro (true) (And.intro hk7 ?_)
          refine Sub.trans (Sub.lo _) ?_
          refine Sub.of ?_ ?_ ⟨rfl, rfl, Nat.le_of_ble_eq_true rfl⟩ rfl
          · push_cast [hb8, hb9]
          · push_cast [hb8, hb9]
      · replace h := cond_no hb8 h
        refine VC.lastF tabOkF [some 20, some 21, some 22, some 23, some 24, some 25, some 26, some 27, some 28, some 29, some 30, some 31, some 32, some 33, some 34, some 2] rfl rfl (fun K hK => ?_)
        refine runOps_cut 8 (fun K2 hK2 => ?_)
        push_cast [hb8]
        repeat (refine And.intro (by omega) ?_)
        refine hK2 _ _ ?_
        clear hK2 K2
        simp only [List.drop_succ_cons, List.drop_zero]
        push_cast [hb8]
        repeat (refine And.intro (by omega) ?_)
        refine hK _ ?_
        clear hK K
        have hv := Option.some.inj h
        rw [← hv] at hk7
        refine Exists.intro (false) (And.intro hk7 ?_)
        refine Sub.trans (Sub.lo _) ?_
        refine Sub.of ?_ ?_ ⟨rfl, rfl, Nat.le_of_ble_eq_true rfl⟩ rfl
        · push_cast [hb8]
        · push_cast [hb8]
    · rintro i_3 h
      replace h : p_delta_May_J7 i_3 = some r := h
      try push_cast
      unfold p_delta_May_J7 at h
      refine VC.ret ?_
      have hr := Option.some.inj h
      subst hr
      refine endP (Sub.lo _) (Post.ret ?_ ?_ ?_)
      · push_cast
      · push_cast
      · rfl
end Go.Proofs.Ytpmnchgpbojppaa

/- The plain function of slices.Contains   uint32 uint32 . -/
set_option linter.unusedVariables false
set_option linter.unusedSimpArgs false
namespace Go.Proofs.Ytpmnchgpbojppaa
open Go Go.RowKit Go.Proofs.Try
noncomputable def p_slices_Contains_uint32_uint32 (a0 : (List UInt32)) (a1 : UInt32) : Option (Bool) :=
  po (p_slices_Index_uint32_uint32 a0 a1) fun r1 =>
  some (decide (r1 ≥ 0))
set_option maxHeartbeats 4000000 in
set_option maxRecDepth 100000 in
theorem c_slices_Contains_uint32_uint32 (a0 : (List UInt32)) (a1 : UInt32) {r : Bool} (h : p_slices_Contains_uint32_uint32 a0 a1 = some r) : Ctr prog 88 [.sl false (a0.map encU32), .raw (.int .u32 (a1.toNat : Int))] [] (.raw (.bool r)) [] := by
  unfold p_slices_Contains_uint32_uint32 at h
  refine Ctr.ofW tabOk func88 rfl call88 0 _ ntmps88 [.tmp 4] rfl rfl rfl (fun B => ?_)
  refine VC.seqF tabOkF [some 4] [0, 1] rfl rfl (fun K hK => ?_)
  push_cast
  repeat (refine And.intro (by omega) ?_)
  refine hK _ ?_
  clear hK K
  obtain ⟨r1, hr1, h⟩ := po_some h
  refine VC.seqF tabOkF [some 5, some 6, some 7, some 8, some 4] [4] rfl rfl (fun K hK => ?_)
  push_cast
  repeat (refine And.intro (by omega) ?_)
  refine callP (Ctr.lo (c_slices_Index_uint32_uint32 a0 a1 hr1)) rfl ?_
  push_cast
  repeat (refine And.intro (by omega) ?_)
  refine hK _ ?_
  clear hK K
  refine VC.ret ?_
  have hr := Option.some.inj h
  subst hr
  refine endP (Sub.lo _) (Post.ret ?_ ?_ ?_)
  · push_cast
  · push_cast
  · rfl
end Go.Proofs.Ytpmnchgpbojppaa

/- The plain function of drydock/delta.Note. -/
set_option linter.unusedVariables false
set_option linter.unusedSimpArgs false
namespace Go.Proofs.Ytpmnchgpbojppaa
open Go Go.RowKit Go.Proofs.Try
noncomputable def p_delta_Note_J3 (a1 : UInt32) (s_1 : T_Delta) (i_2 : Bool) : Option (T_Delta) :=
  cond i_2 (
  some s_1) (
  cond ((s_1.L.length : Int) == 8) (
  some (T_Delta.mk s_1.L true)) (
  pg ((s_1.L.length + 1) * 4 ≤ 140737488355328) <|
  pl (s_1.L ++ ([a1])) fun y10 =>
  some (T_Delta.mk y10 s_1.Over)))
noncomputable def p_delta_Note_J2 (s_3 : T_Delta) : Option (T_Delta) :=
  some s_3
noncomputable def p_delta_Note (a0 : T_Delta) (a1 : UInt32) : Option (T_Delta) :=
  po (p_slices_Clone_uint32_uint32 a0.L) fun r1 =>
  po (
  po (
  po (p_delta_May (T_Delta.mk r1 a0.Over)) fun r4 =>
  cond (!r4) (
  some ((T_Delta.mk r1 a0.Over), (!r4))) (
  po (p_slices_Contains_uint32_uint32 r1 a1) fun r6 =>
  some ((T_Delta.mk r1 a0.Over), r6))) (fun x => p_delta_Note_J3 a1 x.1 x.2)) (fun x => p_delta_Note_J2 x)
set_option maxHeartbeats 4000000 in
set_option maxRecDepth 100000 in
theorem c_delta_Note (a0 : T_Delta) (a1 : UInt32) {r : T_Delta} (h : p_delta_Note a0 a1 = some r) : Ctr prog 76 [.agg (enc_Delta a0), .raw (.int .u32 (a1.toNat : Int))] [] (.agg [.row 0 0 1 0 r.L.length, .raw (.bool r.Over)]) [(0, .row 25 1 0 (r.L.map encU32))] := by
  unfold p_delta_Note at h
  refine Ctr.ofW tabOk func76 rfl call76 0 _ ntmps76 [.cell 4 97] rfl rfl rfl (fun B => ?_)
  refine VC.seqF tabOkF [some 2, some 4] [1, 2, 4] rfl rfl (fun K hK => ?_)
  push_cast
  repeat (refine And.intro (by omega) ?_)
  refine hK _ ?_
  clear hK K
  obtain ⟨r1, hr1, h⟩ := po_some h
  refine VC.seqF tabOkF [some 5, some 6, some 7, some 8, none] [1, 2, 4] rfl rfl (fun K hK => ?_)
  push_cast
  repeat (refine And.intro (by omega) ?_)
  refine callH (H := []) (Ctr.loH (Ctr.ren (Bij.swp 0 4 Bij.id) (c_slices_Clone_uint32_uint32 a0.L hr1) (by push_cast) (by push_cast))) (by push_cast) rfl rfl rfl ?_
  push_cast
  repeat (refine And.intro (by omega) ?_)
  refine hK _ ?_
  clear hK K
  refine VC.sub (s' := ⟨[(1, .raw (.int .u32 (a1.toNat : Int))), (2, .ref 0 0), (4, .ref 1 0)], [(0, .box 97 [.row 4 0 1 0 r1.length, .raw (.bool a0.Over)]), (1, .box 97 [.sl true [], .raw (.bool false)]), (4, .row 25 1 0 (r1.map encU32))], 7, 30, 0⟩) (Sub.of ?_ ?_ ⟨rfl, rfl, Nat.le_of_ble_eq_true rfl⟩ rfl) ?_
  · push_cast
  · push_cast
  obtain ⟨v2, h, hk2⟩ := po_some h
  refine VC.seqJ (X := T_Delta) (fun x => p_delta_Note_J2 x = some r) (fun x => ⟨[(2, .ref 0 0), (4, .ref 1 0)], [(0, .box 97 [.row 4 0 1 0 x.L.length, .raw (.bool x.Over)]), (1, .box 97 [.sl true [], .raw (.bool false)]), (4, .row 25 1 0 (x.L.map encU32))], 28, 30, 0⟩) ?_ ?_
  · refine VC.block ?_
    obtain ⟨v3, h, hk3⟩ := po_some h
    refine VC.seqJ (X := T_Delta × Bool) (fun x => p_delta_Note_J3 a1 x.1 x.2 = some v2) (fun x => ⟨[(1, .raw (.int .u32 (a1.toNat : Int))), (2, .ref 0 0), (4, .ref 1 0), (15, .raw (.bool x.2))], [(0, .box 97 [.row 4 0 1 0 x.1.L.length, .raw (.bool x.1.Over)]), (1, .box 97 [.sl true [], .raw (.bool false)]), (4, .row 25 1 0 (x.1.L.map encU32))], 16, 30, 0⟩) ?_ ?_
    · obtain ⟨r4, hr4, h⟩ := po_some h
      refine VC.seqF tabOkF [some 16, some 17, some 18, some 15] [1, 2, 4, 15] rfl rfl (fun K hK => ?_)
      push_cast
      repeat (refine And.intro (by omega) ?_)
      refine callH (H := [(4, .row 25 1 0 (r1.map encU32))]) (H' := _) (Ctr.borrow (c_delta_May (T_Delta.mk r1 a0.Over) hr4) (by push_cast) rfl) (by push_cast) rfl rfl rfl ?_
      push_cast
      repeat (refine And.intro (by omega) ?_)
      refine hK _ ?_
      clear hK K
      refine VC.cond rfl rfl (fun hc5 => ?_) (fun hc5 => ?_)
      · have hb5 : (!r4) = true := by simpa using hc5
        replace h := cond_yes hb5 h
        refine VC.skip ?_
        have hv := Option.some.inj h
        rw [← hv] at hk3
        refine Exists.intro (((T_Delta.mk r1 a0.Over), (!r4))) (And.intro hk3 ?_)
        refine Sub.of ?_ ?_ ⟨rfl, rfl, Nat.le_of_ble_eq_true rfl⟩ rfl
        · push_cast [hb5]
        · push_cast [hb5]
      · have hb5 : (!r4) = false := by simpa using hc5
        replace h := cond_no hb5 h
        obtain ⟨r6, hr6, h⟩ := po_some h
        refine VC.lastF tabOkF [some 19, some 20, some 21, some 22, some 15] rfl rfl (fun K hK => ?_)
        push_cast [hb5]
        repeat (refine And.intro (by omega) ?_)
        refine callH (H := [(4, .row 25 1 0 (r1.map encU32))]) (H' := _) (Ctr.borrow (c_slices_Contains_uint32_uint32 r1 a1 hr6) (by push_cast [hb5]) rfl) (by push_cast [hb5]) rfl rfl rfl ?_
        push_cast [hb5]
        repeat (refine And.intro (by omega) ?_)
        refine hK _ ?_
        clear hK K
        have hv := Option.some.inj h
        rw [← hv] at hk3
        refine Exists.intro (((T_Delta.mk r1 a0.Over), r6)) (And.intro hk3 ?_)
        refine Sub.of ?_ ?_ ⟨rfl, rfl, Nat.le_of_ble_eq_true rfl⟩ rfl
        · push_cast [hb5]
        · push_cast [hb5]
    · rintro ⟨s_1, i_2⟩ h
      replace h : p_delta_Note_J3 a1 s_1 i_2 = some v2 := h
      try push_cast
      unfold p_delta_Note_J3 at h
      refine VC.cond rfl rfl (fun hc7 => ?_) (fun hc7 => ?_)
      · have hb7 : i_2 = true := by simpa using hc7
        replace h := cond_yes hb7 h
        refine VC.skip ?_
        have hv := Option.some.inj h
        rw [← hv] at hk2
        refine Exists.intro (s_1) (And.intro hk2 ?_)
        refine Sub.of ?_ ?_ ⟨rfl, rfl, Nat.le_of_ble_eq_true rfl⟩ rfl
        · push_cast [hb7]
        · push_cast [hb7]
      · have hb7 : i_2 = false := by simpa using hc7
        replace h := cond_no hb7 h
        refine VC.seqF tabOkF [some 24, some 25, some 26, some 27, some 23] [1, 2, 4, 23] rfl rfl (fun K hK => ?_)
        push_cast [hb7]
        repeat (refine And.intro (by omega) ?_)
        refine hK _ ?_
        clear hK K
        refine VC.cond rfl rfl (fun hc8 => ?_) (fun hc8 => ?_)
        · have hb8 : ((s_1.L.length : Int) == 8) = true := by simpa using hc8
          replace h := cond_yes hb8 h
          refine VC.lastF tabOkF [some 28, none] rfl rfl (fun K hK => ?_)
          push_cast [hb7, hb8]
          repeat (refine And.intro (by omega) ?_)
          refine hK _ ?_
          clear hK K
          have hv := Option.some.inj h
          rw [← hv] at hk2
          refine Exists.intro ((T_Delta.mk s_1.L true)) (And.intro hk2 ?_)
          refine Sub.of ?_ ?_ ⟨rfl, rfl, Nat.le_of_ble_eq_true rfl⟩ rfl
          · push_cast [hb7, hb8]
          · push_cast [hb7, hb8]
        · have hb8 : ((s_1.L.length : Int) == 8) = false := by simpa using hc8
          replace h := cond_no hb8 h
          obtain ⟨hg9, h⟩ := pg_some h
          obtain ⟨y10, hy10, h⟩ := pl_some h
          refine VC.lastF tabOkF [some 9, some 10, some 11, some 12, some 13, some 14, none] rfl rfl (fun K hK => ?_)
          push_cast [hb7, hb8, hg9]
          repeat (refine And.intro (by omega) ?_)
          refine hK _ ?_
          clear hK K
          have hv := Option.some.inj h
          rw [← hv] at hk2
          refine Exists.intro ((T_Delta.mk y10 s_1.Over)) (And.intro hk2 ?_)
          refine Sub.trans (Sub.of (s' := ⟨[(2, .ref 0 0), (4, .ref 1 0)], [(0, .box 97 [.row 4 1 1 0 y10.length, .raw (.bool s_1.Over)]), (1, .box 97 [.sl true [], .raw (.bool false)]), (4, .row 25 1 1 (y10.map encU32))], 28, 30, 0⟩) (by push_cast [hb7, hb8, hy10]) (by push_cast [hb7, hb8, hy10]) ⟨rfl, rfl, Nat.le_of_ble_eq_true rfl⟩ rfl) ?_
          refine Sub.trans (Sub.renB (b := 0) (j := 0) (i' := 4) rfl rfl rfl (Nat.le_of_ble_eq_true rfl) (Nat.le_of_ble_eq_true rfl) rfl) ?_
          refine Sub.of ?_ ?_ ⟨rfl, rfl, Nat.le_of_ble_eq_true rfl⟩ rfl
          · push_cast [hb7, hb8, hy10]
          · push_cast [hb7, hb8, hy10]
  · rintro s_3 h
    replace h : p_delta_Note_J2 s_3 = some r := h
    try push_cast
    unfold p_delta_Note_J2 at h
    refine VC.seqF tabOkF [some 29, none] [4] rfl rfl (fun K hK => ?_)
    push_cast
    repeat (refine And.intro (by omega) ?_)
    refine hK _ ?_
    clear hK K
    refine VC.ret ?_
    have hr := Option.some.inj h
    subst hr
    refine endS (Sub.of (s' := ⟨[(4, .ref 1 0)], [(1, .box 97 [.row 4 0 1 0 s_3.L.length, .raw (.bool s_3.Over)]), (4, .row 25 1 0 (s_3.L.map encU32))], 30, 30, 0⟩) (by push_cast) (by push_cast) ⟨rfl, rfl, Nat.le_of_ble_eq_true rfl⟩ rfl) ?_
    refine endS (Sub.renB (b := 1) (j := 0) (i' := 0) rfl rfl rfl (Nat.le_of_ble_eq_true rfl) (Nat.le_of_ble_eq_true rfl) rfl) ?_
    refine endP (Sub.lo _) (Post.ret ?_ ?_ ?_)
    · push_cast
    · push_cast
    · rfl
end Go.Proofs.Ytpmnchgpbojppaa

/- The plain function of drydock/delta.Of. -/
set_option linter.unusedVariables false
set_option linter.unusedSimpArgs false
namespace Go.Proofs.Ytpmnchgpbojppaa
open Go Go.RowKit Go.Proofs.Try
noncomputable def p_delta_Of_J1 (a1 : (List UInt32)) (i_1 : Bool) : Option (UInt32 × UInt32 × Bool) :=
  cond i_1 (
  po (a1[0]?) fun x7 =>
  po (a1[1]?) fun x8 =>
  some (x7, x8, true)) (
  some (0, 0, false))
noncomputable def p_delta_Of (a0 : Int) (a1 : (List UInt32)) : Option (UInt32 × UInt32 × Bool) :=
  po (
  cond (a0 == 1) (
  cond ((a1.length : Int) == 4) (
  some true) (
  cond (a0 == 2) (
  some ((a1.length : Int) == 2)) (
  some false))) (
  cond (a0 == 2) (
  some ((a1.length : Int) == 2)) (
  some false))) (fun x => p_delta_Of_J1 a1 x)
set_option maxHeartbeats 4000000 in
set_option maxRecDepth 100000 in
theorem c_delta_Of (a0 : Int) (a1 : (List UInt32)) {r : UInt32 × UInt32 × Bool} (h : p_delta_Of a0 a1 = some r) : Ctr prog 52 [.raw (.int .i64 a0), .sl false (a1.map encU32)] [] (.tup [.raw (.int .u32 (r.1.toNat : Int)), .raw (.int .u32 (r.2.1.toNat : Int)), .raw (.bool r.2.2)]) [] := by
  unfold p_delta_Of at h
  refine Ctr.ofW tabOk func52 rfl call52 0 _ ntmps52 [.tmp 4, .tmp 5, .tmp 6] rfl rfl rfl (fun B => ?_)
  refine VC.seqF tabOkF [some 4, some 5, some 6] [0, 1] rfl rfl (fun K hK => ?_)
  push_cast
  repeat (refine And.intro (by omega) ?_)
  refine hK _ ?_
  clear hK K
  refine VC.seq ?_
  obtain ⟨v1, h, hk1⟩ := po_some h
  refine VC.seqJ (X := Bool) (fun x => p_delta_Of_J1 a1 x = some r) (fun x => ⟨[(1, .sl false (a1.map encU32)), (22, .raw (.bool x))], [], 19, 29, 0⟩) ?_ ?_
  · rcases Bool.eq_false_or_eq_true (a0 == 1) with hb2 | hb2
    · replace h := cond_yes hb2 h
      rcases Bool.eq_false_or_eq_true ((a1.length : Int) == 4) with hb3 | hb3
      · replace h := cond_yes hb3 h
        refine VC.lastF tabOkF [some 7, some 8, some 9, some 10, some 11, some 12, some 13, some 14, some 15, some 16, some 17, some 18, some 19, some 20, some 21, some 22] rfl rfl (fun K hK => ?_)
        refine runOps_cut 8 (fun K2 hK2 => ?_)
        push_cast [hb2, hb3]
        repeat (refine And.intro (by omega) ?_)
        refine hK2 _ _ ?_
        clear hK2 K2
        simp only [List.drop_succ_cons, List.drop_zero]
        push_cast [hb2, hb3]
        repeat (refine And.intro (by omega) ?_)
        refine hK _ ?_
        clear hK K
        have hv := Option.some.inj h
        rw [← hv] at hk1
        refine Exists.intro (true) (And.intro hk1 ?_)
        refine Sub.trans (Sub.lo _) ?_
        refine Sub.of ?_ ?_ ⟨rfl, rfl, Nat.le_of_ble_eq_true rfl⟩ rfl
        · push_cast [hb2, hb3]
        · push_cast [hb2, hb3]
      · replace h := cond_no hb3 h
        rcases Bool.eq_false_or_eq_true (a0 == 2) with hb4 | hb4
        · replace h := cond_yes hb4 h
          refine VC.lastF tabOkF [some 7, some 8, some 9, some 10, some 11, some 12, some 13, some 14, some 15, some 16, some 17, some 18, some 19, some 20, some 21, some 22] rfl rfl (fun K hK => ?_)
          refine runOps_cut 8 (fun K2 hK2 => ?_)
          push_cast [hb2, hb3, hb4]
          repeat (refine And.intro (by omega) ?_)
          refine hK2 _ _ ?_
          clear hK2 K2
          simp only [List.drop_succ_cons, List.drop_zero]
          push_cast [hb2, hb3, hb4]
          repeat (refine And.intro (by omega) ?_)
          refine hK _ ?_
          clear hK K
          have hv := Option.some.inj h
          rw [← hv] at hk1
          refine Exists.intro (((a1.length : Int) == 2)) (And.intro hk1 ?_)
          refine Sub.trans (Sub.lo _) ?_
          refine Sub.of ?_ ?_ ⟨rfl, rfl, Nat.le_of_ble_eq_true rfl⟩ rfl
          · push_cast [hb2, hb3, hb4]
          · push_cast [hb2, hb3, hb4]
        · replace h := cond_no hb4 h
          refine VC.lastF tabOkF [some 7, some 8, some 9, some 10, some 11, some 12, some 13, some 14, some 15, some 16, some 17, some 18, some 19, some 20, some 21, some 22] rfl rfl (fun K hK => ?_)
          refine runOps_cut 8 (fun K2 hK2 => ?_)
          push_cast [hb2, hb3, hb4]
          repeat (refine And.intro (by omega) ?_)
          refine hK2 _ _ ?_
          clear hK2 K2
          simp only [List.drop_succ_cons, List.drop_zero]
          push_cast [hb2, hb3, hb4]
          repeat (refine And.intro (by omega) ?_)
          refine hK _ ?_
          clear hK K
          have hv := Option.some.inj h
          rw [← hv] at hk1
          refine Exists.intro (false) (And.intro hk1 ?_)
          refine Sub.trans (Sub.lo _) ?_
          refine Sub.of ?_ ?_ ⟨rfl, rfl, Nat.le_of_ble_eq_true rfl⟩ rfl
          · push_cast [hb2, hb3, hb4]
          · push_cast [hb2, hb3, hb4]
    · replace h := cond_no hb2 h
      rcases Bool.eq_false_or_eq_true (a0 == 2) with hb5 | hb5
      · replace h := cond_yes hb5 h
        refine VC.lastF tabOkF [some 7, some 8, some 9, some 10, some 11, some 12, some 13, some 14, some 15, some 16, some 17, some 18, some 19, some 20, some 21, some 22] rfl rfl (fun K hK => ?_)
        refine runOps_cut 8 (fun K2 hK2 => ?_)
        push_cast [hb2, hb5]
        repeat (refine And.intro (by omega) ?_)
        refine hK2 _ _ ?_
        clear hK2 K2
        simp only [List.drop_succ_cons, List.drop_zero]
        push_cast [hb2, hb5]
        repeat (refine And.intro (by omega) ?_)
        refine hK _ ?_
        clear hK K
        have hv := Option.some.inj h
        rw [← hv] at hk1
        refine Exists.intro (((a1.length : Int) == 2)) (And.intro hk1 ?_)
        refine Sub.trans (Sub.lo _) ?_
        refine Sub.of ?_ ?_ ⟨rfl, rfl, Nat.le_of_ble_eq_true rfl⟩ rfl
        · push_cast [hb2, hb5]
        · push_cast [hb2, hb5]
      · replace h := cond_no hb5 h
        refine VC.lastF tabOkF [some 7, some 8, some 9, some 10, some 11, some 12, some 13, some 14, some 15, some 16, some 17, some 18, some 19, some 20, some 21, some 22] rfl rfl (fun K hK => ?_)
        refine runOps_cut 8 (fun K2 hK2 => ?_)
        push_cast [hb2, hb5]
        repeat (refine And.intro (by omega) ?_)
        refine hK2 _ _ ?_
        clear hK2 K2
        simp only [List.drop_succ_cons, List.drop_zero]
        push_cast [hb2, hb5]
        repeat (refine And.intro (by omega) ?_)
        refine hK _ ?_
        clear hK K
        have hv := Option.some.inj h
        rw [← hv] at hk1
        refine Exists.intro (false) (And.intro hk1 ?_)
        refine Sub.trans (Sub.lo _) ?_
        refine Sub.of ?_ ?_ ⟨rfl, rfl, Nat.le_of_ble_eq_true rfl⟩ rfl
        · push_cast [hb2, hb5]
        · push_cast [hb2, hb5]
  · rintro i_1 h
    replace h : p_delta_Of_J1 a1 i_1 = some r := h
    try push_cast
    unfold p_delta_Of_J1 at h
    refine VC.cond rfl rfl (fun hc6 => ?_) (fun hc6 => ?_)
    · have hb6 : i_1 = true := by simpa using hc6
      replace h := cond_yes hb6 h
      obtain ⟨x7, hx7, h⟩ := po_some h
      have hx71 := get_ltI hx7
      have hx72 := get_lt hx7
      obtain ⟨x8, hx8, h⟩ := po_some h
      have hx81 := get_ltI hx8
      have hx82 := get_lt hx8
      refine VC.seqFD tabOkF hmixO [some 23, some 24, some 25, some 26, some 27, some 28, some 4, some 5, some 6] [4, 5, 6] rfl rfl rfl (fun K hK => ?_)
      push_cast [hb6, hx7, hx71, hx72, hx8, hx81, hx82]
      repeat (refine And.intro (by omega) ?_)
      refine ⟨rfl, hK _ ?_⟩
      clear hK K
      refine VC.ret ?_
      have hr := Option.some.inj h
      subst hr
      refine endP (Sub.lo _) (Post.ret ?_ ?_ ?_)
      · push_cast [hb6]
      · push_cast [hb6]
      · rfl
    · have hb6 : i_1 = false := by simpa using hc6
      replace h := cond_no hb6 h
      refine VC.skip ?_
      refine VC.seqF tabOkF [some 4, some 5, some 6] [4, 5, 6] rfl rfl (fun K hK => ?_)
      push_cast [hb6]
      repeat (refine And.intro (by omega) ?_)
      refine hK _ ?_
      clear hK K
      refine VC.ret ?_
      have hr := Option.some.inj h
      subst hr
      refine endP (Sub.lo _) (Post.ret ?_ ?_ ?_)
      · push_cast [hb6]
      · push_cast [hb6]
      · rfl
end Go.Proofs.Ytpmnchgpbojppaa

/- The plain function of drydock/drydocklaw19.awake. -/
set_option linter.unusedVariables false
set_option linter.unusedSimpArgs false
namespace Go.Proofs.Ytpmnchgpbojppaa
open Go Go.RowKit Go.Proofs.Try
noncomputable def p_drydocklaw19_awake_J5 (i_1 : Bool) : Option (Bool) :=
  some i_1
noncomputable def p_drydocklaw19_awake : Option (Bool) :=
  po (p_delta_Note (T_Delta.mk [] false) 5) fun r1 =>
  po (p_delta_Note r1 6) fun r2 =>
  po (p_delta_Note r2 5) fun r3 =>
  po (p_delta_Of 2 ([2, 9])) fun r4 =>
  po (
  cond ((r3.L.length : Int) == 2) (
  po (r3.L[0]?) fun x7 =>
  cond ((x7.toNat : Int) == 5) (
  po (r3.L[1]?) fun x9 =>
  cond ((x9.toNat : Int) == 6) (
  po (p_delta_May r3) fun r11 =>
  cond r11 (
  cond ((r4.1.toNat : Int) == 2) (
  cond ((r4.2.1.toNat : Int) == 9) (
  some r4.2.2) (
  some false)) (
  some false)) (
  some false)) (
  some false)) (
  some false)) (
  some false)) (fun x => p_drydocklaw19_awake_J5 x)
set_option maxHeartbeats 4000000 in
set_option maxRecDepth 100000 in
theorem c_drydocklaw19_awake {r : Bool} (h : p_drydocklaw19_awake = some r) : Ctr prog 51 [] [] (.raw (.bool r)) [] := by
  unfold p_drydocklaw19_awake at h
  refine Ctr.ofW tabOk func51 rfl call51 0 _ ntmps51 [.tmp 0] rfl rfl rfl (fun B => ?_)
  refine VC.seqF tabOkF [some 0] [] rfl rfl (fun K hK => ?_)
  push_cast
  repeat (refine And.intro (by omega) ?_)
  refine hK _ ?_
  clear hK K
  obtain ⟨r1, hr1, h⟩ := po_some h
  obtain ⟨r2, hr2, h⟩ := po_some h
  obtain ⟨r3, hr3, h⟩ := po_some h
  refine VC.seqF tabOkF [some 5, some 6, some 7, some 8, some 1, none] [1] rfl rfl (fun K hK => ?_)
  push_cast
  repeat (refine And.intro (by omega) ?_)
  refine callH (H := []) (Ctr.loH (Ctr.ren (Bij.swp 0 2 Bij.id) (c_delta_Note (T_Delta.mk [] false) 5 hr1) (by push_cast) (by push_cast))) (by push_cast) rfl rfl rfl ?_
  push_cast
  repeat (refine And.intro (by omega) ?_)
  refine callH (H := [(2, .row 25 1 0 (r1.L.map encU32))]) (Ctr.consume (args0 := [.agg [.sl false (r1.L.map encU32), .raw (.bool r1.Over)], .raw (.int .u32 6)]) (Ctr.ren (Bij.swp 0 3 Bij.id) (c_delta_Note r1 6 hr2) (by push_cast) (by push_cast)) (by push_cast) rfl) (by push_cast) rfl rfl rfl ?_
  push_cast
  repeat (refine And.intro (by omega) ?_)
  refine callH (H := [(3, .row 25 1 0 (r2.L.map encU32))]) (Ctr.consume (args0 := [.agg [.sl false (r2.L.map encU32), .raw (.bool r2.Over)], .raw (.int .u32 5)]) (Ctr.ren (Bij.swp 0 4 Bij.id) (c_delta_Note r2 5 hr3) (by push_cast) (by push_cast)) (by push_cast) rfl) (by push_cast) rfl rfl rfl ?_
  push_cast
  repeat (refine And.intro (by omega) ?_)
  refine hK _ ?_
  clear hK K
  refine VC.sub (s' := ⟨[(1, .ref 5 0)], [(4, .row 25 1 0 (r3.L.map encU32)), (5, .box 97 [.row 4 0 1 0 r3.L.length, .raw (.bool r3.Over)])], 7, 48, 0⟩) (Sub.of ?_ ?_ ⟨rfl, rfl, Nat.le_of_ble_eq_true rfl⟩ rfl) ?_
  · push_cast
  · push_cast
  obtain ⟨r4, hr4, h⟩ := po_some h
  refine VC.seqF tabOkF [some 10, some 11, some 9, some 12, some 13, some 14, some 2, some 3, some 4] [1, 2, 3, 4] rfl rfl (fun K hK => ?_)
  push_cast
  repeat (refine And.intro (by omega) ?_)
  refine callH (H := [(7, .row 25 1 0 (([2, 9]).map encU32))]) (H' := _) (Ctr.borrow (c_delta_Of 2 ([2, 9]) hr4) (by push_cast) rfl) (by push_cast) rfl rfl rfl ?_
  push_cast
  repeat (refine And.intro (by omega) ?_)
  refine hK _ ?_
  clear hK K
  refine VC.sub (s' := ⟨[(1, .ref 5 0), (2, .raw (.int .u32 (r4.1.toNat : Int))), (3, .raw (.int .u32 (r4.2.1.toNat : Int))), (4, .raw (.bool r4.2.2))], [(4, .row 25 1 0 (r3.L.map encU32)), (5, .box 97 [.row 4 0 1 0 r3.L.length, .raw (.bool r3.Over)])], 16, 48, 0⟩) (Sub.of ?_ ?_ ⟨rfl, rfl, Nat.le_of_ble_eq_true rfl⟩ rfl) ?_
  · push_cast
  · push_cast
  obtain ⟨v5, h, hk5⟩ := po_some h
  refine VC.seqJ (X := Bool) (fun x => p_drydocklaw19_awake_J5 x = some r) (fun x => ⟨[(0, .raw (.bool x))], [], 50, 48, 0⟩) ?_ ?_
  · rcases Bool.eq_false_or_eq_true ((r3.L.length : Int) == 2) with hb6 | hb6
    · replace h := cond_yes hb6 h
      obtain ⟨x7, hx7, h⟩ := po_some h
      have hx71 := get_ltI hx7
      have hx72 := get_lt hx7
      rcases Bool.eq_false_or_eq_true ((x7.toNat : Int) == 5) with hb8 | hb8
      · replace h := cond_yes hb8 h
        obtain ⟨x9, hx9, h⟩ := po_some h
        have hx91 := get_ltI hx9
        have hx92 := get_lt hx9
        rcases Bool.eq_false_or_eq_true ((x9.toNat : Int) == 6) with hb10 | hb10
        · replace h := cond_yes hb10 h
          obtain ⟨r11, hr11, h⟩ := po_some h
          rcases Bool.eq_false_or_eq_true r11 with hb12 | hb12
          · replace h := cond_yes hb12 h
            rcases Bool.eq_false_or_eq_true ((r4.1.toNat : Int) == 2) with hb13 | hb13
            · replace h := cond_yes hb13 h
              rcases Bool.eq_false_or_eq_true ((r4.2.1.toNat : Int) == 9) with hb14 | hb14
              · replace h := cond_yes hb14 h
                refine VC.lastF tabOkF [some 15, some 16, some 17, some 18, some 19, some 20, some 21, some 22, some 23, some 24, some 25, some 26, some 27, some 28, some 29, some 30, some 31, some 32, some 33, some 34, some 35, some 36, some 37, some 38, some 39, some 40, some 41, some 42, some 43, some 44, some 45, some 46, some 47, some 0] rfl rfl (fun K hK => ?_)
                refine runOps_cut 8 (fun K2 hK2 => ?_)
                push_cast [hb6, hx7, hx71, hx72, hb8, hx9, hx91, hx92, hb10, hb12, hb13, hb14]
                repeat (refine And.intro (by omega) ?_)
                refine hK2 _ _ ?_
                clear hK2 K2
                simp only [List.drop_succ_cons, List.drop_zero]
                refine runOps_cut 8 (fun K2 hK2 => ?_)
                push_cast [hb6, hx7, hx71, hx72, hb8, hx9, hx91, hx92, hb10, hb12, hb13, hb14]
                repeat (refine And.intro (by omega) ?_)
                refine hK2 _ _ ?_
                clear hK2 K2
                simp only [List.drop_succ_cons, List.drop_zero]
                refine runOps_cut 8 (fun K2 hK2 => ?_)
                push_cast [hb6, hx7, hx71, hx72, hb8, hx9, hx91, hx92, hb10, hb12, hb13, hb14]
                repeat (refine And.intro (by omega) ?_)
                refine callH (H := [(4, .row 25 1 0 (r3.L.map encU32))]) (H' := _) (Ctr.borrow (c_delta_May r3 hr11) (by push_cast [hb6, hx7, hx71, hx72, hb8, hx9, hx91, hx92, hb10, hb12, hb13, hb14]) rfl) (by push_cast [hb6, hx7, hx71, hx72, hb8, hx9, hx91, hx92, hb10, hb12, hb13, hb14]) rfl rfl rfl ?_
                push_cast [hb6, hx7, hx71, hx72, hb8, hx9, hx91, hx92, hb10, hb12, hb13, hb14]
                repeat (refine And.intro (by omega) ?_)
                refine hK2 _ _ ?_
                clear hK2 K2
                simp only [List.drop_succ_cons, List.drop_zero]
                push_cast [hb6, hx7, hx71, hx72, hb8, hx9, hx91, hx92, hb10, hb12, hb13, hb14]
                repeat (refine And.intro (by omega) ?_)
                refine hK _ ?_
                clear hK K
                have hv := Option.some.inj h
                rw [← hv] at hk5
                refine Exists.intro (r4.2.2) (And.intro hk5 ?_)
                refine Sub.trans (Sub.lo _) ?_
                refine Sub.of ?_ ?_ ⟨rfl, rfl, Nat.le_of_ble_eq_true rfl⟩ rfl
                · push_cast [hb6, hb8, hb10, hb12, hb13, hb14]
                · push_cast [hb6, hb8, hb10, hb12, hb13, hb14]
              · replace h := cond_no hb14 h
                refine VC.lastF tabOkF [some 15, some 16, some 17, some 18, some 19, some 20, some 21, some 22, some 23, some 24, some 25, some 26, some 27, some 28, some 29, some 30, some 31, some 32, some 33, some 34, some 35, some 36, some 37, some 38, some 39, some 40, some 41, some 42, some 43, some 44, some 45, some 46, some 47, some 0] rfl rfl (fun K hK => ?_)
                refine runOps_cut 8 (fun K2 hK2 => ?_)
                push_cast [hb6, hx7, hx71, hx72, hb8, hx9, hx91, hx92, hb10, hb12, hb13, hb14]
                repeat (refine And.intro (by omega) ?_)
                refine hK2 _ _ ?_
                clear hK2 K2
                simp only [List.drop_succ_cons, List.drop_zero]
                refine runOps_cut 8 (fun K2 hK2 => ?_)
                push_cast [hb6, hx7, hx71, hx72, hb8, hx9, hx91, hx92, hb10, hb12, hb13, hb14]
                repeat (refine And.intro (by omega) ?_)
                refine hK2 _ _ ?_
                clear hK2 K2
                simp only [List.drop_succ_cons, List.drop_zero]
                refine runOps_cut 8 (fun K2 hK2 => ?_)
                push_cast [hb6, hx7, hx71, hx72, hb8, hx9, hx91, hx92, hb10, hb12, hb13, hb14]
                repeat (refine And.intro (by omega) ?_)
                refine callH (H := [(4, .row 25 1 0 (r3.L.map encU32))]) (H' := _) (Ctr.borrow (c_delta_May r3 hr11) (by push_cast [hb6, hx7, hx71, hx72, hb8, hx9, hx91, hx92, hb10, hb12, hb13, hb14]) rfl) (by push_cast [hb6, hx7, hx71, hx72, hb8, hx9, hx91, hx92, hb10, hb12, hb13, hb14]) rfl rfl rfl ?_
                push_cast [hb6, hx7, hx71, hx72, hb8, hx9, hx91, hx92, hb10, hb12, hb13, hb14]
                repeat (refine And.intro (by omega) ?_)
                refine hK2 _ _ ?_
                clear hK2 K2
                simp only [List.drop_succ_cons, List.drop_zero]
                push_cast [hb6, hx7, hx71, hx72, hb8, hx9, hx91, hx92, hb10, hb12, hb13, hb14]
                repeat (refine And.intro (by omega) ?_)
                refine hK _ ?_
                clear hK K
                have hv := Option.some.inj h
                rw [← hv] at hk5
                refine Exists.intro (false) (And.intro hk5 ?_)
                refine Sub.trans (Sub.lo _) ?_
                refine Sub.of ?_ ?_ ⟨rfl, rfl, Nat.le_of_ble_eq_true rfl⟩ rfl
                · push_cast [hb6, hb8, hb10, hb12, hb13, hb14]
                · push_cast [hb6, hb8, hb10, hb12, hb13, hb14]
            · replace h := cond_no hb13 h
              refine VC.lastF tabOkF [some 15, some 16, some 17, some 18, some 19, some 20, some 21, some 22, some 23, some 24, some 25, some 26, some 27, some 28, some 29, some 30, some 31, some 32, some 33, some 34, some 35, some 36, some 37, some 38, some 39, some 40, some 41, some 42, some 43, some 44, some 45, some 46, some 47, some 0] rfl rfl (fun K hK => ?_)
              refine runOps_cut 8 (fun K2 hK2 => ?_)
              push_cast [hb6, hx7, hx71, hx72, hb8, hx9, hx91, hx92, hb10, hb12, hb13]
              repeat (refine And.intro (by omega) ?_)
              refine hK2 _ _ ?_
              clear hK2 K2
              simp only [List.drop_succ_cons, List.drop_zero]
              refine runOps_cut 8 (fun K2 hK2 => ?_)
              push_cast [hb6, hx7, hx71, hx72, hb8, hx9, hx91, hx92, hb10, hb12, hb13]
              repeat (refine And.intro (by omega) ?_)
              refine hK2 _ _ ?_
              clear hK2 K2
              simp only [List.drop_succ_cons, List.drop_zero]
              refine runOps_cut 8 (fun K2 hK2 => ?_)
              push_cast [hb6, hx7, hx71, hx72, hb8, hx9, hx91, hx92, hb10, hb12, hb13]
              repeat (refine And.intro (by omega) ?_)
              refine callH (H := [(4, .row 25 1 0 (r3.L.map encU32))]) (H' := _) (Ctr.borrow (c_delta_May r3 hr11) (by push_cast [hb6, hx7, hx71, hx72, hb8, hx9, hx91, hx92, hb10, hb12, hb13]) rfl) (by push_cast [hb6, hx7, hx71, hx72, hb8, hx9, hx91, hx92, hb10, hb12, hb13]) rfl rfl rfl ?_
              push_cast [hb6, hx7, hx71, hx72, hb8, hx9, hx91, hx92, hb10, hb12, hb13]
              repeat (refine And.intro (by omega) ?_)
              refine hK2 _ _ ?_
              clear hK2 K2
              simp only [List.drop_succ_cons, List.drop_zero]
              push_cast [hb6, hx7, hx71, hx72, hb8, hx9, hx91, hx92, hb10, hb12, hb13]
              repeat (refine And.intro (by omega) ?_)
              refine hK _ ?_
              clear hK K
              have hv := Option.some.inj h
              rw [← hv] at hk5
              refine Exists.intro (false) (And.intro hk5 ?_)
              refine Sub.trans (Sub.lo _) ?_
              refine Sub.of ?_ ?_ ⟨rfl, rfl, Nat.le_of_ble_eq_true rfl⟩ rfl
              · push_cast [hb6, hb8, hb10, hb12, hb13]
              · push_cast [hb6, hb8, hb10, hb12, hb13]
          · replace h := cond_no hb12 h
            refine VC.lastF tabOkF [some 15, some 16, some 17, some 18, some 19, some 20, some 21, some 22, some 23, some 24, some 25, some 26, some 27, some 28, some 29, some 30, some 31, some 32, some 33, some 34, some 35, some 36, some 37, some 38, some 39, some 40, some 41, some 42, some 43, some 44, some 45, some 46, some 47, some 0] rfl rfl (fun K hK => ?_)
            refine runOps_cut 8 (fun K2 hK2 => ?_)
            push_cast [hb6, hx7, hx71, hx72, hb8, hx9, hx91, hx92, hb10, hb12]
            repeat (refine And.intro (by omega) ?_)
            refine hK2 _ _ ?_
            clear hK2 K2
            simp only [List.drop_succ_cons, List.drop_zero]
            refine runOps_cut 8 (fun K2 hK2 => ?_)
            push_cast [hb6, hx7, hx71, hx72, hb8, hx9, hx91, hx92, hb10, hb12]
            repeat (refine And.intro (by omega) ?_)
            refine hK2 _ _ ?_
            clear hK2 K2
            simp only [List.drop_succ_cons, List.drop_zero]
            refine runOps_cut 8 (fun K2 hK2 => ?_)
            push_cast [hb6, hx7, hx71, hx72, hb8, hx9, hx91, hx92, hb10, hb12]
            repeat (refine And.intro (by omega) ?_)
            refine callH (H := [(4, .row 25 1 0 (r3.L.map encU32))]) (H' := _) (Ctr.borrow (c_delta_May r3 hr11) (by push_cast [hb6, hx7, hx71, hx72, hb8, hx9, hx91, hx92, hb10, hb12]) rfl) (by push_cast [hb6, hx7, hx71, hx72, hb8, hx9, hx91, hx92, hb10, hb12]) rfl rfl rfl ?_
            push_cast [hb6, hx7, hx71, hx72, hb8, hx9, hx91, hx92, hb10, hb12]
            repeat (refine And.intro (by omega) ?_)
            refine hK2 _ _ ?_
            clear hK2 K2
            simp only [List.drop_succ_cons, List.drop_zero]
            push_cast [hb6, hx7, hx71, hx72, hb8, hx9, hx91, hx92, hb10, hb12]
            repeat (refine And.intro (by omega) ?_)
            refine hK _ ?_
            clear hK K
            have hv := Option.some.inj h
            rw [← hv] at hk5
            refine Exists.intro (false) (And.intro hk5 ?_)
            refine Sub.trans (Sub.lo _) ?_
            refine Sub.of ?_ ?_ ⟨rfl, rfl, Nat.le_of_ble_eq_true rfl⟩ rfl
            · push_cast [hb6, hb8, hb10, hb12]
            · push_cast [hb6, hb8, hb10, hb12]
        · replace h := cond_no hb10 h
          refine VC.lastF tabOkF [some 15, some 16, some 17, some 18, some 19, some 20, some 21, some 22, some 23, some 24, some 25, some 26, some 27, some 28, some 29, some 30, some 31, some 32, some 33, some 34, some 35, some 36, some 37, some 38, some 39, some 40, some 41, some 42, some 43, some 44, some 45, some 46, some 47, some 0] rfl rfl (fun K hK => ?_)
          refine runOps_cut 8 (fun K2 hK2 => ?_)
          push_cast [hb6, hx7, hx71, hx72, hb8, hx9, hx91, hx92, hb10]
          repeat (refine And.intro (by omega) ?_)
          refine hK2 _ _ ?_
          clear hK2 K2
          simp only [List.drop_succ_cons, List.drop_zero]
          refine runOps_cut 8 (fun K2 hK2 => ?_)
          push_cast [hb6, hx7, hx71, hx72, hb8, hx9, hx91, hx92, hb10]
          repeat (refine And.intro (by omega) ?_)
          refine hK2 _ _ ?_
          clear hK2 K2
          simp only [List.drop_succ_cons, List.drop_zero]
          refine runOps_cut 8 (fun K2 hK2 => ?_)
          push_cast [hb6, hx7, hx71, hx72, hb8, hx9, hx91, hx92, hb10]
          repeat (refine And.intro (by omega) ?_)
          refine hK2 _ _ ?_
          clear hK2 K2
          simp only [List.drop_succ_cons, List.drop_zero]
          push_cast [hb6, hx7, hx71, hx72, hb8, hx9, hx91, hx92, hb10]
          repeat (refine And.intro (by omega) ?_)
          refine hK _ ?_
          clear hK K
          have hv := Option.some.inj h
          rw [← hv] at hk5
          refine Exists.intro (false) (And.intro hk5 ?_)
          refine Sub.trans (Sub.lo _) ?_
          refine Sub.of ?_ ?_ ⟨rfl, rfl, Nat.le_of_ble_eq_true rfl⟩ rfl
          · push_cast [hb6, hb8, hb10]
          · push_cast [hb6, hb8, hb10]
      · replace h := cond_no hb8 h
        refine VC.lastF tabOkF [some 15, some 16, some 17, some 18, some 19, some 20, some 21, some 22, some 23, some 24, some 25, some 26, some 27, some 28, some 29, some 30, some 31, some 32, some 33, some 34, some 35, some 36, some 37, some 38, some 39, some 40, some 41, some 42, some 43, some 44, some 45, some 46, some 47, some 0] rfl rfl (fun K hK => ?_)
        refine runOps_cut 8 (fun K2 hK2 => ?_)
        push_cast [hb6, hx7, hx71, hx72, hb8]
        repeat (refine And.intro (by omega) ?_)
        refine hK2 _ _ ?_
        clear hK2 K2
        simp only [List.drop_succ_cons, List.drop_zero]
        refine runOps_cut 8 (fun K2 hK2 => ?_)
        push_cast [hb6, hx7, hx71, hx72, hb8]
        repeat (refine And.intro (by omega) ?_)
        refine hK2 _ _ ?_
        clear hK2 K2
        simp only [List.drop_succ_cons, List.drop_zero]
        refine runOps_cut 8 (fun K2 hK2 => ?_)
        push_cast [hb6, hx7, hx71, hx72, hb8]
        repeat (refine And.intro (by omega) ?_)
        refine hK2 _ _ ?_
        clear hK2 K2
        simp only [List.drop_succ_cons, List.drop_zero]
        push_cast [hb6, hx7, hx71, hx72, hb8]
        repeat (refine And.intro (by omega) ?_)
        refine hK _ ?_
        clear hK K
        have hv := Option.some.inj h
        rw [← hv] at hk5
        refine Exists.intro (false) (And.intro hk5 ?_)
        refine Sub.trans (Sub.lo _) ?_
        refine Sub.of ?_ ?_ ⟨rfl, rfl, Nat.le_of_ble_eq_true rfl⟩ rfl
        · push_cast [hb6, hb8]
        · push_cast [hb6, hb8]
    · replace h := cond_no hb6 h
      refine VC.lastF tabOkF [some 15, some 16, some 17, some 18, some 19, some 20, some 21, some 22, some 23, some 24, some 25, some 26, some 27, some 28, some 29, some 30, some 31, some 32, some 33, some 34, some 35, some 36, some 37, some 38, some 39, some 40, some 41, some 42, some 43, some 44, some 45, some 46, some 47, some 0] rfl rfl (fun K hK => ?_)
      refine runOps_cut 8 (fun K2 hK2 => ?_)
      push_cast [hb6]
      repeat (refine And.intro (by omega) ?_)
      refine hK2 _ _ ?_
      clear hK2 K2
      simp only [List.drop_succ_cons, List.drop_zero]
      refine runOps_cut 8 (fun K2 hK2 => ?_)
      push_cast [hb6]
      repeat (refine And.intro (by omega) ?_)
      refine hK2 _ _ ?_
      clear hK2 K2
      simp only [List.drop_succ_cons, List.drop_zero]
      refine runOps_cut 8 (fun K2 hK2 => ?_)
      push_cast [hb6]
      repeat (refine And.intro (by omega) ?_)
      refine hK2 _ _ ?_
      clear hK2 K2
      simp only [List.drop_succ_cons, List.drop_zero]
      push_cast [hb6]
      repeat (refine And.intro (by omega) ?_)
      refine hK _ ?_
      clear hK K
      have hv := Option.some.inj h
      rw [← hv] at hk5
      refine Exists.intro (false) (And.intro hk5 ?_)
      refine Sub.trans (Sub.lo _) ?_
      refine Sub.of ?_ ?_ ⟨rfl, rfl, Nat.le_of_ble_eq_true rfl⟩ rfl
      · push_cast [hb6]
      · push_cast [hb6]
  · rintro i_1 h
    replace h : p_drydocklaw19_awake_J5 i_1 = some r := h
    try push_cast
    unfold p_drydocklaw19_awake_J5 at h
    refine VC.ret ?_
    have hr := Option.some.inj h
    subst hr
    refine endP (Sub.lo _) (Post.ret ?_ ?_ ?_)
    · push_cast
    · push_cast
    · rfl
end Go.Proofs.Ytpmnchgpbojppaa

/- The plain function of drydock/drydockref05.All. -/
set_option linter.unusedVariables false
set_option linter.unusedSimpArgs false
namespace Go.Proofs.Ytpmnchgpbojppaa
open Go Go.RowKit Go.Proofs.Try
noncomputable def p_drydockref05_All_L3 (a0 : (List T_Table)) (a1 : (List T_Table)) (i_1 : Int) : Option ((Int) ⊕ ((Unit) ⊕ (Bool))) :=
  cond (decide (i_1 < (a0.length : Int))) (
  po (idx a0 i_1) fun x5 =>
  po (idx a1 i_1) fun x6 =>
  po (p_drydockref05_Same x5 x6) fun r7 =>
  cond (!r7) (
  some (Sum.inr (Sum.inr false))) (
  some (Sum.inl (IntKind.i64.wrap (i_1 + 1))))) (
  some (Sum.inr (Sum.inl ())))
noncomputable def p_drydockref05_All_J2 : Option (Bool) :=
  some true
noncomputable def p_drydockref05_All (a0 : (List T_Table)) (a1 : (List T_Table)) : Option (Bool) :=
  cond ((a0.length : Int) != (a1.length : Int)) (
  some false) (
  pm (
  lpU (fun x => p_drydockref05_All_L3 a0 a1 x) 0) (fun x => p_drydockref05_All_J2))
set_option maxHeartbeats 4000000 in
set_option maxRecDepth 100000 in
theorem c_drydockref05_All (a0 : (List T_Table)) (a1 : (List T_Table)) {r : Bool} (h : p_drydockref05_All a0 a1 = some r) : Ctr prog 74 [.sl false (a0.map enc_Table), .sl false (a1.map enc_Table)] [] (.raw (.bool r)) [] := by
  unfold p_drydockref05_All at h
  refine Ctr.ofW tabOk func74 rfl call74 0 _ ntmps74 [.tmp 4] rfl rfl rfl (fun B => ?_)
  refine VC.seqF tabOkF [some 4] [0, 1] rfl rfl (fun K hK => ?_)
  push_cast
  repeat (refine And.intro (by omega) ?_)
  refine hK _ ?_
  clear hK K
  refine VC.seq ?_
  refine VC.seqF tabOkF [some 7, some 8, some 9, some 10, some 11] [0, 1, 11] rfl rfl (fun K hK => ?_)
  push_cast
  repeat (refine And.intro (by omega) ?_)
  refine hK _ ?_
  clear hK K
  refine VC.cond rfl rfl (fun hc1 => ?_) (fun hc1 => ?_)
  · have hb1 : ((a0.length : Int) != (a1.length : Int)) = true := by simpa using hc1
    replace h := cond_yes hb1 h
    refine VC.seqF tabOkF [some 4] [4] rfl rfl (fun K hK => ?_)
    push_cast [hb1]
    repeat (refine And.intro (by omega) ?_)
    refine hK _ ?_
    clear hK K
    refine VC.ret ?_
    have hr := Option.some.inj h
    subst hr
    refine endP (Sub.lo _) (Post.ret ?_ ?_ ?_)
    · push_cast [hb1]
    · push_cast [hb1]
    · rfl
  · have hb1 : ((a0.length : Int) != (a1.length : Int)) = false := by simpa using hc1
    replace h := cond_no hb1 h
    refine VC.skip ?_
    obtain ⟨v2, h, hk2⟩ := pm_some h
    refine VC.seqJ (X := Unit) (fun x => p_drydockref05_All_J2 = some r) (fun x => ⟨[], [], 30, 29, 0⟩) ?_ ?_
    · refine VC.seqF tabOkF [some 5] [0, 1, 5] rfl rfl (fun K hK => ?_)
      push_cast [hb1]
      repeat (refine And.intro (by omega) ?_)
      refine hK _ ?_
      clear hK K
      refine VC.block ?_
      refine VC.loopP h (fun x => ⟨[(0, .sl false (a0.map enc_Table)), (1, .sl false (a1.map enc_Table)), (5, .raw (.int .i64 x))], [], 26, 29, 0⟩) ?_ ?_
      · refine Sub.trans (Sub.lo _) ?_
        refine Sub.of ?_ ?_ ⟨rfl, rfl, Nat.le_of_ble_eq_true rfl⟩ rfl
        · push_cast [hb1]
        · push_cast [hb1]
      rintro i_1 b3 h hf3
      replace h : p_drydockref05_All_L3 a0 a1 i_1 = some b3 := h
      try push_cast
      unfold p_drydockref05_All_L3 at h
      refine VC.seq ?_
      refine VC.seqF tabOkF [some 12, some 13, some 14, some 15] [0, 1, 5, 15] rfl rfl (fun K hK => ?_)
      push_cast [hb1]
      repeat (refine And.intro (by omega) ?_)
      refine hK _ ?_
      clear hK K
      refine VC.cond rfl rfl (fun hc4 => ?_) (fun hc4 => ?_)
      · have hb4 : (decide (i_1 < (a0.length : Int))) = true := by simpa using hc4
        replace h := cond_yes hb4 h
        refine VC.skip ?_
        refine VC.seq ?_
        refine VC.block ?_
        obtain ⟨x5, hx5, h⟩ := po_some h
        obtain ⟨hx51, hx52, hx53, hx54⟩ := idx_some4 hx5
        obtain ⟨x6, hx6, h⟩ := po_some h
        obtain ⟨hx61, hx62, hx63, hx64⟩ := idx_some4 hx6
        obtain ⟨r7, hr7, h⟩ := po_some h
        refine VC.seqFD tabOkF hmixO [some 18, some 19, some 20, some 21, some 22, some 23, some 24, some 25, some 26, some 6] [0, 1, 5, 6] rfl rfl rfl (fun K hK => ?_)
        push_cast [hb1, hb4, hx51, hx52, hx53, hx54, hx61, hx62, hx63, hx64]
        repeat (refine And.intro (by omega) ?_)
        refine callPD (Ctr.lo (c_drydockref05_Same x5 x6 hr7)) rfl ?_
        push_cast [hb1, hb4, hx51, hx52, hx53, hx54, hx61, hx62, hx63, hx64]
        repeat (refine And.intro (by omega) ?_)
        refine ⟨rfl, hK _ ?_⟩
        clear hK K
        refine VC.seqF tabOkF [some 27, some 28] [0, 1, 5, 28] rfl rfl (fun K hK => ?_)
        push_cast [hb1, hb4, hx51, hx52, hx53, hx54, hx61, hx62, hx63, hx64]
        repeat (refine And.intro (by omega) ?_)
        refine hK _ ?_
        clear hK K
        refine VC.cond rfl rfl (fun hc8 => ?_) (fun hc8 => ?_)
        · have hb8 : (!r7) = true := by simpa using hc8
          replace h := cond_yes hb8 h
          refine VC.seqF tabOkF [some 4] [4] rfl rfl (fun K hK => ?_)
          push_cast [hb1, hb4, hx51, hx52, hx53, hx54, hx61, hx62, hx63, hx64, hb8]
          repeat (refine And.intro (by omega) ?_)
          refine hK _ ?_
          clear hK K
          refine VC.ret ?_
          replace h := congrArg some (hf3 _ (Option.some.inj h).symm)
          have hv := Option.some.inj h
          rw [← hv] at hk2
          replace h : some false = some r := hk2
          have hr := Option.some.inj h
          subst hr
          refine endP (Sub.lo _) (Post.ret ?_ ?_ ?_)
          · push_cast [hb1, hb4, hb8]
          · push_cast [hb1, hb4, hb8]
          · rfl
        · have hb8 : (!r7) = false := by simpa using hc8
          replace h := cond_no hb8 h
          refine VC.skip ?_
          refine VC.lastF tabOkF [some 16, some 17, some 5] rfl rfl (fun K hK => ?_)
          push_cast [hb1, hb4, hx51, hx52, hx53, hx54, hx61, hx62, hx63, hx64, hb8]
          repeat (refine And.intro (by omega) ?_)
          refine hK _ ?_
          clear hK K
          refine Exists.intro ((IntKind.i64.wrap (i_1 + 1))) (And.intro (Option.some.inj h).symm ?_)
          refine Sub.trans (Sub.lo _) ?_
          refine Sub.of ?_ ?_ ⟨rfl, rfl, Nat.le_of_ble_eq_true rfl⟩ rfl
          · push_cast [hb1, hb4, hb8]
          · push_cast [hb1, hb4, hb8]
      · have hb4 : (decide (i_1 < (a0.length : Int))) = false := by simpa using hc4
        replace h := cond_no hb4 h
        refine VC.exit ?_
        replace h := congrArg some (hf3 _ (Option.some.inj h).symm)
        have hv := Option.some.inj h
        rw [← hv] at hk2
        refine Exists.intro (()) (And.intro hk2 ?_)
        refine Sub.trans (Sub.lo _) ?_
        refine Sub.of ?_ ?_ ⟨rfl, rfl, Nat.le_of_ble_eq_true rfl⟩ rfl
        · push_cast [hb1, hb4]
        · push_cast [hb1, hb4]
    · rintro ⟨⟩ h
      replace h : p_drydockref05_All_J2 = some r := h
      try push_cast
      unfold p_drydockref05_All_J2 at h
      refine VC.seqF tabOkF [some 4] [4] rfl rfl (fun K hK => ?_)
      push_cast [hb1]
      repeat (refine And.intro (by omega) ?_)
      refine hK _ ?_
      clear hK K
      refine VC.ret ?_
      have hr := Option.some.inj h
      subst hr
      refine endP (Sub.lo _) (Post.ret ?_ ?_ ?_)
      · push_cast [hb1]
      · push_cast [hb1]
      · rfl
end Go.Proofs.Ytpmnchgpbojppaa

/- The plain function of drydock/drydockref06.Same. -/
set_option linter.unusedVariables false
set_option linter.unusedSimpArgs false
namespace Go.Proofs.Ytpmnchgpbojppaa
open Go Go.RowKit Go.Proofs.Try
noncomputable def p_drydockref06_Same_J2 (i_1 : Bool) : Option (Bool) :=
  some i_1
noncomputable def p_drydockref06_Same (a0 : T_Env) (a1 : T_Env) : Option (Bool) :=
  po (p_drydockref05_All a0.T a1.T) fun r1 =>
  po (
  cond r1 (
  cond (((a0.Ctx.a0.toNat : Int) == (a1.Ctx.a0.toNat : Int)) && (((a0.Ctx.a1.toNat : Int) == (a1.Ctx.a1.toNat : Int)) && (((a0.Ctx.a2.toNat : Int) == (a1.Ctx.a2.toNat : Int)) && ((a0.Ctx.a3.toNat : Int) == (a1.Ctx.a3.toNat : Int))))) (
  some ((a0.Seed.toNat : Int) == (a1.Seed.toNat : Int))) (
  some false)) (
  some false)) (fun x => p_drydockref06_Same_J2 x)
set_option maxHeartbeats 4000000 in
set_option maxRecDepth 100000 in
theorem c_drydockref06_Same (a0 : T_Env) (a1 : T_Env) {r : Bool} (h : p_drydockref06_Same a0 a1 = some r) : Ctr prog 44 [.agg (enc_Env a0), .agg (enc_Env a1)] [] (.raw (.bool r)) [] := by
  unfold p_drydockref06_Same at h
  refine Ctr.ofW tabOk func44 rfl call44 0 _ ntmps44 [.tmp 4] rfl rfl rfl (fun B => ?_)
  refine VC.seqF tabOkF [some 2, some 3, some 4] [2, 3] rfl rfl (fun K hK => ?_)
  push_cast
  repeat (refine And.intro (by omega) ?_)
  refine hK _ ?_
  clear hK K
  obtain ⟨r1, hr1, h⟩ := po_some h
  refine VC.seqF tabOkF [some 6, some 7, some 8, some 9, some 10, some 5] [2, 3, 5] rfl rfl (fun K hK => ?_)
  push_cast
  repeat (refine And.intro (by omega) ?_)
  refine callP (Ctr.lo (c_drydockref05_All a0.T a1.T hr1)) rfl ?_
  push_cast
  repeat (refine And.intro (by omega) ?_)
  refine hK _ ?_
  clear hK K
  obtain ⟨v2, h, hk2⟩ := po_some h
  refine VC.seqJ (X := Bool) (fun x => p_drydockref06_Same_J2 x = some r) (fun x => ⟨[(4, .raw (.bool x))], [], 25, 26, 0⟩) ?_ ?_
  · rcases Bool.eq_false_or_eq_true r1 with hb3 | hb3
    · replace h := cond_yes hb3 h
      rcases Bool.eq_false_or_eq_true (((a0.Ctx.a0.toNat : Int) == (a1.Ctx.a0.toNat : Int)) && (((a0.Ctx.a1.toNat : Int) == (a1.Ctx.a1.toNat : Int)) && (((a0.Ctx.a2.toNat : Int) == (a1.Ctx.a2.toNat : Int)) && ((a0.Ctx.a3.toNat : Int) == (a1.Ctx.a3.toNat : Int))))) with hb4 | hb4
      · replace h := cond_yes hb4 h
        refine VC.lastF tabOkF [some 11, some 12, some 13, some 14, some 15, some 16, some 17, some 18, some 19, some 20, some 21, some 22, some 23, some 24, some 25, some 4] rfl rfl (fun K hK => ?_)
        refine runOps_cut 8 (fun K2 hK2 => ?_)
        push_cast [hb3, hb4]
        repeat (refine And.intro (by omega) ?_)
        refine hK2 _ _ ?_
        clear hK2 K2
        simp only [List.drop_succ_cons, List.drop_zero]
        push_cast [hb3, hb4]
        repeat (refine And.intro (by omega) ?_)
        refine hK _ ?_
        clear hK K
        have hv := Option.some.inj h
        rw [← hv] at hk2
        refine Exists.intro (((a0.Seed.toNat : Int) == (a1.Seed.toNat : Int))) (And.intro hk2 ?_)
        refine Sub.trans (Sub.lo _) ?_
        refine Sub.of ?_ ?_ ⟨rfl, rfl, Nat.le_of_ble_eq_true rfl⟩ rfl
        · push_cast [hb3, hb4]
        · push_cast [hb3, hb4]
      · replace h := cond_no hb4 h
        refine VC.lastF tabOkF [some 11, some 12, some 13, some 14, some 15, some 16, some 17, some 18, some 19, some 20, some 21, some 22, some 23, some 24, some 25, some 4] rfl rfl (fun K hK => ?_)
        refine runOps_cut 8 (fun K2 hK2 => ?_)
        push_cast [hb3, hb4]
        repeat (refine And.intro (by omega) ?_)
        refine hK2 _ _ ?_
        clear hK2 K2
        simp only [List.drop_succ_cons, List.drop_zero]
        push_cast [hb3, hb4]
        repeat (refine And.intro (by omega) ?_)
        refine hK _ ?_
        clear hK K
        have hv := Option.some.inj h
        rw [← hv] at hk2
        refine Exists.intro (false) (And.intro hk2 ?_)
        refine Sub.trans (Sub.lo _) ?_
        refine Sub.of ?_ ?_ ⟨rfl, rfl, Nat.le_of_ble_eq_true rfl⟩ rfl
        · push_cast [hb3, hb4]
        · push_cast [hb3, hb4]
    · replace h := cond_no hb3 h
      refine VC.lastF tabOkF [some 11, some 12, some 13, some 14, some 15, some 16, some 17, some 18, some 19, some 20, some 21, some 22, some 23, some 24, some 25, some 4] rfl rfl (fun K hK => ?_)
      refine runOps_cut 8 (fun K2 hK2 => ?_)
      push_cast [hb3]
      repeat (refine And.intro (by omega) ?_)
      refine hK2 _ _ ?_
      clear hK2 K2
      simp only [List.drop_succ_cons, List.drop_zero]
      push_cast [hb3]
      repeat (refine And.intro (by omega) ?_)
      refine hK _ ?_
      clear hK K
      have hv := Option.some.inj h
      rw [← hv] at hk2
      refine Exists.intro (false) (And.intro hk2 ?_)
      refine Sub.trans (Sub.lo _) ?_
      refine Sub.of ?_ ?_ ⟨rfl, rfl, Nat.le_of_ble_eq_true rfl⟩ rfl
      · push_cast [hb3]
      · push_cast [hb3]
  · rintro i_1 h
    replace h : p_drydockref06_Same_J2 i_1 = some r := h
    try push_cast
    unfold p_drydockref06_Same_J2 at h
    refine VC.ret ?_
    have hr := Option.some.inj h
    subst hr
    refine endP (Sub.lo _) (Post.ret ?_ ?_ ?_)
    · push_cast
    · push_cast
    · rfl
end Go.Proofs.Ytpmnchgpbojppaa

