/- From a row's arguments to the abstract machine. -/
import Derived.Test.YtpmnchgpbojppaaArgs
import Derived.Test.YtpmnchgpbojppaaCt
set_option linter.unusedVariables false
namespace Go.Proofs.Ytpmnchgpbojppaa
open Go Go.RowKit Go.Proofs.Try Go.WideShapes Go.ChangeShapes Go.Deep

set_option maxRecDepth 100000
def lawCx (w : World) : Cx := ⟨fun b => b < w.heap.size, fun _ _ => False, fun _ => none, fun _ => 0⟩
/-- A law of the abstract machine, as a call. -/
theorem Ctr.law {P : Program} {f : FuncId} {args : List AV} (h : Ctr P f args [] (.raw (.bool true)) []) {w : World} {vals : Array Value} (hsz : vals.size = args.length)
    (ha : ∀ (i : Nat) (u : AV), args[i]? = some u → VRel w (lawCx w) [] u (vals.getD i undef)) : Calls P f vals w fun e w' => e = .returned (.bool true) ∧ Below w.heap.size w w' := by
  have hH : HRel w (lawCx w) [] := ⟨fun b h => h, fun id o h => by simp [look] at h, fun id t sz g els g' h => by simp [look] at h, fun id t sz g els h => by simp [look] at h, fun id o b h => by simp [look] at h, fun id id' o o' b h => by simp [look] at h, fun id o h => by simp [look] at h⟩
  refine Calls.mono (h.2 w (lawCx w) vals hH (fun id g h => h.elim) hsz ha) ?_
  rintro e w' ⟨v, x', rfl, st, hv, _⟩
  exact ⟨by rw [hv.rawEq], st.tr.os, st.tr.tape, st.tr.output, st.tr.size, fun k hk => st.tr.keep k hk fun id o h => by simp [look] at h⟩
theorem VRels.of1 {w : World} {x : Cx} {hp : Hp} {l : List AV} {m : List Value} (h : VRels w x hp l m) : ∀ (i : Nat) (u : AV), l[i]? = some u → VRel w x hp u (m.toArray.getD i undef) := h.at_
theorem kW_dat {w : World} {f : Bool} {A : Option Addr} {n c : Nat} {xs : List Nat} (ht : f = true → c = n) (h : kW.At w w.heap.size A n c xs) : Dat w (fun b => b < w.heap.size) (.sl f (xs.map encW)) (.slice A n c) := by
  have hlen : (xs.map encW).length = n := by rw [List.length_map, h.len]
  have key := Dat.sl (w := w) (ok := fun b => b < w.heap.size) f (xs.map encW) A c 1 (fun i j => match A with | some ad => (w.cell? (ad.add (i * 1 + j))).getD undef | none => undef) (by rw [hlen]; exact h.le) h.cap (by rw [hlen]; exact ht) ?_ ?_ ?_ ?_
  · rw [hlen] at key
    exact key
  · intro i cs hi
    rw [List.getElem?_map] at hi
    obtain ⟨x, _, rfl⟩ := Option.map_eq_some_iff.1 hi
    rfl
  · intro i cs hi
    rw [List.getElem?_map] at hi
    obtain ⟨x, hx, rfl⟩ := Option.map_eq_some_iff.1 hi
    obtain ⟨ad, cs, e, hB, _⟩ := h.el i x hx
    exact ⟨ad, e, hB⟩
  · intro i j cs a hi hj ha
    rw [List.getElem?_map] at hi
    obtain ⟨x, hx, rfl⟩ := Option.map_eq_some_iff.1 hi
    obtain ⟨ad, cs, e, hB, hc, rfl, _⟩ := h.el i x hx
    rw [e] at ha
    injection ha with ha
    subst ha
    subst e
    have : j = 0 := by omega
    subst this
    have h0 : w.cell? (ad.add (i * 1 + 0)) = some (.int .u32 (x : Int)) := hc 0 _ rfl
    simp only [h0, Option.getD_some]
    exact ⟨trivial, rfl⟩
  · intro i j cs u hi hu
    rw [List.getElem?_map] at hi
    obtain ⟨x, hx, rfl⟩ := Option.map_eq_some_iff.1 hi
    obtain ⟨ad, cs, e, hB, hc, rfl, _⟩ := h.el i x hx
    subst e
    match j, hu with
    | 0, hu =>
      simp only [encW, List.getElem?_cons_zero, Option.some.injEq] at hu
      subst hu
      have h0 : w.cell? (ad.add (i * 1 + 0)) = some (.int .u32 (x : Int)) := hc 0 _ rfl
      simp only [h0, Option.getD_some]
      exact .raw _
    | j + 1, hu => simp [encW] at hu
theorem kEnt_dat {w : World} {f : Bool} {A : Option Addr} {n c : Nat} {es : List Ent} (ht : f = true → c = n) (h : kEnt.At w w.heap.size A n c es) : Dat w (fun b => b < w.heap.size) (.sl f (es.map encEnt)) (.slice A n c) := by
  have hlen : (es.map encEnt).length = n := by rw [List.length_map, h.len]
  have key := Dat.sl (w := w) (ok := fun b => b < w.heap.size) f (es.map encEnt) A c 2 (fun i j => match A with | some ad => (w.cell? (ad.add (i * 2 + j))).getD undef | none => undef) (by rw [hlen]; exact h.le) h.cap (by rw [hlen]; exact ht) ?_ ?_ ?_ ?_
  · rw [hlen] at key
    exact key
  · intro i cs hi
    rw [List.getElem?_map] at hi
    obtain ⟨x, _, rfl⟩ := Option.map_eq_some_iff.1 hi
    rfl
  · intro i cs hi
    rw [List.getElem?_map] at hi
    obtain ⟨x, hx, rfl⟩ := Option.map_eq_some_iff.1 hi
    obtain ⟨ad, cs, e, hB, _⟩ := h.el i x hx
    exact ⟨ad, e, hB⟩
  · intro i j cs a hi hj ha
    rw [List.getElem?_map] at hi
    obtain ⟨x, hx, rfl⟩ := Option.map_eq_some_iff.1 hi
    obtain ⟨ad, cs, e, hB, hc, A', n', c', rfl, _, _⟩ := h.el i x hx
    rw [e] at ha
    injection ha with ha
    subst ha
    subst e
    have hj : j = 0 ∨ j = 1 := by omega
    rcases hj with rfl | rfl
    · have h0 : w.cell? (ad.add (i * 2 + 0)) = some (.int .u32 (x.key : Int)) := hc 0 _ rfl
      simp only [h0, Option.getD_some]
      exact ⟨trivial, rfl⟩
    · have h0 : w.cell? (ad.add (i * 2 + 1)) = some (.slice A' n' c') := hc 1 _ rfl
      simp only [h0, Option.getD_some]
      exact ⟨trivial, rfl⟩
  · intro i j cs u hi hu
    rw [List.getElem?_map] at hi
    obtain ⟨x, hx, rfl⟩ := Option.map_eq_some_iff.1 hi
    obtain ⟨ad, cs, e, hB, hc, A', n', c', rfl, _, hin⟩ := h.el i x hx
    subst e
    match j, hu with
    | 0, hu =>
      simp only [encEnt, List.getElem?_cons_zero, Option.some.injEq] at hu
      subst hu
      have h0 : w.cell? (ad.add (i * 2 + 0)) = some (.int .u32 (x.key : Int)) := hc 0 _ rfl
      simp only [h0, Option.getD_some]
      exact .raw _
    | 1, hu =>
      simp only [encEnt, List.getElem?_cons_succ, List.getElem?_cons_zero, Option.some.injEq] at hu
      subst hu
      have h0 : w.cell? (ad.add (i * 2 + 1)) = some (.slice A' n' c') := hc 1 _ rfl
      simp only [h0, Option.getD_some]
      exact kW_dat (by intro h; cases h) hin
    | j + 2, hu => simp [encEnt] at hu
theorem okEs_of {w : World} {B : Nat} {A : Option Addr} {n c : Nat} {es : List Ent} (h : kEnt.At w B A n c es) : okEs es := by
  intro e he
  obtain ⟨i, hi⟩ := List.mem_iff_getElem?.1 he
  obtain ⟨ad, cs, _, _, _, A', n', c', _, hk, hin⟩ := h.el i e hi
  refine ⟨hk, fun y hy => ?_⟩
  obtain ⟨j, hj⟩ := List.mem_iff_getElem?.1 hy
  obtain ⟨_, _, _, _, _, _, h2⟩ := hin.el j y hj
  exact h2
theorem lt32_of {w : World} {B : Nat} {A : Option Addr} {n c : Nat} {xs : List Nat} (h : kW.At w B A n c xs) : lt32 xs := by
  intro y hy
  obtain ⟨j, hj⟩ := List.mem_iff_getElem?.1 hy
  obtain ⟨_, _, _, _, _, _, h2⟩ := h.el j y hj
  exact h2
theorem tab_rel {w : World} {s : Sch} {A : Option Addr} {n c nx : Nat} {es : List Ent} (h : kEnt.At w w.heap.size A n c es) : VRel w (lawCx w) [] (avTab false ⟨s, es, nx⟩) (tabV s A n c nx) :=
  avTab_ofs rfl rfl (kEnt_dat (by intro h; cases h) h)
section
variable {H : Type} {enc : TypeId × Value → H} {w : World} {base : Nat} {spare : Nat → Bool} {held : Bool}
theorem open_words {v : Value} {d : DataW H} {p : List MemPlace} {r : Reach} {b0 : Nat} (hv : Value.okWide prog w r b0 36 v) (h : DataW.Trod enc prog w base spare held 36 v d p) : ∃ A n c xs, v = .slice A n c ∧ kW.At w w.heap.size A n c xs := by
  obtain ⟨a, len, cap, rfl⟩ := okWide_slice underlying36 hv
  obtain ⟨fuel, hf⟩ := h
  obtain ⟨A, n, c, xs, hc, hat⟩ := kW.of_trod hf
  injection hc with hc
  injection hc with e1 e2 e3
  subst e1
  subst e2
  subst e3
  exact ⟨_, _, _, xs, rfl, hat⟩
theorem open_i64 {v : Value} {d : DataW H} {p : List MemPlace} {r : Reach} {b0 : Nat} (hv : Value.okWide prog w r b0 3 v) (h : DataW.Trod enc prog w base spare held 3 v d p) : ∃ x : Int, v = .int .i64 x ∧ i64ok x := by
  obtain ⟨z, rfl, _, _, hw⟩ := open_int underlying3 hv h
  exact ⟨z, rfl, i64ok_of hw⟩
end
end Go.Proofs.Ytpmnchgpbojppaa
