/- Memory predicates: a slice that reads as a list of data (Kd), all of its memory below a block number; program-independent. -/
import Derived.WalkKit
import Derived.Lib.Hide
import Derived.Deep.QuietTactic
import Derived.BigQuiet
namespace Go.Proofs.Ytpmnchgpbojppaa
open Go Go.RowKit

theorem add_block (a : Addr) (n : Nat) : (a.add n).block = a.block := by unfold Addr.add; split <;> rfl
theorem add_add (a : Addr) (i j : Nat) : (a.add i).add j = a.add (i + j) := by
  unfold Addr.add
  by_cases hi : i = 0 <;> by_cases hj : j = 0 <;> simp [hi, hj, Nat.add_assoc]
/-- A field's address, as the walk spells it. -/
theorem add_fld (a : Addr) (n j : Nat) : a.add (n + (j + 1)) = ⟨(a.add n).block, (a.add n).off + (j + 1), none⟩ := by
  rw [← add_add]
  simp [Addr.add]
theorem add_fld' (a : Addr) (n j : Nat) (hj : 0 < j) : a.add (n + j) = ⟨(a.add n).block, (a.add n).off + j, none⟩ := by
  obtain ⟨j, rfl⟩ : ∃ m, j = m + 1 := ⟨j - 1, by omega⟩
  exact add_fld a n j
theorem add_lit0 (g j : Nat) : (⟨g, 0, none⟩ : Addr).add j = ⟨g, j, none⟩ := by unfold Addr.add; split <;> simp_all

/-- A kind of data: how many cells it takes, and what these cells say in a world, all memory behind them lying below block B. -/
structure Kd (α : Type) where
  sz : Nat
  K : World → Nat → α → List Value → Prop
  len_ : ∀ {w : World} {B : Nat} {x : α} {cs : List Value}, K w B x cs → cs.length = sz
  below_ : ∀ {w w' : World} {B : Nat} {x : α} {cs : List Value}, K w B x cs → Below B w w' → K w' B x cs
  mono_ : ∀ {w : World} {B B' : Nat} {x : α} {cs : List Value}, K w B x cs → B ≤ B' → K w B' x cs

/-- The slice '.slice A n c' reads as xs. -/
structure Kd.At {α : Type} (k : Kd α) (w : World) (B : Nat) (A : Option Addr) (n c : Nat) (xs : List α) : Prop where
  len : xs.length = n
  le : n ≤ c
  cap : c ≤ maxLen
  el : ∀ i x, xs[i]? = some x → ∃ ad cs, A = some ad ∧ ad.block < B ∧ (∀ j u, cs[j]? = some u → w.cell? (ad.add (i * k.sz + j)) = some u) ∧ k.K w B x cs

section
variable {α : Type} {k : Kd α} {w w' : World} {B B' : Nat} {A : Option Addr} {n c : Nat} {xs : List α}
theorem Kd.At.below (h : k.At w B A n c xs) (hb : Below B w w') : k.At w' B A n c xs :=
  ⟨h.len, h.le, h.cap, fun i x hx => by
    obtain ⟨ad, cs, e, hB, hc, hk⟩ := h.el i x hx
    exact ⟨ad, cs, e, hB, fun j u hu => (hb.cell (p := ad.add (i * k.sz + j)) (by rw [add_block]; exact hB)).trans (hc j u hu), k.below_ hk hb⟩⟩
theorem Kd.At.mono (h : k.At w B A n c xs) (hB : B ≤ B') : k.At w B' A n c xs :=
  ⟨h.len, h.le, h.cap, fun i x hx => by
    obtain ⟨ad, cs, e, hb, hc, hk⟩ := h.el i x hx
    exact ⟨ad, cs, e, by omega, hc, k.mono_ hk hB⟩⟩
theorem Kd.At.get (h : k.At w B A n c xs) {i : Nat} (hi : i < n) : ∃ x ad cs, xs[i]? = some x ∧ A = some ad ∧ ad.block < B ∧ (∀ j u, cs[j]? = some u → w.cell? (ad.add (i * k.sz + j)) = some u) ∧ k.K w B x cs := by
  have hl : i < xs.length := by rw [h.len]; exact hi
  obtain ⟨ad, cs, e, hB, hc, hk⟩ := h.el i xs[i] (List.getElem?_eq_getElem hl)
  exact ⟨xs[i], ad, cs, List.getElem?_eq_getElem hl, e, hB, hc, hk⟩
theorem Kd.At.nil (k : Kd α) (w : World) (B : Nat) (A : Option Addr) (c : Nat) (hc : c ≤ maxLen) : k.At w B A 0 c [] := ⟨rfl, Nat.zero_le _, hc, fun i x h => by simp at h⟩
theorem Kd.At.nle (h : k.At w B A n c xs) : n ≤ 9223372036854775807 := by have := h.le; have := h.cap; simp only [maxLen] at this; omega
end

/-- A slice of such data, as data. -/
def Kd.slice {α : Type} (k : Kd α) : Kd (List α) where
  sz := 1
  K w B xs cs := ∃ A n c, cs = [.slice A n c] ∧ k.At w B A n c xs
  len_ := by rintro w B x cs ⟨A, n, c, rfl, _⟩; rfl
  below_ := by rintro w w' B x cs ⟨A, n, c, rfl, h⟩ hb; exact ⟨A, n, c, rfl, h.below hb⟩
  mono_ := by rintro w B B' x cs ⟨A, n, c, rfl, h⟩ hb; exact ⟨A, n, c, rfl, h.mono hb⟩

/-- A whole number of a kind, told as a Nat: words, bytes. -/
def Kd.nat (ik : IntKind) (top : Nat) : Kd Nat where
  sz := 1
  K _ _ x cs := cs = [.int ik (x : Int)] ∧ x < top
  len_ := by rintro w B x cs ⟨rfl, _⟩; rfl
  below_ := fun h _ => h
  mono_ := fun h _ => h
/-- An int. -/
def Kd.int : Kd Int where
  sz := 1
  K _ _ x cs := cs = [.int .i64 x] ∧ -9223372036854775808 ≤ x ∧ x ≤ 9223372036854775807
  len_ := by rintro w B x cs ⟨rfl, _⟩; rfl
  below_ := fun h _ => h
  mono_ := fun h _ => h

def kW : Kd Nat := Kd.nat .u32 4294967296

theorem kW.get {w : World} {B : Nat} {A : Option Addr} {n c : Nat} {xs : List Nat} (h : kW.At w B A n c xs) {i : Nat} (hi : i < n) :
    ∃ x ad, xs[i]? = some x ∧ A = some ad ∧ ad.block < B ∧ w.cell? (ad.add i) = some (.int .u32 (x : Int)) ∧ x < 4294967296 := by
  obtain ⟨x, ad, cs, hx, e, hB, hc, hk⟩ := h.get hi
  obtain ⟨rfl, hx'⟩ := hk
  have h0 := hc 0 _ rfl
  refine ⟨x, ad, hx, e, hB, ?_, hx'⟩
  simpa [kW, Kd.nat] using h0

/-! ### Rows of the call's own -/
/-- What is owned, read. -/
theorem own_reads {α : Type} {k : Kd α} {w : World} {base : Nat} {e : TypeId} {v : Value} {n : Nat} {vs : List Value} {xs : List α}
    (h : w.ownsRow base e k.sz v n vs) (hl : xs.length = n) (hel : ∀ i x, xs[i]? = some x → k.K w w.heap.size x ((vs.drop (i * k.sz)).take k.sz)) :
    ∃ A c, v = .slice A n c ∧ k.At w w.heap.size A n c xs := by
  rcases h.2 with ⟨rfl, rfl⟩ | ⟨g, cap, cur, rfl, hb, hg, hnc, hcm, hcs, htake⟩
  · obtain rfl : xs = [] := List.eq_nil_of_length_eq_zero hl
    exact ⟨none, 0, rfl, Kd.At.nil k w _ none 0 (Nat.zero_le _)⟩
  · have hlt : g < w.heap.size := (Array.getElem?_eq_some_iff.1 hg).1
    refine ⟨_, cap, rfl, hl, hnc, hcm, fun i x hx => ⟨_, _, rfl, hlt, ?_, hel i x hx⟩⟩
    intro j u hu
    rw [add_lit0]
    have hjs : j < k.sz := by
      have h1 := (List.getElem?_eq_some_iff.1 hu).1
      simp only [List.length_take] at h1
      omega
    rw [List.getElem?_take, if_pos hjs, List.getElem?_drop] at hu
    have hcell := h.cells (g := g) rfl (i * k.sz + j) u hu
    rwa [add_lit0] at hcell

theorem own_lt' {w : World} {base : Nat} {e : TypeId} {size n : Nat} {v : Value} {xs : List Value} (h : w.ownsRow base e size v n xs) {k : Nat} (hk : v.ownBlock = some k) : base ≤ k ∧ k < w.heap.size := h.lt k hk
/-- Owned rows whose blocks lie below B stay so under 'Below B'. -/
theorem own_below {w w' : World} {base : Nat} {e : TypeId} {size n : Nat} {v : Value} {xs : List Value} (h : w.ownsRow base e size v n xs) (hb : Below w.heap.size w w') : w'.ownsRow base e size v n xs :=
  h.kept (row := none) ⟨hb.os, hb.tape, hb.output, hb.size, fun i hi _ => hb.block i hi⟩ (by cases v.ownBlock <;> simp)
theorem own_mono {w : World} {base base' : Nat} {e : TypeId} {size n : Nat} {v : Value} {xs : List Value} (h : w.ownsRow base e size v n xs) (hb : base' ≤ base) : w.ownsRow base' e size v n xs := by
  refine ⟨h.1, ?_⟩
  rcases h.2 with h2 | ⟨g, cap, cur, hv, hg, r⟩
  · exact .inl h2
  · exact .inr ⟨g, cap, cur, hv, by omega, r⟩
theorem below_then {B : Nat} {w w1 w2 : World} (h : Below B w w1) (k : Below w1.heap.size w1 w2) (hB : B ≤ w1.heap.size) : Below B w w2 :=
  h.trans (k.mono hB)
theorem grown_below {B : Nat} {w w1 w2 : World} {row : Option Nat} (h : Below B w w1) (hg : w1.grownBy w2 row) (hB : B ≤ w1.heap.size) (hr : ∀ k, row = some k → B ≤ k) : Below B w w2 := h.grown hg hB hr
/-- What stood below W's end reads in w1 as it did: two rules for the walk. -/
theorem bcell {B : Nat} {W w1 : World} (hb : Below B W w1) : (∀ b o, b < B → w1.cell? ⟨b, o, none⟩ = W.cell? ⟨b, o, none⟩) ∧ (∀ b o, b < B → w1.frozen? ⟨b, o, none⟩ = W.frozen? ⟨b, o, none⟩) :=
  ⟨fun b o h => hb.cell (p := ⟨b, o, none⟩) h, fun b o h => hb.frozen (p := ⟨b, o, none⟩) h⟩
theorem below_of {w W w1 : World} (h0 : Below w.heap.size w W) (h : Below W.heap.size W w1) : Below w.heap.size w w1 := h0.trans (h.mono h0.size)
theorem below_drewN {B : Nat} {a w : World} (h : Below B a w) (n : Nat) : Below B a (w.drewN n) := ⟨h.os, h.tape, h.output, h.size, h.block⟩
theorem below_box (w : World) (o : Obj) : Below w.heap.size w (w.alloc o) := (Below.refl _ _).alloc (Nat.le_refl _) o
/-- A box, named: the walk folds the world to W by the first part; b is the number of its block as the walk spells it. -/
theorem boxed (w : World) (b : Nat) (hb : w.heap.size = b) (cs : Array Value) (t : TypeId) : ∃ W, w.alloc (.cells cs t) = W ∧ Below b w W ∧ W.heap.size = b + 1 ∧ (∀ i, W.cell? ⟨b, i, none⟩ = cs[i]?) ∧ (∀ i, W.frozen? ⟨b, i, none⟩ = false) ∧ (∀ k i, k < b → W.cell? ⟨k, i, none⟩ = w.cell? ⟨k, i, none⟩) := by
  subst hb
  exact ⟨_, rfl, below_box _ _, by simp, fun i => cell_of_row _ _ i cs t (0, 0) (heap_alloc_new w _), fun i => frozen_of_row _ _ i cs t (heap_alloc_new w _), fun b i hb => World.cell?_alloc_lt _ _ _ hb⟩
/-- A call that only draws. -/
def Drawn (w w' : World) : Prop := ∃ m, w' = w.drewN m
theorem Drawn.refl (w : World) : Drawn w w := ⟨0, rfl⟩
theorem Drawn.step {w w' : World} (h : Drawn w w') (n : Nat) : Drawn w (w'.drewN n) := by
  obtain ⟨m, rfl⟩ := h
  exact ⟨m + n, World.drewN_drewN ..⟩
theorem Drawn.below {B : Nat} {w w' : World} (h : Drawn w w') : Below B w w' := by
  obtain ⟨m, rfl⟩ := h
  exact below_drewN (Below.refl _ _) m
theorem Drawn.quiet {P : Program} {f : FuncId} {args : Array Value} {w : World} {n : Nat} {v : Value}
    (h : Calls P f args (w.drewN n) fun e w' => e = .returned v ∧ Drawn (w.drewN n) w') : Calls P f args (w.drewN n) fun e w'' => e = .returned v ∧ ∃ m, w'' = w.drewN m :=
  h.mono fun _ _ ⟨he, m, hm⟩ => ⟨he, n + m, by rw [hm, World.drewN_drewN]⟩
/-- Two lists are the same where all places are. -/
theorem list_same {α : Type} {xs ys : List α} {n : Nat} (hx : xs.length = n) (hy : ys.length = n) (h : ∀ i, i < n → xs[i]? = ys[i]?) : xs = ys := by
  apply List.ext_getElem?
  intro i
  rcases Nat.lt_or_ge i n with hi | hi
  · exact h i hi
  · rw [List.getElem?_eq_none (by omega), List.getElem?_eq_none (by omega)]
/-- Are two the same? (A name, so that the walk does not look in.) -/
def sameB {α : Type} [DecidableEq α] (x y : α) : Bool := decide (x = y)
theorem sameB_iff {α : Type} [DecidableEq α] {x y : α} : sameB x y = true ↔ x = y := by simp [sameB]
theorem sameB_no {α : Type} [DecidableEq α] {x y : α} : sameB x y = false ↔ x ≠ y := by simp [sameB]
theorem sameB_self {α : Type} [DecidableEq α] (x : α) : sameB x x = true := sameB_iff.2 rfl
/-- A cell that is held over a call. -/
theorem keepCell {B : Nat} {w w' : World} {b o : Nat} {v : Value} (hb : Below B w w') (h : b < B) (hc : w.cell? ⟨b, o, none⟩ = some v) : w'.cell? ⟨b, o, none⟩ = some v := (hb.cell (p := ⟨b, o, none⟩) h).trans hc
/-- A block of the call's own in a later world. -/
theorem boxAt {B b : Nat} {w w' : World} {cs : Array Value} (hb : Below B w w') (h : b < B) (hc : ∀ i, w.cell? ⟨b, i, none⟩ = cs[i]?) : ∀ i, w'.cell? ⟨b, i, none⟩ = cs[i]? := fun i => (hb.cell (p := ⟨b, i, none⟩) h).trans (hc i)
theorem boxFz {B b : Nat} {w w' : World} (hb : Below B w w') (h : b < B) (hc : ∀ i, w.frozen? ⟨b, i, none⟩ = false) : ∀ i, w'.frozen? ⟨b, i, none⟩ = false := fun i => (hb.frozen (p := ⟨b, i, none⟩) h).trans (hc i)
theorem ret_int {k : IntKind} {a b : Int} (h : a = b) : Ending.returned (.int k a) = .returned (.int k b) := by rw [h]
theorem ret_bool {a b : Bool} (h : a = b) : Ending.returned (.bool a) = .returned (.bool b) := by rw [h]
end Go.Proofs.Ytpmnchgpbojppaa
