/- Laws of the builtin copy at elements of several cells, for the walk; whole blocks. -/
import Derived.Test.YtpmnchgpbojppaaMem
import Derived.Laws.CopyOwn
import Derived.Deep.RegionHeld3
namespace Go.Proofs.Ytpmnchgpbojppaa
open Go Go.RowKit

/-- Block g is just these cells, none frozen. -/
def Blk (w : World) (g : Nat) (t : TypeId) (cs : Array Value) : Prop := w.heap[g]? = some (.cells cs t (0, 0))
section
variable {w w' : World} {g : Nat} {t : TypeId} {cs : Array Value}
theorem Blk.lt (h : Blk w g t cs) : g < w.heap.size := (Array.getElem?_eq_some_iff.1 h).1
theorem Blk.cell (h : Blk w g t cs) (i : Nat) : w.cell? ⟨g, i, none⟩ = cs[i]? := cell_of_row w g i cs t (0, 0) h
theorem Blk.frozen (h : Blk w g t cs) (i : Nat) : w.frozen? ⟨g, i, none⟩ = false := frozen_of_row w g i cs t h
theorem Blk.new (w : World) (t : TypeId) (cs : Array Value) : Blk (w.alloc (.cells cs t)) w.heap.size t cs := heap_alloc_new w _
theorem Blk.drew (h : Blk w g t cs) : Blk w.drew g t cs := h
theorem Blk.drewN (h : Blk w g t cs) (n : Nat) : Blk (w.drewN n) g t cs := h
theorem Blk.alloc (h : Blk w g t cs) (o : Obj) : Blk (w.alloc o) g t cs := (Below.heap_alloc w o g h.lt).trans h
theorem Blk.set_ (h : Blk w g t cs) (i : Nat) (u : Value) : Blk (w.setCell ⟨g, i, none⟩ u) g t (cs.setIfInBounds i u) := heap_setCell_same w g i cs t u h
theorem Blk.far (h : Blk w g t cs) {p : Addr} (hp : g ≠ p.block) (u : Value) : Blk (w.setCell p u) g t cs := (heap_setCell_other w p g u hp).trans h
theorem Blk.below {B : Nat} (h : Blk w g t cs) (hb : Below B w w') (hg : g < B) : Blk w' g t cs := (hb.block g hg).trans h
theorem Blk.grown {row : Option Nat} (h : Blk w g t cs) (hb : w.grownBy w' row) (hg : some g ≠ row) : Blk w' g t cs := (hb.block g h.lt hg).trans h
end

theorem cell_set_ne {b k : Nat} (h : b ≠ k) (w : World) (i o : Nat) (v : Value) : (w.setCell ⟨k, i, none⟩ v).cell? ⟨b, o, none⟩ = w.cell? ⟨b, o, none⟩ := World.cell?_setCell_other _ _ _ _ (fun e => h (by cases e; rfl))
/-- Only block g has changed (and what is new). -/
def Only (g : Nat) (w w' : World) : Prop := w.grownBy w' (some g)
theorem Only.below {B g : Nat} {a w w' : World} (h : Below B a w) (ho : Only g w w') (hg : B ≤ g) (hB : B ≤ w.heap.size) : Below B a w' := h.grown ho hB (fun k hk => by cases hk; exact hg)
theorem Only.setCell (w : World) (g i : Nat) (u : Value) : Only g w (w.setCell ⟨g, i, none⟩ u) :=
  ⟨rfl, rfl, rfl, by simp, fun k _ hk => heap_setCell_other w ⟨g, i, none⟩ k u (fun e => hk (by simp [e]))⟩
theorem Only.setRow (w : World) (g : Nat) (cs : Array Value) : Only g w (w.setRow g cs) := ⟨rfl, rfl, rfl, by simp, fun k _ hk => setRow_other w g k _ (fun e => hk (by simp [e]))⟩
theorem Only.refl (g : Nat) (w : World) : Only g w w := ⟨rfl, rfl, rfl, Nat.le_refl _, fun _ _ _ => rfl⟩
theorem Only.trans {g : Nat} {a b c : World} (h : Only g a b) (k : Only g b c) : Only g a c :=
  ⟨k.os.trans h.os, k.tape.trans h.tape, k.output.trans h.output, Nat.le_trans h.size k.size, fun i hi hn => (k.block i (Nat.lt_of_lt_of_le hi h.size) hn).trans (h.block i hi hn)⟩
theorem Only.of_drew {g : Nat} {a b : World} (h : Only g a.drew b) : Only g a b := ⟨h.os, h.tape, h.output, h.size, h.block⟩
theorem Only.of_below {g : Nat} {a b : World} (h : Below a.heap.size a b) : Only g a b := ⟨h.os, h.tape, h.output, h.size, fun i hi _ => h.block i hi⟩
theorem Only.drewN {g : Nat} {a b : World} (h : Only g a b) (n : Nat) : Only g a (b.drewN n) := ⟨h.os, h.tape, h.output, h.size, h.block⟩

/-- A block that is made, named. -/
theorem boxedB (w : World) (b : Nat) (hb : w.heap.size = b) (cs : Array Value) (t : TypeId) : ∃ W, w.alloc (.cells cs t) = W ∧ Below b w W ∧ W.heap.size = b + 1 ∧ Blk W b t cs ∧ (∀ k i, k < b → W.cell? ⟨k, i, none⟩ = w.cell? ⟨k, i, none⟩) ∧ (∀ k i, k < b → W.frozen? ⟨k, i, none⟩ = w.frozen? ⟨k, i, none⟩) := by
  subst hb
  exact ⟨_, rfl, below_box _ _, by simp, heap_alloc_new w _, fun b i hb => World.cell?_alloc_lt _ _ _ hb, fun b i hb => World.frozen?_alloc_old _ _ _ (by simp only; omega)⟩
/-- A store into a block of the call's own, named. -/
theorem storedB {w : World} {g : Nat} {t : TypeId} {cs : Array Value} (h : Blk w g t cs) (i : Nat) (u : Value) : ∃ W, w.setCell ⟨g, i, none⟩ u = W ∧ Only g w W ∧ W.heap.size = w.heap.size ∧ Blk W g t (cs.setIfInBounds i u) ∧ (∀ k i, k ≠ g → W.cell? ⟨k, i, none⟩ = w.cell? ⟨k, i, none⟩) ∧ (∀ k i, W.frozen? ⟨k, i, none⟩ = w.frozen? ⟨k, i, none⟩) :=
  ⟨_, rfl, Only.setCell _ _ _ _, by simp, h.set_ _ _, fun k j hk => World.cell?_setCell_other _ _ _ _ (fun e => hk (by cases e; rfl)), fun k j => by simp⟩
theorem Only.cell {g : Nat} {w w' : World} (h : Only g w w') {a : Addr} {v : Value} (hc : w.cell? a = some v) (hne : a.block ≠ g) : w'.cell? a = some v := World.grownBy.cell h hc (fun e => hne (by cases e; rfl))

/-- All cells of a box stored anew, in order. -/
def setAll (w : World) (g : Nat) : Nat → List Value → World
  | _, [] => w
  | i, v :: vs => setAll (w.setCell ⟨g, i, none⟩ v) g (i + 1) vs
theorem setAll_only (g : Nat) : ∀ (vs : List Value) (i : Nat) (w : World), Only g w (setAll w g i vs)
  | [], _, w => Only.refl g w
  | v :: vs, i, w => (Only.setCell w g i v).trans (setAll_only g vs (i + 1) _)
theorem setAll_size (g : Nat) : ∀ (vs : List Value) (i : Nat) (w : World), (setAll w g i vs).heap.size = w.heap.size
  | [], _, _ => rfl
  | v :: vs, i, w => by rw [setAll, setAll_size]; simp
theorem Blk.setAll_ {g : Nat} {t : TypeId} : ∀ (vs : List Value) (i : Nat) (w : World) (cs : Array Value), Blk w g t cs → cs.size = i + vs.length → Blk (setAll w g i vs) g t (cs.toList.take i ++ vs).toArray
  | [], i, w, cs, h, hl => by
    rw [List.append_nil, List.take_of_length_le (by simp at hl ⊢; omega)]
    simpa [setAll] using h
  | v :: vs, i, w, cs, h, hl => by
    simp only [List.length_cons] at hl
    have ih := Blk.setAll_ vs (i + 1) _ _ (h.set_ i v) (by simp; omega)
    simp only [setAll]
    refine cast ?_ ih
    congr 2
    rw [Array.toList_setIfInBounds, List.take_add_one, List.take_set_of_le (by omega), List.getElem?_set_self (by simp; omega)]
    simp
theorem Blk.setBox {g : Nat} {t : TypeId} {w : World} {cs : Array Value} (h : Blk w g t cs) (vs : List Value) (hl : vs.length = cs.size) : Blk (setAll w g 0 vs) g t vs.toArray := by
  have := Blk.setAll_ vs 0 w cs h (by omega)
  simpa using this

section
variable {P : Program}
def structB : TypeDesc → Bool
  | .struct _ | .array _ _ => true
  | _ => false
/-- Results: a struct that lies in a box, and others. -/
theorem results_c {fn : Func} {p : Tmp} {ty : TypeId} (h : fn.results = #[.cell p ty]) {tmps : Array Value} {w : World} {g : Nat} {t : TypeId} {cs : Array Value} {d : TypeDesc}
    (hp : tmps.getD p undef = .pointer (some ⟨g, 0, none⟩)) (hg : Blk w g t cs)
    (hu : P.underlying ty = some d) (hd : structB d = true) (hi : (P.info? ty).map (·.size) = some cs.size) :
    (results fn tmps).run P w = .ok (.agg cs) w := results_cell_row (P := P) h tmps w g t cs (0, 0) d hp hg hu (by cases d <;> first | rfl | (simp [structB] at hd)) hi
theorem results_ct {fn : Func} {p u : Tmp} {ty : TypeId} (h : fn.results = #[.cell p ty, .tmp u]) {tmps : Array Value} {w : World} {g : Nat} {t : TypeId} {cs : Array Value} {d : TypeDesc}
    (hp : tmps.getD p undef = .pointer (some ⟨g, 0, none⟩)) (hg : Blk w g t cs)
    (hu : P.underlying ty = some d) (hd : structB d = true) (hi : (P.info? ty).map (·.size) = some cs.size) :
    (results fn tmps).run P w = .ok (.tuple #[.agg cs, tmps.getD u undef]) w := by
  have hp' : tmps[p]?.getD undef = .pointer (some ⟨g, 0, none⟩) := by simpa using hp
  simp [results, h, hp', asAddr, run_loadVar_row (P := P) w g t ty cs (0, 0) d hg hu (by cases d <;> first | rfl | (simp [structB] at hd)) hi]
theorem results_ctt {fn : Func} {p u v : Tmp} {ty : TypeId} (h : fn.results = #[.cell p ty, .tmp u, .tmp v]) {tmps : Array Value} {w : World} {g : Nat} {t : TypeId} {cs : Array Value} {d : TypeDesc}
    (hp : tmps.getD p undef = .pointer (some ⟨g, 0, none⟩)) (hg : Blk w g t cs)
    (hu : P.underlying ty = some d) (hd : structB d = true) (hi : (P.info? ty).map (·.size) = some cs.size) :
    (results fn tmps).run P w = .ok (.tuple #[.agg cs, tmps.getD u undef, tmps.getD v undef]) w := by
  have hp' : tmps[p]?.getD undef = .pointer (some ⟨g, 0, none⟩) := by simpa using hp
  simp [results, h, hp', asAddr, run_loadVar_row (P := P) w g t ty cs (0, 0) d hg hu (by cases d <;> first | rfl | (simp [structB] at hd)) hi]
theorem run_make_rowN (t e : TypeId) (i : TypeInfo) (z : Value) (ht : P.underlying t = some (.slice e)) (hi : P.info? e = some i) (hz : i.zero = some z)
    (kl kc : IntKind) (n c : Nat) (hnc : n ≤ c) (hbytes : i.bytes * c ≤ 281474976710656) (h63 : c ≤ 9223372036854775807) (w : World) :
    (Instr.makeSlice t (.int kl (n : Int)) (.int kc (c : Int))).run P w = .ok (.slice (some ⟨w.heap.size, 0, none⟩) n c) (w.alloc (.cells (madeCells z.cells (c * i.size)) e)) := by
  have hb : (i.bytes : Int) * (c : Int) ≤ 281474976710656 := by
    have h : ((i.bytes * c : Nat) : Int) ≤ 281474976710656 := by omega
    rwa [Int.natCast_mul] at h
  have hr := run_make (P := P) w t e i z ht hi hz kl kc n c (by omega) (by omega) hb (by omega)
  simp only [Int.toNat_natCast] at hr
  exact hr
/-- The same, of one closed fact on the element type. -/
theorem run_makeN (t e : TypeId) (z : Value) (size bytes : Nat) (ht : P.underlying t = some (.slice e)) (hinfo : (P.info? e).map (fun i => (i.zero, i.size, i.bytes)) = some (some z, size, bytes))
    (n : Nat) (hn : bytes * n ≤ 281474976710656) (h63 : n ≤ 9223372036854775807) (w : World) :
    (Instr.makeSlice t (.int .i64 (n : Int)) (.int .i64 (n : Int))).run P w = .ok (.slice (some ⟨w.heap.size, 0, none⟩) n n) (w.alloc (.cells (madeCells z.cells (n * size)) e)) := by
  obtain ⟨i, hi, hz, rfl, rfl⟩ := info_parts hinfo
  exact run_make_rowN t e i z ht hi hz .i64 .i64 n n (Nat.le_refl _) hn h63 w
/-- The address of a cut 'xs[m:]', as the model has it. -/
def cutA (A : Option Addr) (c m s : Nat) : Option Addr := if c = m then A else A.map (·.add (m * s))
theorem cutA_lt {a : Addr} {c m s : Nat} (h : m < c) : cutA (some a) c m s = some (a.add (m * s)) := by
  unfold cutA
  rw [if_neg (by omega)]
  rfl
/-- 'xs[m:]', laid ahead of the walk. -/
theorem run_cut (t e : TypeId) (size : Nat) (ht : P.underlying t = some (.slice e)) (hi : (P.info? e).map (·.size) = some size) (A : Option Addr) (n c m : Nat) (x : Int) (hx : x = (m : Int)) (hm : m ≤ n) (W : World) :
    (Instr.slice t (.slice A n c) (some (.int .i64 x)) none none).run P W = .ok (.slice (cutA A c m size) (n - m) (c - m)) W := by
  have hel : P.elem t = e := by simp [Program.elem, ht]
  have hu : P.underlying t = some (.slice (P.elem t)) := by rw [hel]; exact ht
  obtain ⟨i0, hi0, hs⟩ := Option.map_eq_some_iff.1 hi
  subst hx
  rw [run_slice_l W t A n c hu .i64 (m : Int) (Int.natCast_nonneg _) (by omega), hel]
  simp [sizeOf, typeInfo, hi0, hs, sliced, cutA, Result.andThen]
theorem run_copy_sized (w : World) (dT sT ty elem : TypeId) (i : TypeInfo) (size : Nat) (hu : P.underlying dT = some (.slice elem)) (hi : P.info? elem = some i) (hsz : i.size = size)
    (g o dLen dCap : Nat) (a : Addr) (sLen sCap : Nat) (cur : Array Value) (t : TypeId) (cs : List Value)
    (hg : w.heap[g]? = some (.cells cur t (0, 0))) (hn : cs.length = Nat.min sLen dLen * size)
    (hsrc : ∀ j v, cs[j]? = some v → w.cell? (a.add j) = some v) (hfit : o + cs.length ≤ cur.size) (h1 : ∀ v ∈ cs, v.oneCell' = true) :
    (Builtin.copy_ #[dT, sT] ty #[.slice (some ⟨g, o, none⟩) dLen dCap, .slice (some a) sLen sCap]).run P w =
      .ok (goInt (Nat.min sLen dLen)) (w.setRow g (cur.toList.take o ++ cs ++ cur.toList.drop (o + cs.length)).toArray) := by
  have hl := run_loadCells_list (P := P) w a cs hsrc
  have hst := run_storeCells_at P g o t cs 0 cur w hg (by simpa using hfit) h1
  simp [Builtin.copy_, run_underlying hu, Builtin.lenOf, Builtin.firstCells, sizeOf, typeInfo, hi, hsz, ← hn, hl, hst]

theorem run_copy_zero (w : World) (dT sT ty elem : TypeId) (i : TypeInfo) (hu : P.underlying dT = some (.slice elem)) (hi : P.info? elem = some i)
    (dp sp : Option Addr) (dLen dCap sLen sCap : Nat) (hn : Nat.min sLen dLen = 0) :
    (Builtin.copy_ #[dT, sT] ty #[.slice dp dLen dCap, .slice sp sLen sCap]).run P w = .ok (goInt 0) w := by
  cases dp <;> cases sp <;> simp [Builtin.copy_, run_underlying hu, Builtin.lenOf, Builtin.firstCells, sizeOf, typeInfo, hi, hn, loadCells, loadCellsFrom, storeCells]

/-- copy as one step, whatever the shape of the two; what goes over: cs. -/
theorem wp_copyS {w : World} {o : Oper} {a : Act} {K : Act → World → Prop} {Q : Exit → Act → World → Prop} (d s : Operand) (dT sT : TypeId)
    (ho : o.op = .call { callee := .builtin .copy, args := #[d, s], argTypes := #[dT, sT] }) (elem : TypeId) (i : TypeInfo) (size : Nat) (hu : P.underlying dT = some (.slice elem)) (hi : P.info? elem = some i) (hsz : i.size = size) (h0 : 0 < size)
    (dp sp : Option Addr) (dLen dCap sLen sCap : Nat) (hd : a.eval d = .slice dp dLen dCap) (hs : a.eval s = .slice sp sLen sCap)
    (g off : Nat) (cur : List Value) (t : TypeId) (hg : Blk w g t cur.toArray) (cs : List Value) (hn : cs.length = Nat.min sLen dLen * size)
    (hpos : 0 < cs.length → dp = some ⟨g, off, none⟩ ∧ ∃ ad, sp = some ad ∧ ∀ j v, cs[j]? = some v → w.cell? (ad.add j) = some v)
    (hfit : off + cs.length ≤ cur.length) (h1 : ∀ v ∈ cs, v.oneCell' = true)
    (h : ∀ w', Blk w' g t (splice cur off cs).toArray → Only g w w' → w'.heap.size = w.heap.size → K (a.put o.dst (goInt (Nat.min sLen dLen))) w') : o.wp P a w K Q := by
  by_cases hc : cs.length = 0
  · have hm : Nat.min sLen dLen = 0 := by
      rw [hc] at hn
      rcases Nat.eq_zero_or_pos (Nat.min sLen dLen) with h | h
      · exact h
      · have := Nat.mul_pos h h0; omega
    obtain rfl : cs = [] := List.eq_nil_of_length_eq_zero hc
    have hrun := run_copy_zero (P := P) w dT sT o.type elem i hu hi dp sp dLen dCap sLen sCap hm
    unfold Oper.wp
    simp [execOp, ho, resolve, invoke, builtin, hd, hs, hrun, Result.andThen]
    have := h w (by simpa [splice] using hg) (Only.refl _ _) rfl
    rwa [hm] at this
  · obtain ⟨rfl, ad, rfl, hsrc⟩ := hpos (by omega)
    have hrun := run_copy_sized (P := P) w dT sT o.type elem i size hu hi hsz g off dLen dCap ad sLen sCap cur.toArray t cs hg hn hsrc (by simpa using hfit) h1
    unfold Oper.wp
    simp only [execOp, ho, resolve, invoke, builtin, Sem.run_bind, Sem.run_pure, Result.andThen_ok, List.map_toArray, List.map_cons, List.map_nil, hd, hs, hrun]
    refine h _ ?_ (Only.setRow _ _ _) (by simp)
    have := setRow_heap w g cur.toArray (splice cur off cs).toArray t (0, 0) hg
    simpa [splice, Blk] using this

theorem wpList_copyS {w : World} {ops : Array Oper} {rest : List Oper} {o : Oper} {a : Act} {Q : Exit → Act → World → Prop} (hgd : o.guard = none) (d s : Operand) (dT sT : TypeId)
    (ho : o.op = .call { callee := .builtin .copy, args := #[d, s], argTypes := #[dT, sT] }) (elem : TypeId) (i : TypeInfo) (size : Nat) (hu : P.underlying dT = some (.slice elem)) (hi : P.info? elem = some i) (hsz : i.size = size) (h0 : 0 < size)
    (dp sp : Option Addr) (dLen dCap sLen sCap : Nat) (hd : a.eval d = .slice dp dLen dCap) (hs : a.eval s = .slice sp sLen sCap)
    (g off : Nat) (cur : List Value) (t : TypeId) (hg : Blk w g t cur.toArray) (cs : List Value) (hn : cs.length = Nat.min sLen dLen * size)
    (hpos : 0 < cs.length → dp = some ⟨g, off, none⟩ ∧ ∃ ad, sp = some ad ∧ ∀ j v, cs[j]? = some v → w.cell? (ad.add j) = some v)
    (hfit : off + cs.length ≤ cur.length) (h1 : ∀ v ∈ cs, v.oneCell' = true)
    (h : ∀ w', Blk w' g t (splice cur off cs).toArray → Only g w w' → w'.heap.size = w.heap.size → wpList P ops Q rest (a.put o.dst (goInt (Nat.min sLen dLen))) w') : wpList P ops Q (o :: rest) a w :=
  wpList_plain hgd fun _ hK => wp_copyS d s dT sT ho elem i size hu hi hsz h0 dp sp dLen dCap sLen sCap hd hs g off cur t hg cs hn hpos hfit h1 (fun w' a1 a2 a3 => hK _ _ (h w' a1 a2 a3))
end
end Go.Proofs.Ytpmnchgpbojppaa
