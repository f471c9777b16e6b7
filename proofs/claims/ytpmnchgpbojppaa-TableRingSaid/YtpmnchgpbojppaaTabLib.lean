/- Tables: the data, how they lie in memory, and the plain functions on them. -/
import Derived.Test.YtpmnchgpbojppaaMem
namespace Go.Proofs.Ytpmnchgpbojppaa
open Go Go.RowKit

structure Sch where
  kind : Int
  cap : Int
  words : Int
  ver : Int
  deriving DecidableEq
structure Ent where
  key : Nat
  v : List Nat
  deriving DecidableEq
structure Tab where
  s : Sch
  e : List Ent
  next : Nat
  deriving DecidableEq
def i64ok (x : Int) : Prop := -9223372036854775808 ≤ x ∧ x ≤ 9223372036854775807
structure Sch.Ok (s : Sch) : Prop where
  kind : i64ok s.kind
  cap : i64ok s.cap
  words : i64ok s.words
  ver : i64ok s.ver

def Sch.cells (s : Sch) : List Value := [.int .i64 s.kind, .int .i64 s.cap, .int .i64 s.words, .int .i64 s.ver]
def kSch : Kd Sch where
  sz := 4
  K _ _ s cs := cs = s.cells ∧ s.Ok
  len_ := by rintro w B x cs ⟨rfl, _⟩; rfl
  below_ := fun h _ => h
  mono_ := fun h _ => h

def kEnt : Kd Ent where
  sz := 2
  K w B e cs := ∃ A n c, cs = [.int .u32 (e.key : Int), .slice A n c] ∧ e.key < 4294967296 ∧ kW.At w B A n c e.v
  len_ := by rintro w B x cs ⟨A, n, c, rfl, _⟩; rfl
  below_ := by rintro w w' B x cs ⟨A, n, c, rfl, hk, h⟩ hb; exact ⟨A, n, c, rfl, hk, h.below hb⟩
  mono_ := by rintro w B B' x cs ⟨A, n, c, rfl, hk, h⟩ hb; exact ⟨A, n, c, rfl, hk, h.mono hb⟩

def kTab : Kd Tab where
  sz := 6
  K w B t cs := ∃ A n c, cs = [.int .i64 t.s.kind, .int .i64 t.s.cap, .int .i64 t.s.words, .int .i64 t.s.ver, .slice A n c, .int .u32 (t.next : Int)] ∧ t.s.Ok ∧ t.next < 4294967296 ∧ kEnt.At w B A n c t.e
  len_ := by rintro w B x cs ⟨A, n, c, rfl, _⟩; rfl
  below_ := by rintro w w' B x cs ⟨A, n, c, rfl, hs, hk, h⟩ hb; exact ⟨A, n, c, rfl, hs, hk, h.below hb⟩
  mono_ := by rintro w B B' x cs ⟨A, n, c, rfl, hs, hk, h⟩ hb; exact ⟨A, n, c, rfl, hs, hk, h.mono hb⟩

/-- A table as a value. -/
def tabV (s : Sch) (A : Option Addr) (n c : Nat) (next : Nat) : Value :=
  .agg #[.int .i64 s.kind, .int .i64 s.cap, .int .i64 s.words, .int .i64 s.ver, .slice A n c, .int .u32 (next : Int)]

theorem kEnt.get {w : World} {B : Nat} {A : Option Addr} {n c : Nat} {es : List Ent} (h : kEnt.At w B A n c es) {i : Nat} (hi : i < n) :
    ∃ e ad A' n' c', es[i]? = some e ∧ A = some ad ∧ ad.block < B ∧ w.cell? (ad.add (i * 2)) = some (.int .u32 (e.key : Int)) ∧
      w.cell? ⟨(ad.add (i * 2)).block, (ad.add (i * 2)).off + 1, none⟩ = some (.slice A' n' c') ∧ e.key < 4294967296 ∧ kW.At w B A' n' c' e.v := by
  obtain ⟨x, ad, cs, hx, e, hB, hc, hk⟩ := h.get hi
  obtain ⟨A', n', c', rfl, hlt, hv⟩ := hk
  have h0 := hc 0 _ rfl
  have h1 := hc 1 _ rfl
  refine ⟨x, ad, A', n', c', hx, e, hB, ?_, ?_, hlt, hv⟩
  · simpa [kEnt] using h0
  · rw [show i * kEnt.sz + 1 = i * 2 + (0 + 1) from rfl, add_fld] at h1
    exact h1

/-! ### Plain functions -/
def inB (n lo hi : Int) : Bool := decide (lo ≤ n) && decide (n ≤ hi)
def Sch.may (s : Sch) : Bool := inB s.kind 0 3 && inB s.cap 1 16 && inB s.words 1 (if s.kind = 3 then 1 else 4) && inB s.ver 0 1000
/-- Where a key is, from k on. -/
def fidx (key : Nat) : List Ent → Nat → Int
  | [], _ => -1
  | e :: es, k => if e.key = key then (k : Int) else fidx key es (k + 1)
def Tab.at_ (t : Tab) (key : Nat) : Int := fidx key t.e 0
theorem fidx_lt (key : Nat) : ∀ (es : List Ent) (k : Nat), -1 ≤ fidx key es k ∧ fidx key es k < (k + es.length : Nat)
  | [], k => by simp [fidx]; omega
  | e :: es, k => by
    unfold fidx
    split
    · simp; omega
    · have := fidx_lt key es (k + 1)
      simp only [List.length_cons]
      omega
/-- Is an entry, at its place, as a table's entries must be? -/
def Tab.elOk (t : Tab) (i : Nat) (e : Ent) : Bool :=
  decide ((e.v.length : Int) = t.s.words) && decide (fidx e.key t.e 0 = (i : Int)) && (!decide (t.s.kind = 0) || decide (e.key = i)) &&
    (!decide (t.s.kind = 3) || decide (e.key = (t.next + (4294967296 - t.e.length) + i) % 4294967296))
theorem Tab.elOk_iff (t : Tab) (i : Nat) (e : Ent) : t.elOk i e = true ↔ (e.v.length : Int) = t.s.words ∧ fidx e.key t.e 0 = (i : Int) ∧ (t.s.kind = 0 → e.key = i) ∧ (t.s.kind = 3 → e.key = (t.next + (4294967296 - t.e.length) + i) % 4294967296) := by
  unfold Tab.elOk
  simp only [Bool.and_eq_true, Bool.or_eq_true, Bool.not_eq_true', decide_eq_true_eq, decide_eq_false_iff_not]
  constructor
  · rintro ⟨⟨⟨a, b⟩, c⟩, d⟩
    exact ⟨a, b, fun h => c.resolve_left (fun q => q h), fun h => d.resolve_left (fun q => q h)⟩
  · rintro ⟨a, b, c, d⟩
    refine ⟨⟨⟨a, b⟩, ?_⟩, ?_⟩
    · by_cases h : t.s.kind = 0
      · exact .inr (c h)
      · exact .inl h
    · by_cases h : t.s.kind = 3
      · exact .inr (d h)
      · exact .inl h
theorem Tab.elOk_no {t : Tab} {i : Nat} {e : Ent} (h : ¬ ((e.v.length : Int) = t.s.words ∧ fidx e.key t.e 0 = (i : Int) ∧ (t.s.kind = 0 → e.key = i) ∧ (t.s.kind = 3 → e.key = (t.next + (4294967296 - t.e.length) + i) % 4294967296))) : t.elOk i e = false := by
  cases hq : t.elOk i e with
  | false => rfl
  | true => exact absurd ((t.elOk_iff i e).1 hq) h
def Tab.headOk (t : Tab) : Bool :=
  t.s.may && decide ((t.e.length : Int) ≤ t.s.cap) && (decide (t.s.kind = 3) || decide (t.next = 0)) && (!decide (t.s.kind = 0) || decide ((t.e.length : Int) = t.s.cap))
def Tab.may (t : Tab) : Bool := t.headOk && t.e.zipIdx.all fun p => t.elOk p.2 p.1
theorem Tab.may_iff (t : Tab) : t.may = true ↔ t.headOk = true ∧ ∀ (i : Nat) (e : Ent), t.e[i]? = some e → t.elOk i e = true := by
  unfold Tab.may
  rw [Bool.and_eq_true, List.all_eq_true]
  refine and_congr Iff.rfl ⟨fun h i e hi => h (e, i) (by rw [List.mem_zipIdx_iff_getElem?]; exact hi), fun h p hp => h p.2 p.1 (by rw [List.mem_zipIdx_iff_getElem?] at hp; exact hp)⟩
theorem Tab.may_no (t : Tab) {i : Nat} {e : Ent} (hi : t.e[i]? = some e) (h : t.elOk i e = false) : t.may = false := by
  cases hm : t.may with
  | false => rfl
  | true => have := (t.may_iff.1 hm).2 i e hi; rw [h] at this; cases this
theorem Tab.may_head (t : Tab) (h : t.headOk = false) : t.may = false := by simp [Tab.may, h]
theorem Sch.may_bounds {s : Sch} (h : s.may = true) : 0 ≤ s.kind ∧ s.kind ≤ 3 ∧ 1 ≤ s.cap ∧ s.cap ≤ 16 ∧ 1 ≤ s.words ∧ s.words ≤ 4 ∧ (s.kind = 3 → s.words = 1) ∧ 0 ≤ s.ver ∧ s.ver ≤ 1000 := by
  simp only [Sch.may, inB, Bool.and_eq_true, decide_eq_true_eq] at h
  obtain ⟨⟨⟨⟨a, b⟩, c, d⟩, e, f⟩, g, i⟩ := h
  refine ⟨a, b, c, d, e, ?_, fun hk => ?_, g, i⟩
  · split at f <;> omega
  · rw [if_pos hk] at f; omega
end Go.Proofs.Ytpmnchgpbojppaa
