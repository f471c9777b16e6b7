/- clear of a slice; append in place; a value of an entry made anew. -/
import Derived.Test.YtpmnchgpbojppaaLast
import Derived.Test.YtpmnchgpbojppaaApp
import Derived.Deep.RegionLawGrows
namespace Go.Proofs.Ytpmnchgpbojppaa
open Go Go.RowKit Go.Proofs.Try

section
variable {P : Program}
/-- 'clear(s)', s of n > 0 elements, whatever their size. -/
theorem run_clearN (w : World) (t e ty : TypeId) (i : TypeInfo) (z : Value) (ht : P.underlying t = some (.slice e)) (hi : P.info? e = some i) (hz : i.zero = some z) (g o n c : Nat) (hn : 0 < n) (tt : TypeId) (cur : List Value) (hg : Blk w g tt cur.toArray)
    (hfit : o + (Builtin.zeroCells z.cells n).toList.length ≤ cur.length) (h1 : ∀ v ∈ (Builtin.zeroCells z.cells n).toList, v.oneCell' = true) :
    (Builtin.clear_ #[t] ty #[.slice (some ⟨g, o, none⟩) n c]).run P w = .ok (.tuple #[]) (w.setRow g (splice cur o (Builtin.zeroCells z.cells n).toList).toArray) := by
  have hst := run_storeCells_at P g o tt (Builtin.zeroCells z.cells n).toList 0 cur.toArray w hg (by simpa using hfit) h1
  have hv : ∀ w, (zeroValue e).run P w = .ok z w := by intro w; simp [zeroValue, typeInfo, hi, hz]
  obtain ⟨m, rfl⟩ : ∃ m, n = m + 1 := ⟨n - 1, by omega⟩
  simp only [Nat.add_zero] at hst
  simp [Builtin.clear_, run_underlying ht, hv, hst, splice]

variable {w : World} {ops : Array Oper} {rest : List Oper} {o : Oper} {a : Act} {K : Act → World → Prop} {Q : Exit → Act → World → Prop}
/-- clear as one step. -/
theorem wpList_clear (hgd : o.guard = none) (s : Operand) (t : TypeId) (ho : o.op = .call { callee := .builtin .clear, args := #[s], argTypes := #[t] }) {vs v' : Value} {w' : World} (hs : a.eval s = vs)
    (hrun : (Builtin.clear_ #[t] o.type #[vs]).run P w = .ok v' w') (h : wpList P ops Q rest (a.put o.dst v') w') : wpList P ops Q (o :: rest) a w := by
  refine wpList_plain hgd fun _ hK => ?_
  unfold Oper.wp
  simp only [execOp, ho, resolve, invoke, builtin, Sem.run_bind, Sem.run_pure, Result.andThen_ok, List.map_toArray, List.map_cons, List.map_nil, hs, hrun]
  exact hK _ _ h

/-- append where there is room: the row's cells said whole. -/
theorem run_append_roomS (t ty e : TypeId) (i : TypeInfo) (size : Nat) (ht : P.underlying t = some (.slice e)) (hi : P.info? e = some i) (hsz : i.size = size)
    (g off sLen sCap : Nat) (A : Option Addr) (m c : Nat) (news : List Value) (hl : news.length = m * size) (tt : TypeId) (cur : List Value) (hg : Blk w g tt cur.toArray)
    (hnews : 0 < m → ∃ ad, A = some ad ∧ ∀ j u, news[j]? = some u → w.cell? (ad.add j) = some u) (hA : ∃ ad, A = some ad) (h1 : ∀ u ∈ news, u.oneCell' = true)
    (hroom : sLen + m ≤ sCap) (hfit : off + sLen * size + news.length ≤ cur.length) :
    (Builtin.append_ #[t, t] ty #[.slice (some ⟨g, off, none⟩) sLen sCap, .slice A m c]).run P w = .ok (.slice (some ⟨g, off, none⟩) (sLen + m) sCap) (w.setRow g (splice cur (off + sLen * size) news).toArray) := by
  obtain ⟨ad, rfl⟩ := hA
  have hn : ∀ j u, news[j]? = some u → w.cell? (ad.add j) = some u := by
    intro j u hu
    rcases Nat.eq_zero_or_pos m with rfl | hm
    · have : news = [] := List.eq_nil_of_length_eq_zero (by omega)
      subst this
      simp at hu
    · obtain ⟨ad', h, hh⟩ := hnews hm
      cases h
      exact hh j u hu
  subst hsz
  have hfc := run_firstCells_some (P := P) w i.size m ad m c news hl hn
  have hst := run_storeCells_at P g (off + sLen * i.size) tt news 0 cur.toArray w hg (by simpa using hfit) h1
  simp only [Nat.add_zero] at hst
  simp [Builtin.append_, run_underlying ht, sizeOf, typeInfo, hi, Builtin.lenOf, hroom, hfc, Addr.add_lit, hst, splice]
end

/-- A value of an entry made anew, in its own row. -/
theorem OwnEs.setV {w w' : World} {base gu m cu j : Nat} {v : Value} {es : List Ent} {us : List Value} {e : Ent} {xs : List Nat} (h : OwnEs w base v es us) (he : es[j]? = some e) (hu : us[j]? = some (.slice (some ⟨gu, 0, none⟩) m cu)) (ho : Only gu w w')
    (hn : OwnW w' base (.slice (some ⟨gu, 0, none⟩) m cu) xs) : OwnEs w' base v (es.set j { e with v := xs }) us := by
  have hj := (List.getElem?_eq_some_iff.1 he).1
  obtain ⟨hval, hkey⟩ := h.val j e _ he hu
  have hne := hval.not_row' h.row
  refine ⟨by rw [List.length_set]; exact h.len, ?_, fun i e' u' he' hu' => ?_, h.lone⟩
  · rw [List.length_set, entCells_same_key (e' := { e with v := xs }) he rfl]
    exact h.row.kept ho (.inr hne)
  · by_cases hij : j = i
    · subst hij
      rw [List.getElem?_set_self hj] at he'
      cases he'
      rw [hu] at hu'
      cases hu'
      exact ⟨hn, hkey⟩
    · rw [List.getElem?_set_ne hij] at he'
      obtain ⟨h1, h2⟩ := h.val i e' u' he' hu'
      exact ⟨h1.only ho (h.lone j i _ u' gu hij hu hu' rfl), h2⟩

theorem zeroCells_u32 (m : Nat) : (Builtin.zeroCells (Value.int .u32 0).cells m).toList = List.replicate m (.int .u32 0) := by
  simp [Builtin.zeroCells, Value.cells]
  apply List.ext_getElem
  · simp
  · intro i h1 h2
    simp [Nat.mod_one]
end Go.Proofs.Ytpmnchgpbojppaa
