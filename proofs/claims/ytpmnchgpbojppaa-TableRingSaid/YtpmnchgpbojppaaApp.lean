/- append of one entry onto entries of the call's own; clear. -/
import Derived.Test.YtpmnchgpbojppaaOwnLib
import Derived.Deep.RegionLawGrows
import Derived.Maps.AppendAt
namespace Go.Proofs.Ytpmnchgpbojppaa
open Go Go.RowKit Go.Proofs.Try

section
variable {P : Program} {ops : Array Oper} {rest : List Oper} {o : Oper} {a : Act} {w w' : World} {K : Act → World → Prop} {Q : Exit → Act → World → Prop} {E : Prop}
/-- append, its run being known. -/
theorem wp_runApp (s x : Operand) (t u : TypeId) (ho : o.op = .call { callee := .builtin .append, args := #[s, x], argTypes := #[t, u] }) {vs vx v' : Value} (hs : a.eval s = vs) (hx : a.eval x = vx)
    (hrun : (Builtin.append_ #[t, u] o.type #[vs, vx]).run P w = .ok v' w') (h : K (a.put o.dst v') w') : o.wp P a w K Q := by
  unfold Oper.wp execOp
  simp only [ho, resolve, invoke, builtin, Sem.run_bind, Sem.run_pure, Result.andThen_ok, List.map_toArray, List.map_cons, List.map_nil, hs, hx, hrun]
  exact h
theorem wpList_runApp (hgd : o.guard = none) (s x : Operand) (t u : TypeId) (ho : o.op = .call { callee := .builtin .append, args := #[s, x], argTypes := #[t, u] }) {vs vx v' : Value} (hs : a.eval s = vs) (hx : a.eval x = vx)
    (hrun : (Builtin.append_ #[t, u] o.type #[vs, vx]).run P w = .ok v' w') (h : wpList P ops Q rest (a.put o.dst v') w') : wpList P ops Q (o :: rest) a w :=
  wpList_plain hgd fun _ hK => wp_runApp s x t u ho hs hx hrun (hK _ _ h)
theorem step_runApp (hgd : o.guard = none) (s x : Operand) (t u : TypeId) (ho : o.op = .call { callee := .builtin .append, args := #[s, x], argTypes := #[t, u] }) {vs vx v' : Value} (hs : a.eval s = vs) (hx : a.eval x = vx)
    (hrun : (Builtin.append_ #[t, u] o.type #[vs, vx]).run P w = .ok v' w') (h : K (a.put o.dst v') w') : if Region.wanted o (yielded ops a.tmps) = true then Oper.wp P o a w K Q else E := by
  have hw : Region.wanted o (yielded ops a.tmps) = true := by simp [Region.wanted, hgd]
  rw [if_pos hw]
  exact wp_runApp s x t u ho hs hx hrun h
end

theorem OwnW.kept {w w' : World} {base : Nat} {u : Value} {xs : List Nat} {row : Option Nat} (h : OwnW w base u xs) (hg : w.grownBy w' row) (hne : u.ownBlock = none ∨ u.ownBlock ≠ row) : OwnW w' base u xs := ⟨h.row.kept hg hne, h.lt⟩
theorem OwnW.not_row {w : World} {base base' : Nat} {u v : Value} {xs : List Nat} {n : Nat} {cs : List Value} (h : OwnW w base u xs) (hr : w.ownsRow base' 39 2 v n cs) : u.ownBlock = none ∨ u.ownBlock ≠ v.ownBlock := by
  cases hv : v.ownBlock with
  | none => cases hu : u.ownBlock <;> simp
  | some b => exact .inr (h.blk_ne hr hv)

/-- The entries behind an append: a row that holds them, the old values kept, the new one. -/
theorem OwnEs.snoc {w w' : World} {base base' : Nat} {v' u : Value} {es : List Ent} {us : List Value} {e : Ent} {row : Option Nat} (hlen : us.length = es.length)
    (hval : ∀ (i : Nat) (e : Ent) (u : Value), es[i]? = some e → us[i]? = some u → OwnW w base u e.v ∧ e.key < 4294967296) (hl : Lone us)
    (hrow : w'.ownsRow base' 39 2 v' (es.length + 1) (entCells es us ++ [.int .u32 (e.key : Int), u])) (hb : base ≤ base') (hg : w.grownBy w' row) (hne : ∀ u' ∈ us ++ [u], u'.ownBlock = none ∨ u'.ownBlock ≠ row)
    (hu : OwnW w base u e.v) (hk : e.key < 4294967296) (hlone : ∀ (i : Nat) (u' : Value) (b : Nat), us[i]? = some u' → u.ownBlock = some b → u'.ownBlock ≠ some b) : OwnEs w' base v' (es ++ [e]) (us ++ [u]) := by
  refine ⟨by simp [hlen], ?_, fun i e' u' he hu' => ?_, fun i j x y b hij hx hy hb' => ?_⟩
  · rw [entCells_append hlen, List.length_append]
    exact own_mono hrow hb
  · rcases Nat.lt_or_ge i es.length with hi | hi
    · rw [List.getElem?_append_left hi] at he
      rw [List.getElem?_append_left (by omega)] at hu'
      obtain ⟨h1, h2⟩ := hval i e' u' he hu'
      exact ⟨h1.kept hg (hne u' (List.mem_append_left _ (List.mem_of_getElem? hu'))), h2⟩
    · have h1 := (List.getElem?_eq_some_iff.1 he).1
      simp at h1
      obtain rfl : i = es.length := by omega
      rw [List.getElem?_append_right (by omega)] at he hu'
      simp [hlen] at he hu'
      subst he
      subst hu'
      exact ⟨hu.kept hg (hne u (by simp)), hk⟩
  · have hi := (List.getElem?_eq_some_iff.1 hx).1
    have hj := (List.getElem?_eq_some_iff.1 hy).1
    simp at hi hj
    rcases Nat.lt_or_ge i us.length with h1 | h1
    · rw [List.getElem?_append_left h1] at hx
      rcases Nat.lt_or_ge j us.length with h2 | h2
      · rw [List.getElem?_append_left h2] at hy
        exact hl i j x y b hij hx hy hb'
      · obtain rfl : j = us.length := by omega
        rw [List.getElem?_append_right (by omega)] at hy
        simp at hy
        subst hy
        intro hyb
        exact hlone i x b hx hyb hb'
    · obtain rfl : i = us.length := by omega
      rw [List.getElem?_append_right (by omega)] at hx
      simp at hx
      subst hx
      rw [List.getElem?_append_left (by omega)] at hy
      exact hlone j y b hy hb'

theorem pair_cells {w : World} {ad : Addr} {x y : Value} (h0 : w.cell? ad = some x) (h1 : w.cell? (ad.add 1) = some y) : ∀ (j : Nat) (u : Value), [x, y][j]? = some u → w.cell? (ad.add j) = some u := by
  intro j u hu
  match j with
  | 0 => cases hu; rw [show ad.add 0 = ad from rfl]; exact h0
  | 1 => cases hu; exact h1
  | j + 2 => simp at hu

/-- append onto a row of the call's own. -/
theorem run_appEnt {w : World} {base : Nat} {v u : Value} {es : List Ent} {us : List Value} {e : Ent} (hO : OwnEs w base v es us) (ad : Addr) (h0 : w.cell? ad = some (.int .u32 (e.key : Int))) (h1 : w.cell? (ad.add 1) = some u)
    (hu : OwnW w base u e.v) (hk : e.key < 4294967296) (hlone : ∀ (i : Nat) (u' : Value) (b : Nat), us[i]? = some u' → u.ownBlock = some b → u'.ownBlock ≠ some b) (hl : es.length ≤ 1048576) (hbase : base ≤ w.heap.size) :
    ∃ v' w', (Builtin.append_ #[24, 24] 24 #[v, .slice (some ad) 1 1]).run prog w = .ok v' w' ∧ OwnEs w' base v' (es ++ [e]) (us ++ [u]) ∧ w.grownBy w' v.ownBlock ∧ (v'.ownBlock = v.ownBlock ∨ v'.ownBlock = some w.heap.size) := by
  obtain ⟨i, hi, hz, hs, hb⟩ := info_parts info_ent
  obtain ⟨_, c, rfl, _⟩ := hu.reads
  obtain ⟨v', w', hrun, hrow, hg, _, hat⟩ := run_append_own_at (P := prog) w base 24 24 39 i _ 2 32 underlying24 hi hz hs hb rfl (by omega) v es.length (entCells es us) hO.row ad 1 1
    [.int .u32 (e.key : Int), _] rfl (pair_cells h0 h1) (by intro x hx; simp at hx; rcases hx with rfl | rfl <;> rfl) (by simp only [maxLen]; omega) (by omega) hbase
  refine ⟨v', w', hrun, OwnEs.snoc hO.len hO.val hO.lone hrow (Nat.le_refl _) hg ?_ hu hk hlone, hg, hat⟩
  intro u' hm
  rcases List.mem_append.1 hm with hm | hm
  · obtain ⟨i, hi⟩ := List.mem_iff_getElem?.1 hm
    have hil : i < es.length := by rw [← hO.len]; exact (List.getElem?_eq_some_iff.1 hi).1
    exact (hO.val i _ u' (List.getElem?_eq_getElem hil) hi).1.not_row hO.row
  · simp at hm
    subst hm
    exact hu.not_row hO.row

theorem entCells_drop1 {es : List Ent} {us : List Value} (h : us.length = es.length) : (entCells es us).drop 2 = entCells (es.drop 1) (us.drop 1) := by
  cases es <;> cases us <;> simp [entCells] at h ⊢

/-- append onto a row that lost its first entry, and has no room. -/
theorem run_appCut {w : World} {base g n : Nat} {u : Value} {es : List Ent} {us : List Value} {e : Ent} (hO : OwnEs w base (.slice (some ⟨g, 0, none⟩) n n) es us) (hn : es.length = n) (hn0 : 0 < n) (ad : Addr) (h0 : w.cell? ad = some (.int .u32 (e.key : Int))) (h1 : w.cell? (ad.add 1) = some u)
    (hu : OwnW w base u e.v) (hk : e.key < 4294967296) (hlone : ∀ (i : Nat) (u' : Value) (b : Nat), us[i]? = some u' → u.ownBlock = some b → u'.ownBlock ≠ some b) (hl : n ≤ 1048576) (hbase : base ≤ w.heap.size) :
    ∃ v' w', (Builtin.append_ #[24, 24] 24 #[.slice (cutA (some ⟨g, 0, none⟩) n 1 2) (n - 1) (n - 1), .slice (some ad) 1 1]).run prog w = .ok v' w' ∧ OwnEs w' base v' (es.drop 1 ++ [e]) (us.drop 1 ++ [u]) ∧ w.grownBy w' none := by
  obtain ⟨i, hi, hz, hs, hb⟩ := info_parts info_ent
  obtain ⟨_, c, rfl, _⟩ := hu.reads
  have hus := hO.len
  rw [hn] at hus
  obtain ⟨b, hcut, holds⟩ : ∃ b, cutA (some ⟨g, 0, none⟩) n 1 2 = some b ∧ ∀ (j : Nat) (u : Value), (entCells (es.drop 1) (us.drop 1))[j]? = some u → w.cell? (b.add j) = some u := by
    rcases Nat.lt_or_ge 1 n with h1n | h1n
    · refine ⟨_, cutA_lt h1n, fun j x hx => ?_⟩
      rw [← entCells_drop1 hO.len, List.getElem?_drop] at hx
      rw [add_add, show 1 * 2 + j = 2 + j by omega]
      exact hO.row.cells (g := g) rfl _ _ hx
    · obtain rfl : n = 1 := by omega
      refine ⟨⟨g, 0, none⟩, by simp [cutA], fun j x hx => ?_⟩
      rw [List.drop_eq_nil_of_le (by omega)] at hx
      simp [entCells] at hx
  rw [hcut]
  have hlen : (entCells (es.drop 1) (us.drop 1)).length = (n - 1) * 2 := by rw [entCells_length (by simp [hO.len]), List.length_drop, hn]
  obtain ⟨v', w', hrun, hrow, hg⟩ := run_append_arg_grows (P := prog) w 24 24 39 i _ 2 32 underlying24 hi hz hs hb rfl (by omega) b (n - 1) (n - 1) (entCells (es.drop 1) (us.drop 1)) hlen holds ad 1 1
    [.int .u32 (e.key : Int), _] rfl (pair_cells h0 h1) (by omega) (by simp only [maxLen]; omega) (by omega)
  refine ⟨v', w', hrun, OwnEs.snoc (by simp [hO.len]) (fun i e' u' he hu' => ?_) ?_ (by rw [List.length_drop, hn]; exact hrow) hbase hg ?_ hu hk ?_, hg⟩
  · rw [List.getElem?_drop] at he hu'
    exact hO.val _ e' u' he hu'
  · intro p q x y b hpq hx hy hb
    rw [List.getElem?_drop] at hx hy
    exact hO.lone _ _ x y b (by omega) hx hy hb
  · intro u' _
    cases u'.ownBlock <;> simp
  · intro i u' b' hu' hb'
    rw [List.getElem?_drop] at hu'
    exact hlone _ u' b' hu' hb'
end Go.Proofs.Ytpmnchgpbojppaa
