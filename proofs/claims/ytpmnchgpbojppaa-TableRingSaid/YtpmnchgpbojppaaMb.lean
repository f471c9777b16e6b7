/- The abstract machine, second part. -/
import Derived.Test.YtpmnchgpbojppaaMa
/- The abstract machine: stores, make, cuts, structs that are compared. -/
set_option linter.unusedVariables false
namespace Go.Proofs.Ytpmnchgpbojppaa
open Go Go.RowKit

section
variable {P : Program} {T : Nat → TI} {B : Base} {D : Nat → Prop} {nid : Nat} {s : St} {a : Act} {w : World} {x : Cx} {K : AV → Wr → Prop} {hp : Hp}

theorem splA_one {vs : Array Value} {off : Nat} {new : List Value} (h : off + new.length ≤ vs.size) (h1 : ∀ i, i < vs.size → (vs.getD i undef).oneCell' = true) (h2 : ∀ v ∈ new, v.oneCell' = true) (i : Nat) (hi : i < (splA vs off new).size) : ((splA vs off new).getD i undef).oneCell' = true := by
  rw [splA_size h] at hi
  rw [splA_getD h]
  by_cases q1 : i < off
  · rw [if_pos q1]
    exact h1 i hi
  · rw [if_neg q1]
    by_cases q2 : i < off + new.length
    · rw [if_pos q2, List.getD_eq_getElem?_getD, List.getElem?_eq_getElem (by omega)]
      exact h2 _ (by simp)
    · rw [if_neg q2]
      exact h1 i hi
theorem ones_list {v : Value} (h1 : ∀ i, i < v.cells.size → (v.cells.getD i undef).oneCell' = true) : ∀ u ∈ v.cells.toList, u.oneCell' = true := fun u hu => by
  obtain ⟨i, hi, e⟩ := List.getElem_of_mem hu
  have hi' : i < v.cells.size := by simpa using hi
  have := h1 i hi'
  subst e
  simpa [hi'] using this
theorem VRel.cells_ {u : AV} {v : Value} (h : VRel w x hp u v) (h1 : u.lies = true) : VRels w x hp u.cells v.cells.toList := by
  obtain ⟨h2, h3, h4⟩ := h.lies_ h1
  exact VRels.of_at (by simpa using h2) (fun i u' hu => by simpa using h4 i u' hu)
theorem run_store_at (hT : TabOk P T) {t : Nat} (hk : (T t).known) {b off : Nat} {vs : Array Value} {bt : TypeId} (hw : w.heap[b]? = some (.cells vs bt (0, 0))) {v : Value} (hsz : v.cells.size = (T t).sz)
    (h1 : ∀ i, i < v.cells.size → (v.cells.getD i undef).oneCell' = true) (hfit : off + v.cells.size ≤ vs.size) : (storeVar t ⟨b, off, none⟩ v).run P w = .ok () (w.setRow b (splA vs off v.cells.toList)) := by
  obtain ⟨ti, zv, hi, hs, _⟩ := info_of hT t hk
  have hst := run_storeCells_at (P := P) b off bt v.cells.toList 0 vs w hw (by simpa using hfit) (fun u hu => by
    obtain ⟨i, hi, e⟩ := List.getElem_of_mem hu
    have hi' : i < v.cells.size := by simpa using hi
    have := h1 i hi'
    subst e
    simpa [hi'] using this)
  simp [storeVar, sizeOf, typeInfo, hi, hs, hsz, hst, splA]

theorem so_store (hT : TabOk P T) (hC : Core B D s a w x) {c : Bool} (hc : c = true) {o : Oper} {t : Nat} {y z : Operand} (ho : o.op = .store t y z) (h : wpQ P nid s (evOp T nid c (.store t y z)) K) : Fin P nid s a w x o K := by
  obtain ⟨p, h1, h2⟩ := opd_s hC hc h
  obtain ⟨u, h3, h4⟩ := opd_s hC hc h2
  obtain ⟨⟨_, hk⟩, h4⟩ := h4
  generalize hv : a.eval y = pv at h1
  generalize hz : a.eval z = val at h3
  split at h4
  · rename_i id off
    simp only [wpQ] at h4
    split at h4
    · rename_i ob hob
      split at h4
      · rename_i bt cs
        obtain ⟨⟨hl, hsz, hfit⟩, hK⟩ := h4
        obtain ⟨b, vs, hb, hw, hvs, hone, hrel⟩ := box_of hC hob
        obtain ⟨h5, h6, h7⟩ := h3.lies_ hl
        cases h1 with
        | dat h => cases h
        | ref _ _ p hid hh =>
          obtain ⟨b', hb', rfl⟩ := hh ⟨_, _, hob⟩
          rw [hb] at hb'
          injection hb' with hb'
          subst hb'
          have hfit' : off + val.cells.toList.length ≤ vs.size := by simp; omega
          have hfit2 : off + u.cells.length ≤ cs.length := by omega
          have hr := run_store_at (P := P) hT hk hw (v := val) (by omega) h6 (by omega)
          have st := Stp.boxSet hC.h hob hb hw (cs' := splC cs off u.cells) (vs' := splA vs off val.cells.toList) (by rw [splA_size hfit', splC_length hfit2, hvs]) (splA_one hfit' hone (ones_list h6)) (fun i u' hu => by
            rw [splC_get hfit2] at hu
            rw [splA_getD hfit']
            simp only [Array.length_toList, h5]
            by_cases q1 : i < off
            · rw [if_pos q1] at hu ⊢
              exact hrel i u' hu
            · rw [if_neg q1] at hu ⊢
              by_cases q2 : i < off + u.cells.length
              · rw [if_pos q2] at hu ⊢
                have := h7 _ _ hu
                simpa using this
              · rw [if_neg q2] at hu ⊢
                exact hrel i u' hu)
          exact ⟨_, _, _, _, _, hK, .inr ⟨by simp [execOp, ho, Instr.storeAt, hv, hz, Instr.sureAddr, hr], rfl⟩, st, .dead _, fun _ _ h => .inl h⟩
      · exact h4.elim
    · exact h4.elim
  · rename_i id g sz i off
    simp only [wpQ] at h4
    split at h4
    · rename_i ob hob
      split at h4
      · rename_i rt sz' g' els
        have hl : u.lies = true := by
          cases u <;> first | rfl | (simp only [AV.cells, normL, normQ] at h4; first | exact h4.elim | exact h4.1)
        obtain ⟨cs', ids, h5, h6, h7, h8⟩ := normL_s hC (h3.cells_ hl) h4
        obtain ⟨⟨_, rfl, rfl, hi, hsz, hfit, hne⟩, hK⟩ := h8
        obtain ⟨hls, hr⟩ := row_of hC hob
        obtain ⟨h9, h10, _⟩ := h3.lies_ hl
        cases h1 with
        | dat h => cases h
        | elt _ _ _ _ _ p hid hh =>
          obtain ⟨b', hb', rfl⟩ := hh ⟨_, _, hob⟩
          rcases hr with ⟨hb, rfl⟩ | ⟨b, vs, hb, hw, hvs, hle, hm, hone, hd⟩
          · simp at hi
          · rw [hb] at hb'
            injection hb' with hb'
            subst hb'
            obtain ⟨x1, st1, e1, e2, e3, h11, h12⟩ := Stp.dels ids hC.h
            have hin := getD_some (d := []) hi
            have hlen := hls i _ hin
            have hbound : i * sz + off + val.cells.toList.length ≤ vs.size := by
              have : (i + 1) * sz ≤ x.γ id * sz := Nat.mul_le_mul_right _ (by omega)
              rw [Nat.add_mul] at this
              rw [hvs]
              simp
              omega
            have hr := run_store_at (P := P) hT hk (off := i * sz + off) hw (v := val) (by omega) h10 (by simpa using hbound)
            have hlk : look (applyW (ids.map fun i => (i, none)) s.hp) id = some (.row rt sz g els) := by
              have key : ∀ (l : List Nat) (hp : Hp), (∀ k ∈ l, k ≠ id) → look (applyW (l.map fun i => (i, none)) hp) id = look hp id := by
                intro l
                induction l with
                | nil => intro hp _; rfl
                | cons k l ih =>
                  intro hp hk
                  simp only [List.map_cons, applyW]
                  rw [ih _ (fun k' hk' => hk k' (List.mem_cons_of_mem _ hk')), look_delA, if_neg (fun e => hk k (List.mem_cons_self ..) e.symm)]
              rw [key ids s.hp ?_, hob]
              intro k hk e
              subst e
              simp only [List.all_eq_true] at hne
              have := hne (k, none) (List.mem_map.2 ⟨k, hk, rfl⟩)
              simp at this
            have hfc : off + cs'.length ≤ (els.getD i []).length := by rw [hlen, h5]; omega
            have st2 := Stp.rowSet st1.h hlk (b := b) (by rw [e2]; exact hb) hw (els' := els.set i (splC (els.getD i []) off cs')) (vs' := splA vs (i * sz + off) val.cells.toList)
              (by rw [splA_size hbound, e3, hvs]) (by rw [e3]; simpa using hle) (by rw [e3]; exact hm) (splA_one hbound hone (ones_list h10)) (fun k cs hk => by
                rw [List.getElem?_set] at hk
                split at hk
                · injection hk with hk
                  subst hk
                  rw [splC_length hfc]
                  exact hlen
                · exact hls k cs hk) (fun k j cs u' hk hu => by
                have hjs : ∀ cs0 : List AV, cs0.length = sz → cs0[j]? = some u' → j < sz := fun cs0 e hq => by
                  rcases Nat.lt_or_ge j cs0.length with h | h
                  · omega
                  · rw [List.getElem?_eq_none h] at hq; cases hq
                rw [List.getElem?_set] at hk
                split at hk
                · rename_i hki
                  subst hki
                  injection hk with hk
                  subst hk
                  have hj := hjs _ (by rw [splC_length hfc]; exact hlen) hu
                  rw [splC_get hfc] at hu
                  rw [splA_getD hbound]
                  split at hu
                  · rw [if_pos (by omega)]
                    exact (hd i j _ _ hin hu).mono st1.mo.ok (fun _ _ => rfl)
                  · rw [if_neg (by omega)]
                    split at hu
                    · rw [if_pos (by simp; omega)]
                      obtain ⟨u0, h13, h14⟩ := h6 _ _ hu
                      have := h14 x1 st1.mo.ok h12
                      rw [show i * sz + j - (i * sz + off) = j - off by omega]
                      exact this
                    · rw [if_neg (by simp; omega)]
                      exact (hd i j _ _ hin hu).mono st1.mo.ok (fun _ _ => rfl)
                · rename_i hki
                  have hj := hjs cs (hls k cs hk) hu
                  have hfar : k * sz + j < i * sz + off ∨ i * sz + off + val.cells.toList.length ≤ k * sz + j := by
                    have hvl : val.cells.toList.length + off ≤ sz := by simp; omega
                    rcases Nat.lt_or_gt_of_ne hki with h | h
                    · right
                      have : (i + 1) * sz ≤ k * sz := Nat.mul_le_mul_right _ h
                      rw [Nat.add_mul] at this
                      omega
                    · left
                      have : (k + 1) * sz ≤ i * sz := Nat.mul_le_mul_right _ h
                      rw [Nat.add_mul] at this
                      omega
                  rw [splA_getD hbound]
                  have := (hd k j _ _ hk hu).mono st1.mo.ok (fun _ _ => rfl)
                  rcases hfar with h | h
                  · rw [if_pos h]
                    exact this
                  · rw [if_neg (by omega), if_neg (by omega)]
                    exact this)
            refine ⟨_, _, _, _, _, hK, .inr ⟨by simp [execOp, ho, Instr.storeAt, hv, hz, Instr.sureAddr, hr]; rfl, rfl⟩, ?_, .dead _, fun k g' h => .inl (by rw [e1] at h; exact h)⟩
            rw [applyW_append]
            exact st1.trans st2
      · exact h4.elim
    · exact h4.elim
  · exact h4.elim
end
end Go.Proofs.Ytpmnchgpbojppaa

/- The abstract machine: make, cuts, comparisons, structs that are built. -/
set_option linter.unusedVariables false
namespace Go.Proofs.Ytpmnchgpbojppaa
open Go Go.RowKit

section
variable {P : Program} {T : Nat → TI} {B : Base} {D : Nat → Prop} {nid : Nat} {s : St} {a : Act} {w : World} {x : Cx} {K : AV → Wr → Prop} {hp : Hp}

/-- A new row. -/
theorem Stp.row (h : HRel w x hp) {id : Nat} (hid : ∀ g, ¬ x.dom id g) (w1 : World) (hh : w1.heap = w.heap) (ho : w1.os = w.os) (ht : w1.tape = w.tape) (hou : w1.output = w.output) (t : TypeId) (sz : Nat) (els : List (List AV)) (vs : Array Value) (cap : Nat) (hs : vs.size = cap * sz) (hle : els.length ≤ cap) (hm : cap ≤ maxLen)
    (hsz : ∀ (i : Nat) (cs : List AV), els[i]? = some cs → cs.length = sz) (h1 : ∀ i, i < vs.size → (vs.getD i undef).oneCell' = true)
    (hr : ∀ (i j : Nat) (cs : List AV) (u : AV), els[i]? = some cs → cs[j]? = some u → Dat w x.ok u (vs.getD (i * sz + j) undef)) :
    Stp w x hp (w1.alloc (.cells vs t)) (x.put id 0 (some w.heap.size) cap) (setA id (.row t sz 0 els) hp) ∧ VRel (w1.alloc (.cells vs t)) (x.put id 0 (some w.heap.size) cap) (setA id (.row t sz 0 els) hp) (.row id 0 sz 0 els.length) (.slice (some ⟨w.heap.size, 0, none⟩) els.length cap) := by
  have hβ : (x.put id 0 (some w.heap.size) cap).β id = some w.heap.size := by simp [Cx.put]
  have hγ : (x.put id 0 (some w.heap.size) cap).γ id = cap := by simp [Cx.put]
  have hsz1 : w1.heap.size = w.heap.size := by rw [hh]
  have hnew : (w1.alloc (.cells vs t)).heap[w.heap.size]? = some (.cells vs t (0, 0)) := by rw [← hsz1]; exact heap_alloc_new _ _
  have st := Stp.add (w' := w1.alloc (.cells vs t)) h hid (.row t sz 0 els) (some w.heap.size) cap ho ht hou (by simp [hsz1]) (fun b hb => by rw [Below.heap_alloc _ _ _ (by rw [hsz1]; exact hb), hh]) (fun b hb => by cases hb; simp [hsz1])
    (fun m => ⟨hsz, .inr ⟨w.heap.size, vs, hβ, hnew, by show _ = (x.put id 0 _ cap).γ id * sz; rw [hγ]; exact hs, by show _ ≤ (x.put id 0 _ cap).γ id; rw [hγ]; exact hle, by show (x.put id 0 _ cap).γ id ≤ _; rw [hγ]; exact hm, h1, fun i j cs u a c => (hr i j cs u a c).mono m.ok m.ag⟩⟩)
  refine ⟨st, .row _ _ _ _ _ _ _ (.inr ⟨rfl, .inl rfl⟩) hle fun _ => .inr ⟨_, hβ, ?_, ?_⟩⟩
  · simp
  · rw [hγ]; omega
theorem ofV_loose {w : World} {ok : Nat → Prop} (v : Value) : Dat w ok (ofV v).loose v := by
  unfold ofV
  split
  · exact Dat.nil false none
  · exact .raw _

theorem madeCells_at (z : Array Value) (n sz i j : Nat) (hz : z.size = sz) (hj : j < sz) (hi : i * sz + j < n) : (madeCells z n).getD (i * sz + j) undef = z.getD j undef := by
  have hm : (i * sz + j) % z.size = j := by
    rw [hz, Nat.mul_comm, Nat.mul_add_mod]
    exact Nat.mod_eq_of_lt hj
  simp [madeCells, hi, hm, show j < z.size by omega]
theorem madeCells_one (z : Array Value) (n : Nat) (h : ∀ v ∈ z.toList, v.oneCell' = true) (hz : 0 < z.size ∨ n = 0) : ∀ i, i < (madeCells z n).size → ((madeCells z n).getD i undef).oneCell' = true := by
  intro i hi
  rw [size_madeCells] at hi
  have hlt : i % z.size < z.size := Nat.mod_lt _ (by omega)
  have : (madeCells z n).getD i undef = z[i % z.size]'hlt := by simp [madeCells, hi, hlt]
  rw [this]
  exact h _ (by simp)

theorem so_make (hT : TabOk P T) (hC : Core B D s a w x) (hfr : ¬ D nid) {c : Bool} (hc : c = true) {o : Oper} {t : Nat} {y z : Operand} (ho : o.op = .makeSlice t y z) (h : wpQ P nid s (evOp T nid c (.makeSlice t y z)) K) : Fin P nid s a w x o K := by
  obtain ⟨u, h1, h2⟩ := opd_s hC hc h
  obtain ⟨u', h3, h4⟩ := opd_s hC hc h2
  unfold makeQ at h4
  split at h4
  · rename_i e ik n ik' n' hk
    obtain ⟨⟨_, rfl, h0, hmx, hby, hs0, hkn⟩, hK⟩ := h4
    have hu := und_sl hT hk
    have ey := h1.rawEq
    have ez := h3.rawEq
    obtain ⟨ti, zv, hi, hs, hb, hz, hzc, hzl, hone⟩ := info_of hT e hkn
    have hr := run_make (P := P) w t e ti zv hu hi hz ik ik' n n h0 (Int.le_refl _) (by rw [hb]; omega) hmx
    rw [hs] at hr
    have hzs : zv.cells.size = (T e).sz := by rw [← hzl, hzc]; simp
    have hmul : ∀ i j, i < n.toNat → j < (T e).sz → i * (T e).sz + j < n.toNat * (T e).sz := fun i j => mul_lt_of
    obtain ⟨st, hv⟩ := Stp.row hC.h (id := nid) (fun g hd => hfr (hC.dom _ _ hd)) w rfl rfl rfl rfl e (T e).sz (List.replicate n.toNat ((T e).z.map AV.loose)) (madeCells zv.cells (n.toNat * (T e).sz)) n.toNat (size_madeCells _ _) (by simp) (by unfold maxLen; omega)
      (fun i cs hcs => by
        rw [List.getElem?_replicate] at hcs
        split at hcs
        · injection hcs with hcs
          subst hcs
          simp [hzl]
        · cases hcs)
      (madeCells_one _ _ hone (.inl (by omega)))
      (fun i j cs u hcs hcu => by
        rw [List.getElem?_replicate] at hcs
        split at hcs
        · rename_i hin
          injection hcs with hcs
          subst hcs
          rw [List.getElem?_map, hzc, List.getElem?_map] at hcu
          obtain ⟨u1, h5, rfl⟩ := Option.map_eq_some_iff.1 hcu
          obtain ⟨v, h6, rfl⟩ := Option.map_eq_some_iff.1 h5
          obtain ⟨h7, h8⟩ := List.getElem?_eq_some_iff.1 h6
          have h7' : j < (T e).sz := by rw [← hzs]; simpa using h7
          rw [madeCells_at _ _ _ _ _ hzs h7' (hmul i j hin h7')]
          have : zv.cells.getD j undef = v := by
            have h9 : j < zv.cells.size := by rw [hzs]; exact h7'
            simpa [h9] using h8
          rw [this]
          exact ofV_loose v
        · cases hcs)
    simp only [List.length_replicate] at hv
    exact ⟨_, _, _, _, _, hK, .inl (by simp [execOp, ho, ey, ez, hr]), st, hv, fun id g hd => (dom_put hd).imp (fun h => h) .inl⟩
  · exact h4.elim

/-! ### Cuts -/
def OptR (w : World) (x : Cx) (hp : Hp) : Option AV → Option Value → Prop
  | none, none => True
  | some u, some v => VRel w x hp u v
  | _, _ => False
theorem optQ_s (hC : Core B D s a w x) {c : Bool} (hc : c = true) {y : Option Operand} {k : Option AV → Q} (h : wpQ P nid s (optQ c y k) K) : ∃ u, OptR w x s.hp u (y.map a.eval) ∧ wpQ P nid s (k u) K := by
  cases y with
  | none => exact ⟨none, trivial, h⟩
  | some y =>
    obtain ⟨u, h1, h2⟩ := opd_s hC hc (k := fun v => k (some v)) h
    exact ⟨some u, h1, h2⟩
def Bnd (v : Option Value) (d n : Int) : Prop := (v = none ∧ n = d) ∨ ∃ k, v = some (.int k n)
theorem bnd_s {y : Option AV} {v : Option Value} {d : Int} {k : Int → Q} (hv : OptR w x s.hp y v) (h : wpQ P nid s (bnd y d k) K) : ∃ n, Bnd v d n ∧ (y.isNone = true → v = none ∧ n = d) ∧ (y.isSome = true → ∃ k, v = some (.int k n)) ∧ wpQ P nid s (k n) K := by
  unfold bnd at h
  split at h
  · cases v with
    | none => exact ⟨d, .inl ⟨rfl, rfl⟩, (fun _ => ⟨rfl, rfl⟩), (fun h => by cases h), h⟩
    | some v => exact hv.elim
  · cases v with
    | none => exact hv.elim
    | some v =>
      have e := VRel.rawEq hv
      exact ⟨_, .inr ⟨_, by rw [e]⟩, (fun h => by cases h), (fun _ => ⟨_, by rw [e]⟩), h⟩
  · exact h.elim
theorem run_bounds {b : Bool} {len cap : Nat} {lo hi : Option Value} {l h : Int} (hl : Bnd lo 0 l) (hh : Bnd hi len h) (h0 : 0 ≤ l) (h1 : l ≤ h) (h2 : h ≤ cap) : (Instr.sliceBounds b len cap lo hi none).run P w = .ok (l.toNat, h.toNat, cap) w := by
  have q1 : (0 : Int) ≤ h := by omega
  have q2 : l ≤ ((h.toNat : Nat) : Int) := by omega
  rcases hl with ⟨rfl, e⟩ | ⟨k, rfl⟩ <;> rcases hh with ⟨rfl, e'⟩ | ⟨k', rfl⟩
  · simp [Instr.sliceBounds, e, e']
  · simp [Instr.sliceBounds, run_sliceBound, e, h2, q1]
  · have q3 : l ≤ (len : Int) := by omega
    simp [Instr.sliceBounds, run_sliceBound, e', h0, q3]
  · have r1 := fun c => run_sliceBound (P := P) w k l h.toNat c h0 q2
    simp [Instr.sliceBounds, run_sliceBound, h2, q1, r1]
theorem run_bounds3 {b : Bool} {len cap : Nat} {lo hi : Option Value} {l h m : Int} {k' km : IntKind} (hl : Bnd lo 0 l) (hh : hi = some (.int k' h)) (h0 : 0 ≤ l) (h1 : l ≤ h) (h2 : h ≤ m) (h3 : m ≤ cap) : (Instr.sliceBounds b len cap lo hi (some (.int km m))).run P w = .ok (l.toNat, h.toNat, m.toNat) w := by
  subst hh
  have q1 : (0 : Int) ≤ h := by omega
  have q2 : l ≤ ((h.toNat : Nat) : Int) := by omega
  have q3 : (0 : Int) ≤ m := by omega
  have q4 : h ≤ ((m.toNat : Nat) : Int) := by omega
  have r2 := fun c => run_sliceBound (P := P) w k' h m.toNat c q1 q4
  rcases hl with ⟨rfl, e⟩ | ⟨k, rfl⟩
  · simp [Instr.sliceBounds, run_sliceBound, e, h3, q3, r2]
  · have r1 := fun c => run_sliceBound (P := P) w k l h.toNat c h0 q2
    simp [Instr.sliceBounds, run_sliceBound, h3, q3, r1, r2]

theorem drop_take_get {α : Type} {els : List α} {l h i : Nat} {c : α} (hi : ((els.take h).drop l)[i]? = some c) : l + i < h ∧ els[l + i]? = some c := by
  rw [List.getElem?_drop, List.getElem?_take] at hi
  split at hi
  · exact ⟨by assumption, hi⟩
  · cases hi
theorem Dat.cut {ok : Nat → Prop} {tg : Bool} {els : List (List AV)} {A : Option Addr} {n c l h m sz : Nat} {tg' : Bool} (hd : Dat w ok (.sl tg els) (.slice A n c)) (hu : Uni sz els) (h1 : l ≤ h) (h2 : h ≤ m) (h3 : h ≤ els.length) (h4 : m ≤ c) (ht : tg' = true → m = h) :
    Dat w ok (.sl tg' ((els.take h).drop l)) (.slice (if m = l then A else A.map (·.add (l * sz))) (h - l) (m - l)) := by
  have hlen : ((els.take h).drop l).length = h - l := by simp; omega
  cases hd with
  | sl _ _ _ _ sz' vals hc hm ht' hsz hA hcell hd =>
    by_cases he : h = l
    · subst he
      have e0 : (els.take h).drop h = [] := List.eq_nil_of_length_eq_zero (by rw [hlen]; omega)
      rw [e0, show h - h = 0 by omega]
      refine .sl _ [] _ _ sz (fun _ _ => undef) (Nat.zero_le _) (by omega) (fun h => by have := ht h; simp; omega) ?_ ?_ ?_ ?_ <;> intro i <;> intros <;> simp at *
    · have hlt : l < els.length := by omega
      have hszz : sz' = sz := by rw [← hsz _ _ (List.getElem?_eq_getElem hlt)]; exact hu.at_ (List.getElem?_eq_getElem hlt)
      subst hszz
      rw [if_neg (by omega), ← hlen]
      refine .sl _ _ _ _ sz' (fun i j => vals (l + i) j) (by rw [hlen]; omega) (by omega) (fun h => by rw [hlen]; have := ht h; omega) ?_ ?_ ?_ ?_
      · intro i cs hi
        exact hsz _ _ (drop_take_get hi).2
      · intro i cs hi
        obtain ⟨ad, rfl, hok⟩ := hA _ _ (drop_take_get hi).2
        exact ⟨_, rfl, by rw [av_add_block]; exact hok⟩
      · intro i j cs ad hi hj e
        obtain ⟨ad0, rfl, hok⟩ := hA _ _ (drop_take_get hi).2
        cases e
        have := hcell _ j _ _ (drop_take_get hi).2 hj rfl
        rw [av_add_add]
        rw [show l * sz' + (i * sz' + j) = (l + i) * sz' + j by rw [Nat.add_mul]; omega]
        exact this
      · intro i j cs u hi hu
        exact hd _ _ _ _ (drop_take_get hi).2 hu

theorem so_slice (hT : TabOk P T) (hC : Core B D s a w x) {c : Bool} (hc : c = true) {o : Oper} {t : Nat} {y : Operand} {lo hi mx : Option Operand} (ho : o.op = .slice t y lo hi mx) (h : wpQ P nid s (evOp T nid c (.slice t y lo hi mx)) K) : Fin P nid s a w x o K := by
  obtain ⟨u, h1, ha⟩ := opd_s hC hc h
  obtain ⟨lo', hlo, hb⟩ := optQ_s hC hc ha
  obtain ⟨hi', hhi, hd⟩ := optQ_s hC hc hb
  obtain ⟨mx', hmx, h2⟩ := optQ_s hC hc hd
  clear ha hb hd h
  generalize hv : a.eval y = val at h1
  unfold sliceQ at h2
  split at h2
  · rename_i e tg els hk
    have hu := und_sl hT hk
    obtain ⟨l, hl, _, _, h2b⟩ := bnd_s hlo h2
    obtain ⟨h, hh, hhn, hhs, h2c⟩ := bnd_s hhi h2b
    clear h2 h2b
    have h2 := h2c
    clear h2c
    cases h1 with
    | dat hd =>
      have hd0 := hd
      cases hd with
      | sl _ _ A cp sz vals hcl hm ht hsz hA hcell hd =>
        split at h2
        · obtain ⟨h3, h4⟩ := h2
          obtain ⟨h0, hlh, hhl, huni, hkn⟩ := h3 hc
          cases hmv : mx.map a.eval with
          | some v => rw [hmv] at hmx; exact hmx.elim
          | none =>
            have hb := run_bounds (P := P) (w := w) (b := true) (cap := cp) hl hh h0 hlh (by omega)
            refine Fin.quiet hC h4 (val := .slice (if cp = l.toNat then A else A.map (·.add (l.toNat * (T e).sz))) (h.toNat - l.toNat) (cp - l.toNat)) ?_ (.dat (Dat.cut hd0 huni (by omega) (by omega) (by omega) (Nat.le_refl _) ?_))
            · simp [execOp, ho, Instr.sliceAt, Instr.slice, run_underlying hu, hv, hmv, hb, size_pos_known hT hkn]
            · intro htg
              simp only [Bool.and_eq_true] at htg
              obtain ⟨_, e2⟩ := hhn htg.2
              have := ht htg.1
              omega
        · rename_i ik m
          obtain ⟨h3, h4⟩ := h2
          obtain ⟨h0, hlh, hhm, hml, his, huni, hkn⟩ := h3 hc
          cases hmv : mx.map a.eval with
          | none => rw [hmv] at hmx; exact hmx.elim
          | some v =>
            rw [hmv] at hmx
            have em := VRel.rawEq hmx
            subst em
            obtain ⟨k', e1⟩ := hhs his
            have hb := run_bounds3 (P := P) (w := w) (b := true) (len := els.length) (cap := cp) (km := ik) hl e1 h0 hlh hhm (by omega)
            refine Fin.quiet hC h4 (val := .slice (if m.toNat = l.toNat then A else A.map (·.add (l.toNat * (T e).sz))) (h.toNat - l.toNat) (m.toNat - l.toNat)) ?_ (.dat (Dat.cut hd0 huni (by omega) (by omega) (by omega) (by omega) ?_))
            · simp [execOp, ho, Instr.sliceAt, Instr.slice, run_underlying hu, hv, hmv, hb, size_pos_known hT hkn]
            · intro htg
              have : m = h := by simpa using htg
              omega
        · exact h2.elim
  · rename_i e id g sz lo0 n hk
    have hu := und_sl hT hk
    obtain ⟨l, hl, _, _, h2b⟩ := bnd_s hlo h2
    obtain ⟨h, hh, hhn, hhs, h2c⟩ := bnd_s hhi h2b
    clear h2 h2b
    have h2 := h2c
    clear h2c
    cases h1 with
    | dat hd => cases hd
    | row _ _ _ _ _ A cp hid hcp hlive =>
      split at h2
      · obtain ⟨h3, h4⟩ := h2
        obtain ⟨h0, hlh, hhl, rfl, hkn⟩ := h3 hc
        cases hmv : mx.map a.eval with
        | some v => rw [hmv] at hmx; exact hmx.elim
        | none =>
          have hb := run_bounds (P := P) (w := w) (b := true) (cap := cp) hl hh h0 hlh (by omega)
          refine Fin.quiet hC h4 (val := .slice (if cp = l.toNat then A else A.map (·.add (l.toNat * (T e).sz))) (h.toNat - l.toNat) (cp - l.toNat)) ?_ (.row _ _ _ _ _ _ _ hid (by omega) fun hr => ?_)
          · simp [execOp, ho, Instr.sliceAt, Instr.slice, run_underlying hu, hv, hmv, hb, size_pos_known hT hkn]
          · by_cases hcl : cp = l.toNat
            · refine .inl ⟨by omega, by omega, ?_⟩
              rcases hlive hr with ⟨e1, e2, e3⟩ | ⟨b, e1, rfl, e3⟩ <;> omega
            · rw [if_neg hcl]
              rcases hlive hr with ⟨e1, e2, e3⟩ | ⟨b, e1, rfl, e3⟩
              · exact .inl ⟨by omega, by omega, by omega⟩
              · refine .inr ⟨b, e1, ?_, by omega⟩
                simp only [Option.map_some, av_lit_add, Nat.add_mul]
      · rename_i ik m
        obtain ⟨⟨hkn, his, h3⟩, h4⟩ := h2
        obtain ⟨rfl, rfl, rfl⟩ := h3 hc
        cases hmv : mx.map a.eval with
        | none => rw [hmv] at hmx; exact hmx.elim
        | some v =>
          rw [hmv] at hmx
          have em := VRel.rawEq hmx
          subst em
          obtain ⟨k', e1⟩ := hhs his
          have hb := run_bounds3 (P := P) (w := w) (b := true) (len := n) (cap := cp) (km := ik) hl e1 (Int.le_refl _) (Int.le_refl _) (Int.le_refl _) (by omega)
          refine Fin.quiet hC h4 (val := .slice A 0 0) ?_ (.dat (Dat.nil true A))
          simp [execOp, ho, Instr.sliceAt, Instr.slice, run_underlying hu, hv, hmv, hb, size_pos_known hT hkn]
      · exact h2.elim
  · rename_i m e id off hk
    have hu := und_arr hT hk
    obtain ⟨l, hl, _, _, h2b⟩ := bnd_s hlo h2
    obtain ⟨h, hh, hhn, hhs, h2c⟩ := bnd_s hhi h2b
    clear h2 h2b
    have h2 := h2c
    clear h2c
    split at h2
    · obtain ⟨h3, h4⟩ := h2
      obtain ⟨h0, hlh, hhl, hmx', hs1, hkn⟩ := h3 hc
      cases hmv : mx.map a.eval with
      | some v => rw [hmv] at hmx; exact hmx.elim
      | none =>
        cases h1 with
        | dat hd => cases hd
        | ref _ _ p hid hlive =>
          have hb := run_bounds (P := P) (w := w) (b := false) (len := m) (cap := m) hl hh h0 hlh (by omega)
          refine Fin.quiet hC h4 (val := .slice (some (if m = l.toNat then p else p.add (l.toNat * (T e).sz))) (h.toNat - l.toNat) (m - l.toNat)) ?_ (.bsl _ _ _ _ _ hid (by omega) (by unfold maxLen; omega) fun hr => ?_)
          · simp [execOp, ho, Instr.sliceAt, run_underlying hu, hv, hmv, hb, Instr.sureAddr, size_pos_known hT hkn]
          · by_cases hcl : m = l.toNat
            · exact .inl (by omega)
            · rw [if_neg hcl]
              obtain ⟨b, e1, rfl⟩ := hlive hr
              exact .inr ⟨b, e1, by rw [av_lit_add, hs1, Nat.mul_one]⟩
    · exact h2.elim
  · exact h2.elim
end
end Go.Proofs.Ytpmnchgpbojppaa

/- The abstract machine: comparisons, structs and slices that are built. -/
set_option linter.unusedVariables false
namespace Go.Proofs.Ytpmnchgpbojppaa
open Go Go.RowKit

section
variable {P : Program} {T : Nat → TI} {B : Base} {D : Nat → Prop} {nid : Nat} {s : St} {a : Act} {w : World} {x : Cx} {K : AV → Wr → Prop} {hp : Hp}

/-- One pair of cells, compared. -/
def eqCell : TK → AV → AV → Option Bool
  | .int _, .raw (.int k a), .raw (.int k' b) => if k = k' then some (a == b) else none
  | .bool, .raw (.bool a), .raw (.bool b) => some (a == b)
  | _, _, _ => none
theorem eqCells_cons {k : TK} {ks : List TK} {u v : AV} {r r' : List AV} {q : Bool} (h : eqCells (k :: ks) (u :: r) (v :: r') = some q) : ∃ q1 q2, eqCell k u v = some q1 ∧ eqCells ks r r' = some q2 ∧ q = (q1 && q2) := by
  unfold eqCells at h
  split at h
  · rename_i e; cases e
  · rename_i e1 e2 e3
    cases e1; cases e2; cases e3
    split at h
    · rename_i hk
      obtain ⟨q2, h1, h2⟩ := Option.map_eq_some_iff.1 h
      exact ⟨_, q2, by simp [eqCell, hk], h1, h2.symm⟩
    · cases h
  · rename_i e1 e2 e3
    cases e1; cases e2; cases e3
    obtain ⟨q2, h1, h2⟩ := Option.map_eq_some_iff.1 h
    exact ⟨_, q2, by simp [eqCell], h1, h2.symm⟩
  · cases h
theorem eqCells_no2 {k : TK} {ks : List TK} {ds : List AV} {q : Bool} (h : eqCells (k :: ks) [] ds = some q) : False := by cases k <;> simp [eqCells] at h
theorem eqCells_no3 {k : TK} {ks : List TK} {u : AV} {ds : List AV} {q : Bool} (h : eqCells (k :: ks) (u :: ds) [] = some q) : False := by cases k <;> simp [eqCells] at h
theorem eqCell_s (hT : TabOk P T) {t : Nat} {u v : AV} {a b : Value} {q : Bool} (d : Nat) (h : eqCell (T t).k u v = some q) (hu : VRel w x hp u a) (hv : VRel w x hp v b) : (T t).agg = false ∧ (T t).known ∧ (Op.equalIn (d + 1) t a b).run P w = .ok q w := by
  unfold eqCell at h
  split at h
  · rename_i k1 k m k' n hk
    rw [hu.rawEq, hv.rawEq]
    split at h
    · rename_i hkk
      subst hkk
      injection h with h
      subst h
      exact ⟨by simp [TI.agg, hk], by simp [TI.known, hk], run_equalIn_int w d t k k1 m n (und_int hT hk)⟩
    · cases h
  · rename_i m n hk
    rw [hu.rawEq, hv.rawEq]
    injection h with h
    subst h
    have hub : P.underlying t = some .bool := by have := (hT.ty t).und; rw [hk] at this; exact this
    exact ⟨by simp [TI.agg, hk], by simp [TI.known, hk], run_equalIn_bool' w d t m n hub⟩
  · cases h
theorem eqFields_s (hT : TabOk P T) (d : Nat) {xs ys : Array Value} : ∀ (fs : List Field) (i : Nat) (cs ds : List AV) (q : Bool), (∀ (k : Nat) (f : Field), fs[k]? = some f → f.offset = i + k ∧ f.name ≠ "_") →
    (∀ (k : Nat) (u : AV), cs[k]? = some u → VRel w x hp u (xs.getD (i + k) undef) ∧ i + k < xs.size) → (∀ (k : Nat) (u : AV), ds[k]? = some u → VRel w x hp u (ys.getD (i + k) undef) ∧ i + k < ys.size) →
    eqCells (fs.map fun f => (T f.type).k) cs ds = some q → (Op.eqFields (d + 1) xs ys fs).run P w = .ok q w
  | [], i, cs, ds, q, _, _, _, h => by
    cases cs <;> cases ds <;> simp [eqCells] at h
    subst h
    rfl
  | f :: fs, i, [], ds, q, _, _, _, h => (eqCells_no2 h).elim
  | f :: fs, i, u :: cs, [], q, _, _, _, h => (eqCells_no3 h).elim
  | f :: fs, i, u :: cs, v :: ds, q, hf, hx, hy, h => by
    obtain ⟨q1, q2, h1, h2, rfl⟩ := eqCells_cons h
    obtain ⟨hoff, hname⟩ := hf 0 f rfl
    obtain ⟨hx1, hx2⟩ := hx 0 u rfl
    obtain ⟨hy1, hy2⟩ := hy 0 v rfl
    obtain ⟨ha, hkn, hr⟩ := eqCell_s (P := P) hT d h1 hx1 hy1
    have ih := eqFields_s hT d fs (i + 1) cs ds q2 (fun k f' hk => by
      obtain ⟨e1, e2⟩ := hf (k + 1) f' (by simpa using hk)
      exact ⟨by omega, e2⟩) (fun k u' hk => by
      have := hx (k + 1) u' (by simpa using hk)
      rw [show i + 1 + k = i + (k + 1) by omega]
      exact this) (fun k u' hk => by
      have := hy (k + 1) u' (by simpa using hk)
      rw [show i + 1 + k = i + (k + 1) by omega]
      exact this) h2
    simp only [Nat.add_zero] at hoff hx1 hx2 hy1 hy2 hr
    have e1 : (part f.type xs f.offset).run P w = .ok (xs.getD i undef) w := by simp [part, run_isAgg hT hkn, ha, hoff, Array.getElem?_eq_getElem hx2]
    have e2 : (part f.type ys f.offset).run P w = .ok (ys.getD i undef) w := by simp [part, run_isAgg hT hkn, ha, hoff, Array.getElem?_eq_getElem hy2]
    simp only [Op.eqFields, hname, ne_eq, not_false_eq_true, if_true, Sem.run_bind, e1, e2, hr, Result.andThen_ok]
    cases q1 <;> simp [ih]

theorem run_equalIn_arr (d : Nat) (t e n : Nat) (xs ys : Array Value) (hun : P.underlying t = some (.array n e)) (hsz : ∀ w, (sizeOf e).run P w = .ok 1 w) (g : Nat → Bool)
    (hg : ∀ j, j < n → ∃ a b, (part e xs (j * 1)).run P w = .ok a w ∧ (part e ys (j * 1)).run P w = .ok b w ∧ (Op.equalIn d e a b).run P w = .ok (g j) w) : (Op.equalIn (d + 1) t (.agg xs) (.agg ys)).run P w = .ok ((List.range' 0 n).all g) w := by
  simp only [Op.equalIn, Sem.run_bind, run_underlying hun, Result.andThen_ok, hsz]
  simp only [Std.Legacy.Range.forIn_eq_forIn_range', Std.Legacy.Range.size, Nat.sub_zero, Nat.add_sub_cancel, Nat.div_one]
  have hl : ∀ j ∈ List.range' 0 n, j < n := fun j hj => by
    obtain ⟨i, h1, h2⟩ := List.mem_range'.1 hj
    omega
  generalize List.range' 0 n = l at hl ⊢
  induction l with
  | nil => rfl
  | cons j l ih =>
    obtain ⟨a, b, h1, h2, h3⟩ := hg j (hl j (by simp))
    have ih := ih (fun k hk => hl k (by simp [hk]))
    simp only [List.forIn_cons, Sem.run_bind, h1, h2, h3, Result.andThen_ok, List.all_cons]
    cases hgj : g j
    · simp
    · simpa using ih

theorem eqAgg_s (hT : TabOk P T) {t : Nat} {cs ds : List AV} {q : Bool} {a b : Value} (h : eqAgg T t cs ds = some q) (hu : VRel w x hp (.agg cs) a) (hv : VRel w x hp (.agg ds) b) :
    ∃ xs ys, a = .agg xs ∧ b = .agg ys ∧ (Op.equalIn 10000 t (.agg xs) (.agg ys)).run P w = .ok q w ∧ P.eqGuardType P.depth t = false := by
  cases hu with
  | dat h => cases h
  | agg _ xs hl h1 hr =>
    cases hv with
    | dat h => cases h
    | agg _ ys hl' h1' hr' =>
      refine ⟨xs, ys, rfl, rfl, ?_⟩
      have cell1 : ∀ (k : Nat) (u : AV), cs[k]? = some u → VRel w x hp u (xs.getD (0 + k) undef) ∧ 0 + k < xs.size := fun k u hk => by
        obtain ⟨h2, _⟩ := List.getElem?_eq_some_iff.1 hk
        rw [Nat.zero_add]
        exact ⟨hr k u hk, by omega⟩
      have cell2 : ∀ (k : Nat) (u : AV), ds[k]? = some u → VRel w x hp u (ys.getD (0 + k) undef) ∧ 0 + k < ys.size := fun k u hk => by
        obtain ⟨h2, _⟩ := List.getElem?_eq_some_iff.1 hk
        rw [Nat.zero_add]
        exact ⟨hr' k u hk, by omega⟩
      unfold eqAgg kindsOf at h
      cases hk : (T t).k <;> rw [hk] at h <;> simp only at h
      case st fs =>
        obtain ⟨fields, hun, hfs, hnm, hst, hgd⟩ := und_st hT hk
        refine ⟨?_, hgd⟩
        by_cases hall : (fs.zipIdx.all fun p => p.1.1 == p.2 && (T p.1.2).sz == 1) = true
        · rw [if_pos hall] at h
          simp only at h
          have hfo : P.fieldsOf t = fields := by simp [Program.fieldsOf, hun]
          rw [run_equalIn_struct w 9999 t xs ys (by rw [hfo]; exact hun) hst, hfo]
          refine eqFields_s (x := x) (hp := hp) hT 9998 fields.toList 0 cs ds q ?_ cell1 cell2 ?_
          · intro k f hkf
            constructor
            · have h2 : fs[k]? = some (f.offset, f.type) := by rw [← hfs, List.getElem?_map, hkf]; rfl
              have h3 := (List.all_eq_true.1 hall) ((f.offset, f.type), k) (by rw [List.mem_zipIdx_iff_getElem?]; exact h2)
              simp at h3
              omega
            · have h3 := (Array.all_eq_true_iff_forall_mem.1 hnm) f (by simpa using List.mem_of_getElem? hkf)
              simpa using h3
          · rw [← hfs, List.map_map] at h
            exact h
        · rw [if_neg hall] at h
          simp at h
      case arr n e =>
        have hun := und_arr hT hk
        have hgd : P.eqGuardType P.depth t = false := by have := (hT.ty t).und; rw [hk] at this; exact this.2
        refine ⟨?_, hgd⟩
        by_cases hs' : (T e).sz = 1 ∧ 0 < n
        · rw [if_pos hs'] at h
          obtain ⟨hs, hn0⟩ := hs'
          simp only at h
          have key : ∀ (m i : Nat) (cs ds : List AV) (q : Bool), i + m = n → eqCells (List.replicate m (T e).k) cs ds = some q →
              (∀ (k : Nat) (u : AV), cs[k]? = some u → VRel w x hp u (xs.getD (i + k) undef) ∧ i + k < xs.size) → (∀ (k : Nat) (u : AV), ds[k]? = some u → VRel w x hp u (ys.getD (i + k) undef) ∧ i + k < ys.size) → (m = 0 ∨ (T e).known) →
              ∃ g : Nat → Bool, (∀ j, i ≤ j → j < n → ∃ a b, (part e xs (j * 1)).run P w = .ok a w ∧ (part e ys (j * 1)).run P w = .ok b w ∧ (Op.equalIn 9999 e a b).run P w = .ok (g j) w) ∧ q = ((List.range' i m).all g) := by
            intro m
            induction m with
            | zero =>
              intro i cs ds q hi h _ _ _
              refine ⟨fun _ => true, fun j h1 h2 => by omega, ?_⟩
              cases cs <;> cases ds <;> simp [eqCells] at h
              simp [h]
            | succ m ih =>
              intro i cs ds q hi h c1 c2 hkn
              rw [List.replicate_succ] at h
              cases cs with
              | nil => exact (eqCells_no2 h).elim
              | cons u cs =>
                cases ds with
                | nil => exact (eqCells_no3 h).elim
                | cons v ds =>
                  obtain ⟨q1, q2, h1, h2, rfl⟩ := eqCells_cons h
                  obtain ⟨hx1, hx2⟩ := c1 0 u rfl
                  obtain ⟨hy1, hy2⟩ := c2 0 v rfl
                  obtain ⟨ha, hkn', hr1⟩ := eqCell_s (P := P) hT 9998 h1 hx1 hy1
                  obtain ⟨g, hg1, hg2⟩ := ih (i + 1) cs ds q2 (by omega) h2 (fun k u' hk => by
                    have := c1 (k + 1) u' (by simpa using hk)
                    rw [show i + 1 + k = i + (k + 1) by omega]
                    exact this) (fun k u' hk => by
                    have := c2 (k + 1) u' (by simpa using hk)
                    rw [show i + 1 + k = i + (k + 1) by omega]
                    exact this) (.inr hkn')
                  simp only [Nat.add_zero] at hx2 hy2 hr1
                  refine ⟨fun j => if j = i then q1 else g j, ?_, ?_⟩
                  · intro j hj hjn
                    by_cases hji : j = i
                    · subst hji
                      have e1 : (part e xs j).run P w = .ok (xs.getD j undef) w := by simp [part, run_isAgg hT hkn', ha, Array.getElem?_eq_getElem hx2]
                      have e2 : (part e ys j).run P w = .ok (ys.getD j undef) w := by simp [part, run_isAgg hT hkn', ha, Array.getElem?_eq_getElem hy2]
                      simp only [Nat.mul_one, if_true]
                      exact ⟨_, _, e1, e2, hr1⟩
                    · simp only [if_neg hji]
                      exact hg1 j (by omega) hjn
                  · rw [List.range'_succ, List.all_cons, hg2]
                    simp only [if_true]
                    congr 1
                    rw [Bool.eq_iff_iff, List.all_eq_true, List.all_eq_true]
                    constructor
                    · intro h3 j hj
                      have := List.mem_range'.1 hj
                      obtain ⟨k, hk1, hk2⟩ := this
                      rw [if_neg (by omega)]
                      exact h3 j hj
                    · intro h3 j hj
                      have := h3 j hj
                      obtain ⟨k, hk1, hk2⟩ := List.mem_range'.1 hj
                      rwa [if_neg (by omega)] at this
          obtain ⟨g, hg, rfl⟩ := key n 0 cs ds q (by omega) h cell1 cell2 (by
            cases n with
            | zero => exact .inl rfl
            | succ m =>
              rw [List.replicate_succ] at h
              cases cs with
              | nil => exact (eqCells_no2 h).elim
              | cons u cs =>
                cases ds with
                | nil => exact (eqCells_no3 h).elim
                | cons v ds =>
                  obtain ⟨q1, q2, h1, h2, _⟩ := eqCells_cons h
                  exact .inr (eqCell_s (P := P) hT 0 h1 (cell1 0 u rfl).1 (cell2 0 v rfl).1).2.1)
          have hkn : (T e).known := by
            cases n with
            | zero => omega
            | succ m =>
              rw [List.replicate_succ] at h
              cases cs with
              | nil => exact (eqCells_no2 h).elim
              | cons u cs =>
                cases ds with
                | nil => exact (eqCells_no3 h).elim
                | cons v ds =>
                  obtain ⟨q1, q2, h1, h2, _⟩ := eqCells_cons h
                  exact (eqCell_s (P := P) hT 0 h1 (cell1 0 u rfl).1 (cell2 0 v rfl).1).2.1
          exact run_equalIn_arr 9999 t e n xs ys hun (fun w => by rw [size_pos_known hT hkn, hs]) g (fun j hj => hg j (Nat.zero_le _) hj)
        · rw [if_neg hs'] at h
          simp at h
      all_goals simp at h
end
end Go.Proofs.Ytpmnchgpbojppaa

/- The abstract machine: structs and slices that are built; tests. -/
set_option linter.unusedVariables false
namespace Go.Proofs.Ytpmnchgpbojppaa
open Go Go.RowKit

section
variable {P : Program} {T : Nat → TI} {B : Base} {D : Nat → Prop} {nid : Nat} {s : St} {a : Act} {w : World} {x : Cx} {K : AV → Wr → Prop} {hp : Hp}

theorem so_bin (hT : TabOk P T) (hC : Core B D s a w x) {c : Bool} (hc : c = true) {o : Oper} {op : BinOp} {t yt : Nat} {y z : Operand} (ho : o.op = .binOp op t y z yt) (h : wpQ P nid s (evOp T nid c (.binOp op t y z yt)) K) : Fin P nid s a w x o K := by
  obtain ⟨u, h1, h2⟩ := opd_s hC hc h
  obtain ⟨v, h3, h4⟩ := opd_s hC hc h2
  unfold binQ at h4
  split at h4
  · exact so_int hC hc ho h1.rawEq h3.rawEq h4
  · rename_i p q
    have e1 := h1.rawEq
    have e2 := h3.rawEq
    split at h4
    · obtain ⟨hk, h5⟩ := h4
      have hub : P.underlying t = some .bool := by have := (hT.ty t).und; rw [hk] at this; exact this
      have hr := run_equalIn_bool' (P := P) w 9999 t p q hub
      exact Fin.quiet hC h5 (val := .bool (p == q)) (by simp [execOp, ho, e1, e2, eqGuard, binOp, Op.equal, Op.maxDepth, hr]) (.raw _)
    · obtain ⟨hk, h5⟩ := h4
      have hub : P.underlying t = some .bool := by have := (hT.ty t).und; rw [hk] at this; exact this
      have hr := run_equalIn_bool' (P := P) w 9999 t p q hub
      exact Fin.quiet hC h5 (val := .bool (p != q)) (by simp [execOp, ho, e1, e2, eqGuard, binOp, Op.equal, Op.maxDepth, hr, bne]) (.raw _)
    · exact h4.elim
  · rename_i xs ys
    split at h4
    · rename_i q hq
      obtain ⟨va, vb, e1, e2, hr, hg⟩ := eqAgg_s (P := P) hT hq h1 h3
      exact Fin.quiet hC h4 (val := .bool q) (by simp [execOp, ho, e1, e2, run_eqGuard_agg (P := P) w .eql t y z va vb hg, run_eql_struct, hr]) (.raw _)
    · rename_i q hq
      obtain ⟨va, vb, e1, e2, hr, hg⟩ := eqAgg_s (P := P) hT hq h1 h3
      exact Fin.quiet hC h4 (val := .bool (!q)) (by simp [execOp, ho, e1, e2, run_eqGuard_agg (P := P) w .neq t y z va vb hg, run_neq_struct, hr]) (.raw _)
    · exact h4.elim
  · exact h4.elim

/-! ### Parts -/
inductive PRel (w : World) (x : Cx) (hp : Hp) : List (Nat × AV) → List (Nat × Value) → Prop where
  | nil : PRel w x hp [] []
  | cons {i u v l m} (h : VRel w x hp u v) (r : PRel w x hp l m) : PRel w x hp ((i, u) :: l) ((i, v) :: m)
theorem partsQ_s (hC : Core B D s a w x) {c : Bool} (hc : c = true) : ∀ {l : List (Nat × Operand)} {k : List (Nat × AV) → Q}, wpQ P nid s (partsQ c l k) K → ∃ us, PRel w x s.hp us (l.map fun p => (p.1, a.eval p.2)) ∧ wpQ P nid s (k us) K
  | [], _, h => ⟨[], .nil, h⟩
  | (i, y) :: r, k, h => by
    obtain ⟨u, h1, h2⟩ := opd_s hC hc (k := fun v => partsQ c r fun l => k ((i, v) :: l)) h
    obtain ⟨us, h3, h4⟩ := partsQ_s hC hc h2
    exact ⟨(i, u) :: us, .cons h1 h3, h4⟩
/-- What the model does with a part's cells. -/
def putCells (cells : Array Value) (off : Nat) (v : Array Value) : Array Value := v.zipIdx.foldl (fun cs (c, j) => cs.setIfInBounds (off + j) c) cells
theorem putCells_spec (off : Nat) (v : Array Value) (cells : Array Value) (h : off + v.size ≤ cells.size) :
    (putCells cells off v).size = cells.size ∧ ∀ k, (putCells cells off v).getD k undef = if off ≤ k ∧ k < off + v.size then v.getD (k - off) undef else cells.getD k undef := by
  have key : ∀ (l : List Value) (i : Nat) (cells : Array Value), off + i + l.length ≤ cells.size →
      ((l.zipIdx i).foldl (fun cs p => cs.setIfInBounds (off + p.2) p.1) cells).size = cells.size ∧
      ∀ k, ((l.zipIdx i).foldl (fun cs p => cs.setIfInBounds (off + p.2) p.1) cells).getD k undef = if off + i ≤ k ∧ k < off + i + l.length then l.getD (k - off - i) undef else cells.getD k undef := by
    intro l
    induction l with
    | nil =>
      intro i cells _
      refine ⟨rfl, fun k => ?_⟩
      rw [if_neg (by simp; try omega)]
      rfl
    | cons u l ih =>
      intro i cells hl
      simp only [List.length_cons] at hl
      obtain ⟨h1, h2⟩ := ih (i + 1) (cells.setIfInBounds (off + i) u) (by simp; omega)
      simp only [List.zipIdx_cons, List.foldl_cons]
      refine ⟨by rw [h1]; simp, fun k => ?_⟩
      rw [h2 k]
      by_cases hk : k = off + i
      · subst hk
        rw [if_neg (by omega), if_pos (by simp)]
        simp [show off + i < cells.size by omega]
      · by_cases hk2 : off + (i + 1) ≤ k ∧ k < off + (i + 1) + l.length
        · rw [if_pos hk2, if_pos (by simp; omega), show k - off - i = (k - off - (i + 1)) + 1 by omega]
          simp
        · rw [if_neg hk2, if_neg (by simp; omega)]
          simp only [Array.getD_eq_getD_getElem?]
          rw [Array.getElem?_setIfInBounds_ne (by omega)]
  have := key v.toList 0 cells (by simpa using h)
  unfold putCells
  rw [← Array.foldl_toList, Array.toList_zipIdx]
  refine ⟨this.1, fun k => ?_⟩
  have h2 := this.2 k
  simp only [Nat.add_zero, Array.length_toList, Nat.sub_zero] at h2
  rw [h2]
  by_cases hk : off ≤ k ∧ k < off + v.size
  · rw [if_pos hk, if_pos hk]
    simp [List.getD_eq_getElem?_getD]
  · rw [if_neg hk, if_neg hk]

theorem fill_s : ∀ {us : List (Nat × AV)} {vs : List (Nat × Value)} {zs cs : List AV} {cells : Array Value} {place : Nat → Option (Nat × Nat)}, PRel w x hp us vs → cells.size = zs.length → (∀ i, i < cells.size → (cells.getD i undef).oneCell' = true) →
    (∀ (i : Nat) (u : AV), zs[i]? = some u → VRel w x hp u (cells.getD i undef)) → fillA place zs us = some cs →
    ∃ r, Instr.fill place cells vs = some r ∧ r.size = cs.length ∧ (∀ i, i < r.size → (r.getD i undef).oneCell' = true) ∧ ∀ (i : Nat) (u : AV), cs[i]? = some u → VRel w x hp u (r.getD i undef)
  | [], [], zs, cs, cells, place, _, hl, h1, hr, h => by
    simp only [fillA, Option.some.injEq] at h
    subst h
    exact ⟨cells, rfl, hl, h1, hr⟩
  | (i, u) :: us, (_, v) :: vs, zs, cs, cells, place, .cons hv hrest, hl, h1, hr, h => by
    unfold fillA at h
    split at h
    · cases h
    · rename_i off size hpl
      split at h
      · rename_i hcond
        obtain ⟨hlies, hsz, hfit⟩ := hcond
        obtain ⟨h2, h3, h4⟩ := hv.lies_ hlies
        have hfit' : off + u.cells.length ≤ zs.length := by omega
        obtain ⟨p1, p2⟩ := putCells_spec off v.cells cells (by omega)
        have ih := fill_s (cells := putCells cells off v.cells) hrest (by rw [p1, splC_length hfit', hl]) (fun k hk => by
          rw [p1] at hk
          rw [p2]
          by_cases hq : off ≤ k ∧ k < off + v.cells.size
          · rw [if_pos hq]
            exact h3 _ (by omega)
          · rw [if_neg hq]
            exact h1 k hk) (fun k u' hk => by
          rw [splC_get hfit'] at hk
          rw [p2]
          by_cases hq1 : k < off
          · rw [if_pos hq1] at hk
            rw [if_neg (by omega)]
            exact hr k u' hk
          · rw [if_neg hq1] at hk
            by_cases hq2 : k < off + u.cells.length
            · rw [if_pos hq2] at hk
              rw [if_pos ⟨by omega, by omega⟩]
              exact h4 _ _ hk
            · rw [if_neg hq2] at hk
              rw [if_neg (by omega)]
              exact hr k u' hk) h
        obtain ⟨r, h5, h6⟩ := ih
        refine ⟨r, ?_, h6⟩
        unfold Instr.fill
        rw [hpl]
        simp only
        rw [if_neg (by simp; omega)]
        exact h5
      · cases h

theorem so_build (hT : TabOk P T) (hC : Core B D s a w x) {c : Bool} (hc : c = true) {o : Oper} {t : Nat} {parts : Array (Nat × Operand)} (ho : o.op = .build t parts) (h : wpQ P nid s (evOp T nid c (.build t parts)) K) : Fin P nid s a w x o K := by
  obtain ⟨us, h1, h2⟩ := partsQ_s hC hc h
  obtain ⟨hkn, h2⟩ := h2
  obtain ⟨ti, zv, hi, hs, hb, hz, hzc, hzl, hone⟩ := info_of hT t hkn
  have z1 : zv.cells.size = (T t).z.length := by rw [hzc]; simp
  have z2 : ∀ i, i < zv.cells.size → (zv.cells.getD i undef).oneCell' = true := fun i hi => by
    have := hone zv.cells[i] (by simp)
    simpa [hi] using this
  have z3 : ∀ (i : Nat) (u : AV), (T t).z[i]? = some u → VRel w x s.hp u (zv.cells.getD i undef) := fun i u hu => by
    rw [hzc, List.getElem?_map] at hu
    obtain ⟨v, h3, rfl⟩ := Option.map_eq_some_iff.1 hu
    obtain ⟨h4, h5⟩ := List.getElem?_eq_some_iff.1 h3
    have h6 : i < zv.cells.size := by simpa using h4
    have : zv.cells.getD i undef = v := by simpa [h6] using h5
    rw [this]
    exact VRel.ofV_ v
  have fin : ∀ {place : Nat → Option (Nat × Nat)} {cs : List AV}, fillA place (T t).z us = some cs → K (.agg cs) [] → (∀ r, Instr.fill place zv.cells (parts.toList.map fun p => (p.1, a.eval p.2)) = some r → P.built t (parts.toList.map fun p => (p.1, a.eval p.2)) = some r) → Fin P nid s a w x o K := by
    intro place cs hf hK hbuilt
    obtain ⟨r, h3, h4, h5, h6⟩ := fill_s h1 z1 z2 z3 hf
    have hr := run_build (P := P) w t (parts.map fun p => (p.1, a.eval p.2)) r (by rw [Array.toList_map]; exact hbuilt r h3)
    exact Fin.quiet hC hK (val := .agg r) (by simp only [execOp, ho]; simp [hr]) (.agg _ _ h4 h5 h6)
  split at h2
  · rename_i fs hk
    split at h2
    · rename_i cs hcs
      obtain ⟨fields, hu, hfs, _⟩ := und_st hT hk
      refine fin hcs h2 fun r hr => ?_
      have hpl : fields.toList.mapM (fun f => (P.info? f.type).map fun i => (f.offset, i.size)) = some (fs.map fun p => (p.1, (T p.2).sz)) := by
        have hfk := hT.fk t fs hk
        rw [← hfs] at hfk ⊢
        generalize fields.toList = l at hfk ⊢
        clear hfs hcs hu
        induction l with
        | nil => rfl
        | cons f l ih =>
          obtain ⟨ti', zv', hi', hs', _⟩ := info_of hT f.type (hfk (f.offset, f.type) (by simp))
          rw [List.mapM_cons, ih (fun p hp => hfk p (by simp only [List.map_cons, List.mem_cons]; exact .inr hp))]
          simp [hi', hs']
      unfold Program.built
      rw [hi, hu]
      simp only [hz, hpl]
      rw [← hr]
      congr 1
      funext i
      simp [List.getElem?_map]
    · exact h2.elim
  · rename_i n e hk
    split at h2
    · rename_i cs hcs
      have hu := und_arr hT hk
      obtain ⟨ti', zv', hi', hs', _⟩ := info_of hT e (hT.ak t n e hk)
      refine fin hcs h2 fun r hr => ?_
      unfold Program.built
      rw [hi, hu]
      simp only [hz, hi', hs']
      exact hr
    · exact h2.elim
  · exact h2.elim
end
end Go.Proofs.Ytpmnchgpbojppaa

/- The abstract machine: appends. -/
set_option linter.unusedVariables false
namespace Go.Proofs.Ytpmnchgpbojppaa
open Go Go.RowKit

section
variable {P : Program} {T : Nat → TI} {B : Base} {D : Nat → Prop} {nid : Nat} {s : St} {a : Act} {w : World} {x : Cx} {K : AV → Wr → Prop} {hp : Hp}

/-- What lies behind a slice that is copied out of. -/
structure Src (w : World) (ok : Nat → Prop) (sz : Nat) (els : List (List AV)) (A : Option Addr) (vals : Nat → Nat → Value) : Prop where
  cell : els.length = 0 ∨ ∃ ad, A = some ad ∧ ∀ i j, i < els.length → j < sz → w.cell? (ad.add (i * sz + j)) = some (vals i j)
  one : ∀ i j, i < els.length → j < sz → (vals i j).oneCell' = true
  len : ∀ (i : Nat) (cs : List AV), els[i]? = some cs → cs.length = sz
  dat : ∀ (i j : Nat) (cs : List AV) (u : AV), els[i]? = some cs → cs[j]? = some u → Dat w ok u (vals i j)

theorem lt_of_get {α : Type} {l : List α} {i : Nat} {c : α} (h : l[i]? = some c) : i < l.length := (List.getElem?_eq_some_iff.1 h).1
theorem elsQ_s (hC : Core B D s a w x) {sz : Nat} {u : AV} {val : Value} {k : List (List AV) → Q} (hv : VRel w x s.hp u val) (h : wpQ P nid s (elsQ sz u k) K) :
    ∃ els A c vals, val = .slice A els.length c ∧ Src w x.ok sz els A vals ∧ wpQ P nid s (k els) K := by
  unfold elsQ at h
  split at h
  · rename_i tg els
    obtain ⟨hu, h2⟩ := h
    cases hv with
    | dat hd =>
      cases hd with
      | sl _ _ A c sz' vals hc hm ht hsz hA hcell hd =>
        refine ⟨els, A, c, vals, rfl, ⟨?_, ?_, fun i cs hi => hu.at_ hi, hd⟩, h2⟩
        · rcases Nat.eq_zero_or_pos els.length with h0 | h0
          · exact .inl h0
          · right
            obtain ⟨ad, rfl, hok⟩ := hA 0 _ (List.getElem?_eq_getElem h0)
            refine ⟨ad, rfl, fun i j hi hj => ?_⟩
            have hin := List.getElem?_eq_getElem hi
            have e : sz' = sz := by rw [← hsz _ _ hin]; exact hu.at_ hin
            subst e
            exact (hcell i j _ _ hin hj rfl).1
        · intro i j hi hj
          have hin := List.getElem?_eq_getElem hi
          have e : sz' = sz := by rw [← hsz _ _ hin]; exact hu.at_ hin
          subst e
          obtain ⟨ad, rfl, hok⟩ := hA i _ hin
          exact (hcell i j _ _ hin hj rfl).2
  · rename_i id g sz' lo n
    simp only [wpQ] at h
    split at h
    · rename_i ob hob
      split at h
      · rename_i bt sz2 g2 els
        obtain ⟨⟨rfl, rfl, rfl, hle⟩, h2⟩ := h
        obtain ⟨hl, hr⟩ := row_of hC hob
        cases hv with
        | dat h => cases h
        | row _ _ _ _ _ A c hid hc hh =>
          have hlen : ((els.drop lo).take n).length = n := by simp; omega
          have hsub : ∀ (i : Nat) (cs : List AV), ((els.drop lo).take n)[i]? = some cs → i < n ∧ els[lo + i]? = some cs := by
            intro i cs hi
            rw [List.getElem?_take] at hi
            split at hi
            · rename_i hin
              rw [List.getElem?_drop] at hi
              exact ⟨hin, hi⟩
            · cases hi
          rcases hr with ⟨hb', rfl⟩ | ⟨b', vs, hb', hw, hsz, hle', hm, hone, hd⟩
          · have hn0 : n = 0 := by simp at hle; omega
            subst hn0
            refine ⟨_, A, c, fun _ _ => undef, by rw [hlen], ⟨.inl hlen, fun i j hi => by omega, ?_, ?_⟩, h2⟩
            · intro i cs hi
              have := (hsub i cs hi).1
              omega
            · intro i j cs u hi
              have := (hsub i cs hi).1
              omega
          · have hbnd : ∀ i j, i < n → j < sz → lo * sz + (i * sz + j) < vs.size ∧ (lo + i) * sz + j = lo * sz + (i * sz + j) := fun i j hi hj => by
              have e : (lo + i) * sz + j = lo * sz + (i * sz + j) := by rw [Nat.add_mul]; omega
              refine ⟨?_, e⟩
              rw [← e, hsz]
              exact mul_lt_of (by omega) hj
            refine ⟨_, A, c, fun i j => vs.getD ((lo + i) * sz + j) undef, by rw [hlen], ⟨?_, ?_, ?_, ?_⟩, h2⟩
            · rcases hh ⟨_, _, hob⟩ with ⟨rfl, rfl, _⟩ | ⟨b, hb, rfl, hcap⟩
              · exact .inl hlen
              · rw [hb] at hb'
                injection hb' with hb'
                subst hb'
                refine .inr ⟨_, rfl, fun i j hi hj => ?_⟩
                rw [hlen] at hi
                obtain ⟨h3, h4⟩ := hbnd i j hi hj
                rw [h4]
                exact cell_getD hw h3
            · intro i j hi hj
              rw [hlen] at hi
              obtain ⟨h3, h4⟩ := hbnd i j hi hj
              rw [h4]
              exact hone _ h3
            · intro i cs hi
              exact hl _ _ (hsub i cs hi).2
            · intro i j cs u hi hu
              exact hd _ _ _ _ (hsub i cs hi).2 hu
      · exact h.elim
    · exact h.elim
  · rename_i id off n
    simp only [wpQ] at h
    split at h
    · rename_i ob hob
      split at h
      · rename_i bt cs
        obtain ⟨⟨rfl, hle⟩, h2⟩ := h
        obtain ⟨b, vs, hb, hw, hvs, hone, hrel⟩ := box_of hC hob
        have hlc : ((cs.drop off).take n).length = n := by simp; omega
        have hrl : VRels w x s.hp ((cs.drop off).take n) ((List.range n).map fun i => vs.getD (off + i) undef) := VRels.of_at (by rw [hlc]; simp) (fun i u hu => by
          rw [List.getElem?_take] at hu
          split at hu
          · rename_i hin
            rw [List.getElem?_drop] at hu
            have := hrel _ _ hu
            simpa [hin] using this
          · cases hu)
        obtain ⟨us, ids, h3, h4, h5, h6⟩ := normL_s hC hrl h2
        obtain ⟨hw0, h7⟩ := h6
        have hids : ids = [] := by simpa using hw0
        subst hids
        cases hv with
        | dat h => cases h
        | bsl _ _ _ A c hid hcn hm hlive =>
          have hl2 : (us.map fun v => [v]).length = n := by simp; omega
          refine ⟨_, A, c, fun i _ => vs.getD (off + i) undef, by rw [hl2], ⟨?_, ?_, ?_, ?_⟩, h7⟩
          · rcases hlive ⟨_, _, hob⟩ with rfl | ⟨b', hb', rfl⟩
            · exact .inl hl2
            · rw [hb] at hb'
              injection hb' with hb'
              subst hb'
              refine .inr ⟨_, rfl, fun i j hi hj => ?_⟩
              rw [hl2] at hi
              obtain rfl : j = 0 := by omega
              rw [Nat.mul_one, Nat.add_zero]
              exact cell_getD hw (by omega)
          · intro i j hi hj
            rw [hl2] at hi
            exact hone _ (by omega)
          · intro i cs hi
            rw [List.getElem?_map] at hi
            obtain ⟨v, _, rfl⟩ := Option.map_eq_some_iff.1 hi
            rfl
          · intro i j cs u hi hu
            rw [List.getElem?_map] at hi
            obtain ⟨v, hvi, rfl⟩ := Option.map_eq_some_iff.1 hi
            cases j with
            | succ j => simp at hu
            | zero =>
              simp at hu
              subst hu
              obtain ⟨u0, _, h9⟩ := h4 _ _ hvi
              have := h9 x (fun _ h => h) (fun id hid => by cases hid)
              have hin := lt_of_get hvi
              have hin' : i < n := by omega
              simpa [hin'] using this
      · exact h.elim
    · exact h.elim
  · exact h.elim

/-- Its cells, one behind the other. -/
def flat (sz n : Nat) (vals : Nat → Nat → Value) : List Value := (List.range (n * sz)).map fun k => vals (k / sz) (k % sz)
theorem flat_len (sz n : Nat) (vals : Nat → Nat → Value) : (flat sz n vals).length = n * sz := by simp [flat]
theorem flat_at {sz n : Nat} {vals : Nat → Nat → Value} {i j : Nat} (hi : i < n) (hj : j < sz) : (flat sz n vals)[i * sz + j]? = some (vals i j) := by
  have h1 : i * sz + j < n * sz := mul_lt_of hi hj
  have h2 : (i * sz + j) / sz = i := by
    rw [Nat.mul_comm, Nat.mul_add_div (by omega), Nat.div_eq_of_lt hj]
    omega
  have h3 : (i * sz + j) % sz = j := by
    rw [Nat.mul_comm, Nat.mul_add_mod]
    exact Nat.mod_eq_of_lt hj
  simp [flat, List.getElem?_range h1, h2, h3]
theorem flat_inv {sz n : Nat} {vals : Nat → Nat → Value} {k : Nat} {v : Value} (hs : 0 < sz) (h : (flat sz n vals)[k]? = some v) : ∃ i j, i < n ∧ j < sz ∧ k = i * sz + j ∧ v = vals i j := by
  have hk : k < n * sz := by have := lt_of_get h; rwa [flat_len] at this
  refine ⟨k / sz, k % sz, ?_, Nat.mod_lt _ hs, ?_, ?_⟩
  · exact Nat.div_lt_of_lt_mul (by rw [Nat.mul_comm]; exact hk)
  · rw [Nat.mul_comm]
    exact (Nat.div_add_mod k sz).symm
  · simp only [flat, List.getElem?_map, List.getElem?_range hk, Option.map_some, Option.some.injEq] at h
    exact h.symm
theorem Src.news {ok : Nat → Prop} {sz : Nat} {els : List (List AV)} {A : Option Addr} {vals : Nat → Nat → Value} (h : Src w ok sz els A vals) (hs : 0 < sz) {ad : Addr} (hA : A = some ad) :
    ∀ j v, (flat sz els.length vals)[j]? = some v → w.cell? (ad.add j) = some v := by
  intro j v hj
  obtain ⟨i, k, hi, hk, rfl, rfl⟩ := flat_inv hs hj
  rcases h.cell with h0 | ⟨ad', e, hc⟩
  · omega
  · rw [hA] at e
    injection e with e
    subst e
    exact hc i k hi hk
theorem Src.ones {ok : Nat → Prop} {sz : Nat} {els : List (List AV)} {A : Option Addr} {vals : Nat → Nat → Value} (h : Src w ok sz els A vals) (hs : 0 < sz) : ∀ v ∈ flat sz els.length vals, v.oneCell' = true := by
  intro v hv
  obtain ⟨k, hk⟩ := List.getElem?_of_mem hv
  obtain ⟨i, j, hi, hj, rfl, rfl⟩ := flat_inv hs hk
  exact h.one i j hi hj

/-- A new row of what is copied, with room behind it. -/
theorem app_cells {ok : Nat → Prop} {sz n m cap : Nat} {els new : List (List AV)} {olds : List Value} {A : Option Addr} {vals : Nat → Nat → Value} {rest : Array Value} (hs : 0 < sz) (hn : els.length = n) (hm : new.length = m) (ho : olds.length = n * sz)
    (hes : ∀ (i : Nat) (cs : List AV), els[i]? = some cs → cs.length = sz) (hold : ∀ (i j : Nat) (cs : List AV) (u : AV), els[i]? = some cs → cs[j]? = some u → Dat w ok u (olds.getD (i * sz + j) undef)) (ho1 : ∀ v ∈ olds, v.oneCell' = true)
    (h : Src w ok sz new A vals) (hr1 : ∀ v ∈ rest.toList, v.oneCell' = true) (hrs : rest.size = (cap - (n + m)) * sz) (hc : n + m ≤ cap) :
    (olds.toArray ++ (flat sz m vals).toArray ++ rest).size = cap * sz ∧ (∀ (i : Nat) (cs : List AV), (els ++ new)[i]? = some cs → cs.length = sz) ∧ (∀ i, i < (olds.toArray ++ (flat sz m vals).toArray ++ rest).size → ((olds.toArray ++ (flat sz m vals).toArray ++ rest).getD i undef).oneCell' = true) ∧
      ∀ (i j : Nat) (cs : List AV) (u : AV), (els ++ new)[i]? = some cs → cs[j]? = some u → Dat w ok u ((olds.toArray ++ (flat sz m vals).toArray ++ rest).getD (i * sz + j) undef) := by
  have hsz : (olds.toArray ++ (flat sz m vals).toArray ++ rest).size = cap * sz := by
    simp only [Array.size_append, List.size_toArray, flat_len, ho, hrs]
    rw [← Nat.add_mul, ← Nat.add_mul]
    congr 1
    omega
  have e : ∀ k, (olds.toArray ++ (flat sz m vals).toArray ++ rest).getD k undef = (olds ++ (flat sz m vals ++ rest.toList)).getD k undef := fun k => by
    rw [List.getD_eq_getElem?_getD, Array.getD_eq_getD_getElem?, ← Array.getElem?_toList]
    simp
  refine ⟨hsz, ?_, ?_, ?_⟩
  · intro i cs hi
    rcases Nat.lt_or_ge i els.length with hlt | hge
    · rw [List.getElem?_append_left hlt] at hi
      exact hes i cs hi
    · rw [List.getElem?_append_right hge] at hi
      exact h.len _ cs hi
  · intro i hi
    rw [e]
    have hi' : i < (olds ++ (flat sz m vals ++ rest.toList)).length := by
      have : (olds ++ (flat sz m vals ++ rest.toList)).length = (olds.toArray ++ (flat sz m vals).toArray ++ rest).size := by simp; omega
      omega
    rw [List.getD_eq_getElem?_getD, List.getElem?_eq_getElem hi']
    have hmem := List.getElem_mem hi'
    rcases List.mem_append.1 hmem with h1 | h1
    · exact ho1 _ h1
    · rcases List.mem_append.1 h1 with h2 | h2
      · subst hm
        exact h.ones hs _ h2
      · exact hr1 _ h2
  · intro i j cs u hi hu
    rw [e]
    rcases Nat.lt_or_ge i els.length with hlt | hge
    · rw [List.getElem?_append_left hlt] at hi
      have hj := lt_of_get hu
      rw [hes i cs hi] at hj
      have := mul_lt_of (hn ▸ hlt) hj
      rw [List.getD_eq_getElem?_getD, List.getElem?_append_left (by omega), ← List.getD_eq_getElem?_getD]
      exact hold i j cs u hi hu
    · rw [List.getElem?_append_right hge] at hi
      have hj := lt_of_get hu
      rw [h.len _ cs hi] at hj
      have hi2 := lt_of_get hi
      have e2 : i * sz + j = olds.length + ((i - els.length) * sz + j) := by
        rw [ho, ← hn]
        have : i * sz = els.length * sz + (i - els.length) * sz := by rw [← Nat.add_mul]; congr 1; omega
        omega
      have e3 := flat_at (sz := sz) (n := m) (vals := vals) (i := i - els.length) (j := j) (by omega) hj
      rw [List.getD_eq_getElem?_getD, List.getElem?_append_right (by omega), e2, Nat.add_sub_cancel_left, List.getElem?_append_left (lt_of_get e3), e3]
      exact h.dat _ _ _ _ hi hu
theorem zeroCells_one {z : Value} {n : Nat} (h : ∀ v ∈ z.cells.toList, v.oneCell' = true) : ∀ v ∈ (Builtin.zeroCells z.cells n).toList, v.oneCell' = true := by
  intro v hv
  unfold Builtin.zeroCells at hv
  simp only [Array.toList_map, List.mem_map] at hv
  obtain ⟨i, hi, rfl⟩ := hv
  have hi' : i < n * z.cells.size := by simpa using hi
  have hpos : 0 < z.cells.size := by
    rcases Nat.eq_zero_or_pos z.cells.size with h0 | h0
    · rw [h0] at hi'; omega
    · exact h0
  have hlt : i % z.cells.size < z.cells.size := Nat.mod_lt _ hpos
  rw [show z.cells[i % z.cells.size]! = z.cells[i % z.cells.size]'hlt by simp [hlt]]
  exact h _ (by simp)
end
end Go.Proofs.Ytpmnchgpbojppaa

/- The abstract machine: appends, what they come to. -/
set_option linter.unusedVariables false
namespace Go.Proofs.Ytpmnchgpbojppaa
open Go Go.RowKit

section
variable {P : Program} {T : Nat → TI} {B : Base} {D : Nat → Prop} {nid : Nat} {s : St} {a : Act} {w : World} {x : Cx} {K : AV → Wr → Prop} {hp : Hp}

/-- An append that makes a new row. -/
theorem run_grow {t ty e : TypeId} {i : TypeInfo} {z : Value} (ht : P.underlying t = some (.slice e)) (hi : P.info? e = some i) (hz : i.zero = some z) {A : Option Addr} {n c : Nat} {olds : List Value} (ho : olds.length = n * i.size)
    (hold : ∀ b, A = some b → ∀ j v, olds[j]? = some v → w.cell? (b.add j) = some v) (hA : A = none → n = 0 ∧ c = 0) {ad : Addr} {m c' : Nat} {news : List Value} (hl : news.length = m * i.size) (hnews : ∀ j v, news[j]? = some v → w.cell? (ad.add j) = some v)
    (hg : c < n + m) (h63 : n + m ≤ 9223372036854775807) (hby : (n + m) * i.bytes ≤ 140737488355328) :
    (Builtin.append_ #[t, t] ty #[.slice A n c, .slice (some ad) m c']).run P w = .ok (.slice (some ⟨w.heap.size, 0, none⟩) (n + m) (grownCap w (n + m) c e))
        (w.drew.alloc (.cells (olds.toArray ++ news.toArray ++ Builtin.zeroCells z.cells (grownCap w (n + m) c e - (n + m))) e)) := by
  cases A with
  | none =>
    obtain ⟨rfl, rfl⟩ := hA rfl
    have h0 : olds = [] := List.eq_nil_of_length_eq_zero (by simpa using ho)
    subst h0
    have := run_append_nil (P := P) w t ty e i z ht hi hz ad m c' news hl hnews (by omega) (by omega) (by have := hby; simp only [Nat.zero_add] at this; omega)
    simpa using this
  | some b => exact run_append_grow (P := P) w t ty e i z ht hi hz b n c olds ho (hold b rfl) ad m c' news hl hnews hg (by omega) (growslice_fits (by omega) hby)
/-- An append of nothing. -/
theorem run_app0 {t ty e : TypeId} {i : TypeInfo} (ht : P.underlying t = some (.slice e)) (hi : P.info? e = some i) {A A' : Option Addr} {n c c' : Nat} (hc : n ≤ c) : (Builtin.append_ #[t, t] ty #[.slice A n c, .slice A' 0 c']).run P w = .ok (.slice A n c) w := by
  cases A <;> cases A' <;> simp [Builtin.append_, run_underlying ht, sizeOf, typeInfo, hi, Builtin.lenOf, Builtin.firstCells, loadCells, loadCellsFrom, hc, storeCells]

/-- Memory that is data from the first. -/
theorem Stp.okAdd (h : HRel w x hp) (w1 : World) (hh : w1.heap = w.heap) (ho : w1.os = w.os) (ht : w1.tape = w.tape) (hou : w1.output = w.output) (ob : Obj) :
    Stp w x hp (w1.alloc ob) { x with ok := fun b => x.ok b ∨ b = w.heap.size } hp := by
  have hs1 : w1.heap.size = w.heap.size := by rw [hh]
  have hk : ∀ b, b < w.heap.size → (w1.alloc ob).heap[b]? = w.heap[b]? := fun b hb => by rw [Below.heap_alloc _ _ _ (by rw [hs1]; exact hb), hh]
  have m : Mo w x hp (w1.alloc ob) { x with ok := fun b => x.ok b ∨ b = w.heap.size } hp := ⟨fun _ h => .inl h, fun _ _ h => h, fun b hb => hk b (h.okb b hb), fun _ _ h => ⟨h, rfl⟩, fun _ _ _ _ h => ⟨h, rfl, rfl⟩, fun _ _ h => ⟨h, rfl⟩⟩
  refine ⟨m, ⟨ho, ht, hou, by simp [hs1], fun b hb _ => hk b hb, ?_, fun id o b h1 h2 => .inr ⟨id, o, h1, h2⟩⟩, ?_⟩
  · rintro b (hb | rfl)
    · exact .inl hb
    · exact .inr (.inl (Nat.le_refl _))
  · refine ⟨?_, h.dom, h.gen, h.gdm, ?_, h.inj, fun id o ho => (h.obj id o ho).mono m rfl rfl (fun b hb => hk b (h.liv id o b ho hb).1)⟩
    · rintro b (hb | rfl)
      · have := h.okb b hb
        simp [hs1]
        omega
      · simp [hs1]
    · intro id o b h1 h2
      have h3 := h.liv id o b h1 h2
      refine ⟨by simp [hs1]; omega, ?_⟩
      rintro (h4 | h4)
      · exact h3.2 h4
      · have := h3.1
        omega

/-- What an append is, run. -/
def AppRun (P : Program) (t : Nat) (w : World) (v v' r : Value) (w' : World) : Prop := ∀ ty, (Builtin.append_ #[t, t] ty #[v, v']).run P w = .ok r w'
/-- The end of an operation, its run told. -/
def FinR (nid : Nat) (s : St) (w : World) (x : Cx) (K : AV → Wr → Prop) (run : Value → World → Prop) : Prop :=
  ∃ v wr val w' x', K v wr ∧ run val w' ∧ Stp w x s.hp w' x' (applyW wr s.hp) ∧ VRel w' x' (applyW wr s.hp) v val ∧ ∀ id g, x'.dom id g → x.dom id g ∨ id = nid ∨ s.hp.has id = true

theorem appNew_s (hT : TabOk P T) (hC : Core B D s a w x) (hfr : ¬ D nid) {t e : Nat} (hu : P.underlying t = some (.slice e)) (hkn : (T e).known) (hs0 : 0 < (T e).sz) {new : List (List AV)} {A A0 : Option Addr} {c : Nat} {vals : Nat → Nat → Value}
    (hsrc : Src w x.ok (T e).sz new A vals) (h : wpQ P nid s (appNewQ nid e (T e).sz (T e).byt new) K) : FinR nid s w x K (AppRun P t w (.slice A0 0 0) (.slice A new.length c)) := by
  obtain ⟨⟨hby, h63⟩, hK⟩ := h
  obtain ⟨ti, zv, hi, hs, hb, hz, hzc, hzl, hone⟩ := info_of hT e hkn
  have hfr' : ∀ g, ¬ x.dom nid g := fun g hd => hfr (hC.dom _ _ hd)
  rcases Nat.eq_zero_or_pos new.length with h0 | h0
  · have hnil : new = [] := List.eq_nil_of_length_eq_zero h0
    subst hnil
    have st := Stp.add (w' := w) hC.h hfr' (.row e (T e).sz 0 []) none 0 rfl rfl rfl (Nat.le_refl _) (fun _ _ => rfl) (fun b hb => by cases hb)
      (fun m => ⟨fun i cs h => by simp at h, .inl ⟨by simp [Cx.put], rfl⟩⟩)
    refine ⟨_, _, .slice A0 0 0, w, _, hK, fun ty => run_app0 hu hi (Nat.le_refl _), st, .row _ _ _ _ _ _ _ (.inr ⟨rfl, .inl rfl⟩) (Nat.le_refl _) fun _ => .inl ⟨rfl, rfl, by simp [Cx.put]⟩, fun id g hd => (dom_put hd).imp (fun h => h) .inl⟩
  · rcases hsrc.cell with h1 | ⟨ad, rfl, hcell⟩
    · omega
    · have hge := grownCap_ge w (0 + new.length) 0 e
      have hcm := grownCap_le_maxLen w (0 + new.length) 0 e (by unfold maxLen; omega)
      have hr := fun ty => run_grow (P := P) (w := w) (t := t) (ty := ty) hu hi hz (A := A0) (n := 0) (c := 0) (olds := []) (by simp) (fun b _ j v h => by simp at h) (fun _ => ⟨rfl, rfl⟩) (ad := ad) (m := new.length) (c' := c) (news := flat (T e).sz new.length vals)
        (by rw [flat_len, hs]) (hsrc.news hs0 rfl) (by omega) (by omega) (by rw [hb]; simpa using hby)
      have hc4 := app_cells (w := w) (ok := x.ok) (sz := (T e).sz) (n := 0) (m := new.length) (cap := grownCap w (0 + new.length) 0 e) (els := []) (new := new) (olds := []) (rest := Builtin.zeroCells zv.cells (grownCap w (0 + new.length) 0 e - (0 + new.length))) hs0 rfl rfl (by simp)
        (fun i cs h => by simp at h) (fun i j cs u h => by simp at h) (fun v h => by cases h) hsrc (zeroCells_one hone) (by rw [size_zeroCells, ← hs]; congr 1; rw [hs, ← hzl, hzc]; simp) hge
      obtain ⟨c1, c2, c3, c4⟩ := hc4
      simp only [List.nil_append] at c2 c4
      obtain ⟨st, hv⟩ := Stp.row hC.h hfr' w.drew rfl rfl rfl rfl e (T e).sz new _ (grownCap w (0 + new.length) 0 e) c1 (by omega) hcm c2 c3 c4
      simp only [Nat.zero_add] at hr hv st
      exact ⟨_, _, _, _, _, hK, hr, st, hv, fun id g hd => (dom_put hd).imp (fun h => h) .inl⟩

theorem appTight_s (hT : TabOk P T) (hC : Core B D s a w x) {t e : Nat} (hu : P.underlying t = some (.slice e)) (hkn : (T e).known) (hs0 : 0 < (T e).sz) {els new : List (List AV)} {A : Option Addr} {c : Nat} {vals : Nat → Nat → Value} {v0 : Value}
    (hv0 : VRel w x s.hp (.sl true els) v0) (hsrc : Src w x.ok (T e).sz new A vals) (h : wpQ P nid s (appTightQ (T e).sz (T e).byt els new) K) : FinR nid s w x K (AppRun P t w v0 (.slice A new.length c)) := by
  obtain ⟨⟨hby, h63, huni⟩, hK⟩ := h
  obtain ⟨ti, zv, hi, hs, hb, hz, hzc, hzl, hone⟩ := info_of hT e hkn
  cases hv0 with
  | dat hd =>
    have hd0 := hd
    cases hd with
    | sl _ _ A0 c0 sz' vals0 hc hm ht hsz hA hcell hd =>
      have hc0 := ht rfl
      subst hc0
      rcases Nat.eq_zero_or_pos new.length with h0 | h0
      · have hnil : new = [] := List.eq_nil_of_length_eq_zero h0
        subst hnil
        refine ⟨_, _, _, w, x, hK, fun ty => run_app0 hu hi (Nat.le_refl _), Stp.refl hC.h, ?_, fun _ _ h => .inl h⟩
        rw [List.append_nil]
        exact .dat (.sl false els A0 _ sz' vals0 hc hm (fun h => by cases h) hsz hA hcell hd)
      · rcases hsrc.cell with h1 | ⟨ad, rfl, hcl⟩
        · omega
        · have hez : ∀ (i : Nat) (cs : List AV), els[i]? = some cs → sz' = (T e).sz := fun i cs h => by rw [← hsz i cs h]; exact huni.at_ h
          have hge := grownCap_ge w (els.length + new.length) els.length e
          have hcm := grownCap_le_maxLen w (els.length + new.length) els.length e (by unfold maxLen; omega)
          have hol : ∀ k v, (flat (T e).sz els.length vals0)[k]? = some v → ∃ i j cs, els[i]? = some cs ∧ j < sz' ∧ k = i * sz' + j ∧ v = vals0 i j := by
            intro k v hk
            obtain ⟨i, j, h1, h2, h3, h4⟩ := flat_inv hs0 hk
            have hin := List.getElem?_eq_getElem h1
            have e1 := hez i _ hin
            exact ⟨i, j, _, hin, by omega, by rw [e1]; exact h3, h4⟩
          have hr := fun ty => run_grow (P := P) (w := w) (t := t) (ty := ty) hu hi hz (A := A0) (n := els.length) (c := els.length) (olds := flat (T e).sz els.length vals0) (by rw [flat_len, hs]) (fun b hb j v hj => by
              obtain ⟨i, k, cs, h1, h2, rfl, rfl⟩ := hol j v hj
              exact (hcell i k cs b h1 h2 hb).1) (fun hn => by
              rcases Nat.eq_zero_or_pos els.length with h | h
              · exact ⟨h, h⟩
              · obtain ⟨b, e1, _⟩ := hA 0 _ (List.getElem?_eq_getElem h)
                rw [hn] at e1
                cases e1) (ad := ad) (m := new.length) (c' := c) (news := flat (T e).sz new.length vals)
            (by rw [flat_len, hs]) (hsrc.news hs0 rfl) (by omega) (by omega) (by rw [hb]; exact hby)
          have hc4 := app_cells (w := w) (ok := x.ok) (sz := (T e).sz) (n := els.length) (m := new.length) (cap := grownCap w (els.length + new.length) els.length e) (els := els) (new := new) (olds := flat (T e).sz els.length vals0) (rest := Builtin.zeroCells zv.cells (grownCap w (els.length + new.length) els.length e - (els.length + new.length))) hs0 rfl rfl (by rw [flat_len])
            (fun i cs h => huni.at_ h) (fun i j cs u h hu => by
              have hj := lt_of_get hu
              rw [huni.at_ h] at hj
              have e1 := flat_at (sz := (T e).sz) (n := els.length) (vals := vals0) (lt_of_get h) hj
              rw [List.getD_eq_getElem?_getD, e1]
              exact hd i j cs u h hu) (fun v hv => by
              obtain ⟨k, hk⟩ := List.getElem?_of_mem hv
              obtain ⟨i, j, cs, h1, h2, rfl, rfl⟩ := hol k v hk
              obtain ⟨b, rfl, _⟩ := hA i cs h1
              exact (hcell i j cs b h1 h2 rfl).2) hsrc (zeroCells_one hone) (by rw [size_zeroCells, ← hs]; congr 1; rw [hs, ← hzl, hzc]; simp) hge
          obtain ⟨c1, c2, c3, c4⟩ := hc4
          have st := Stp.okAdd hC.h w.drew rfl rfl rfl rfl (.cells ((flat (T e).sz els.length vals0).toArray ++ (flat (T e).sz new.length vals).toArray ++ Builtin.zeroCells zv.cells (grownCap w (els.length + new.length) els.length e - (els.length + new.length))) e)
          refine ⟨_, _, _, _, _, hK, hr, st, ?_, fun _ _ h => .inl h⟩
          have hlen : (els ++ new).length = els.length + new.length := by simp
          rw [← hlen]
          refine .dat (.sl false (els ++ new) _ _ (T e).sz (fun i j => ((flat (T e).sz els.length vals0).toArray ++ (flat (T e).sz new.length vals).toArray ++ Builtin.zeroCells zv.cells (grownCap w (els ++ new).length els.length e - (els ++ new).length)).getD (i * (T e).sz + j) undef) (by rw [hlen]; exact hge) (by rw [hlen]; exact hcm) (fun h => by cases h) c2 (fun i cs h => ⟨_, rfl, .inr rfl⟩) ?_ ?_)
          · intro i j cs ad' hi' hj e1
            cases e1
            have hlt := lt_of_get hi'
            have hbnd : i * (T e).sz + j < grownCap w (els.length + new.length) els.length e * (T e).sz := mul_lt_of (by rw [hlen] at hlt; omega) hj
            rw [hlen]
            refine ⟨?_, c3 _ (by rw [c1]; exact hbnd)⟩
            have hh : (w.drew.alloc (.cells ((flat (T e).sz els.length vals0).toArray ++ (flat (T e).sz new.length vals).toArray ++ Builtin.zeroCells zv.cells (grownCap w (els.length + new.length) els.length e - (els.length + new.length))) e)).heap[w.heap.size]? = some (.cells _ e (0, 0)) := heap_alloc_new w.drew _
            have := cell_getD hh (o := 0) (j := i * (T e).sz + j) (by rw [c1, Nat.zero_add]; exact hbnd)
            simpa using this
          · intro i j cs u h1 h2
            rw [hlen]
            exact (c4 i j cs u h1 h2).mono st.mo.ok st.mo.ag
end
end Go.Proofs.Ytpmnchgpbojppaa

/- The abstract machine: appends to rows, copies, slices that are built. -/
set_option linter.unusedVariables false
namespace Go.Proofs.Ytpmnchgpbojppaa
open Go Go.RowKit

section
variable {P : Program} {T : Nat → TI} {B : Base} {D : Nat → Prop} {nid : Nat} {s : St} {a : Act} {w : World} {x : Cx} {K : AV → Wr → Prop} {hp : Hp}

/-- Cells that are written over others, elements all of them. -/
theorem over_cells {ok : Nat → Prop} {sz lo m : Nat} {els new : List (List AV)} {vs : Array Value} {vals : Nat → Nat → Value} (hs : 0 < sz) (hm : new.length = m)
    (hfit : lo * sz + (flat sz m vals).length ≤ vs.size) (hes : ∀ (i : Nat) (cs : List AV), els[i]? = some cs → cs.length = sz) (hd : ∀ (i j : Nat) (cs : List AV) (u : AV), els[i]? = some cs → cs[j]? = some u → Dat w ok u (vs.getD (i * sz + j) undef))
    (hnl : ∀ (i : Nat) (cs : List AV), new[i]? = some cs → cs.length = sz) (hnd : ∀ (i j : Nat) (cs : List AV) (u : AV), new[i]? = some cs → cs[j]? = some u → Dat w ok u (vals i j)) (hlo : lo ≤ els.length) :
    (∀ (i : Nat) (cs : List AV), (els.take lo ++ (new ++ els.drop (lo + m)))[i]? = some cs → cs.length = sz) ∧
      ∀ (i j : Nat) (cs : List AV) (u : AV), (els.take lo ++ (new ++ els.drop (lo + m)))[i]? = some cs → cs[j]? = some u → Dat w ok u ((splA vs (lo * sz) (flat sz m vals)).getD (i * sz + j) undef) := by
  have hlt : (els.take lo).length = lo := by simp; omega
  have cases3 : ∀ (i : Nat) (cs : List AV), (els.take lo ++ (new ++ els.drop (lo + m)))[i]? = some cs → (i < lo ∧ els[i]? = some cs) ∨ (lo ≤ i ∧ i < lo + m ∧ new[i - lo]? = some cs) ∨ (lo + m ≤ i ∧ els[i]? = some cs) := by
    intro i cs hi
    rcases Nat.lt_or_ge i lo with h | h
    · rw [List.getElem?_append_left (by omega), List.getElem?_take, if_pos h] at hi
      exact .inl ⟨h, hi⟩
    · rw [List.getElem?_append_right (by omega), hlt] at hi
      rcases Nat.lt_or_ge i (lo + m) with h2 | h2
      · rw [List.getElem?_append_left (by omega)] at hi
        exact .inr (.inl ⟨h, h2, hi⟩)
      · rw [List.getElem?_append_right (by omega), List.getElem?_drop] at hi
        exact .inr (.inr ⟨h2, by rw [show lo + m + (i - lo - new.length) = i by omega] at hi; exact hi⟩)
  refine ⟨?_, ?_⟩
  · intro i cs hi
    rcases cases3 i cs hi with ⟨_, h⟩ | ⟨_, _, h⟩ | ⟨_, h⟩
    · exact hes i cs h
    · exact hnl _ cs h
    · exact hes i cs h
  · intro i j cs u hi hu
    have hj := lt_of_get hu
    rw [splA_getD hfit, flat_len]
    rcases cases3 i cs hi with ⟨h1, h⟩ | ⟨h1, h2, h⟩ | ⟨h1, h⟩
    · rw [hes i cs h] at hj
      rw [if_pos (mul_lt_of h1 hj)]
      exact hd i j cs u h hu
    · rw [hnl _ cs h] at hj
      have e1 : i * sz + j = lo * sz + ((i - lo) * sz + j) := by
        have : i * sz = lo * sz + (i - lo) * sz := by rw [← Nat.add_mul]; congr 1; omega
        omega
      have e2 : (i - lo) * sz + j < m * sz := mul_lt_of (by omega) hj
      rw [if_neg (by omega), if_pos (by omega), e1, Nat.add_sub_cancel_left, List.getD_eq_getElem?_getD, flat_at (by omega) hj]
      exact hnd _ _ _ _ h hu
    · have h5 : (lo + m) * sz ≤ i * sz := Nat.mul_le_mul_right _ h1
      rw [Nat.add_mul] at h5
      rw [if_neg (by omega), if_neg (by omega)]
      exact hd i j cs u h hu

theorem appRow_s (hT : TabOk P T) (hC : Core B D s a w x) {t e : Nat} (hu : P.underlying t = some (.slice e)) (hkn : (T e).known) (hs0 : 0 < (T e).sz) {new : List (List AV)} {A : Option Addr} {c : Nat} {vals : Nat → Nat → Value} {v0 : Value} {id g sz lo n : Nat} {o : AObj}
    (hv0 : VRel w x s.hp (.row id g sz lo n) v0) (hob : look s.hp id = some o) (hsrc : Src w x.ok (T e).sz new A vals) (h : wpQ P nid s (appRowQ e (T e).sz (T e).byt id g sz lo n new o) K) : FinR nid s w x K (AppRun P t w v0 (.slice A new.length c)) := by
  unfold appRowQ at h
  split at h
  · rename_i rt sz' g' els
    obtain ⟨ti, zv, hi, hs, hb, hz, hzc, hzl, hone⟩ := info_of hT e hkn
    obtain ⟨hl, hr⟩ := row_of hC hob
    split at h
    · rename_i hn
      obtain ⟨⟨rfl, rfl, rfl, rfl, rfl, hby, h63⟩, hK⟩ := h
      subst hn
      cases hv0 with
      | dat h => cases h
      | row _ _ _ _ _ A0 c0 hid hc0 hh =>
        have hrl : rowL s.hp id g (T rt).sz := ⟨_, _, hob⟩
        -- the same object, its number raised
        have chg : ∀ (w' : World) (b' : Option Nat) (cap : Nat), w'.os = w.os → w'.tape = w.tape → w'.output = w.output → w.heap.size ≤ w'.heap.size → (∀ b, b < w.heap.size → x.β id ≠ some b → w'.heap[b]? = w.heap[b]?) →
            (∀ b, b' = some b → (x.β id = some b ∨ w.heap.size ≤ b) ∧ b < w'.heap.size) →
            (Mo w x s.hp w' (x.put id (g + 1) b' cap) (setA id (.row rt (T rt).sz (g + 1) (els ++ new)) s.hp) → ORel w' (x.put id (g + 1) b' cap) (setA id (.row rt (T rt).sz (g + 1) (els ++ new)) s.hp) id (.row rt (T rt).sz (g + 1) (els ++ new))) →
            Stp w x s.hp w' (x.put id (g + 1) b' cap) (setA id (.row rt (T rt).sz (g + 1) (els ++ new)) s.hp) := by
          intro w' b' cap h1 h2 h3 h4 h5 h6 h7
          refine Stp.chg hC.h hob _ h1 h2 h3 h4 h5 rfl (fun _ _ h => .inl h) ?_ (fun k hk => if_neg hk) (fun k hk => if_neg hk) (fun b hb => h6 b (by simpa [Cx.put] using hb)) (fun _ _ e => by cases e) ?_ (fun _ _ e => by cases e) h7
          · rintro k g' (h | ⟨rfl, rfl | rfl⟩)
            · exact .inl h
            · exact .inl (hC.h.dom _ _ hob)
            · exact .inr ⟨rfl, rfl⟩
          · intro t1 sz1 g1 els1 e1
            cases e1
            refine ⟨.inr ⟨rfl, .inr rfl⟩, fun g' hg' => ?_, fun hd => ?_⟩
            · have := hC.h.gen _ _ _ _ _ _ hob hg'
              omega
            · have := hC.h.gen _ _ _ _ _ _ hob hd
              omega
        have hdom : ∀ k g' b' cap, (x.put id (g + 1) b' cap).dom k g' → x.dom k g' ∨ k = nid ∨ s.hp.has k = true := fun k g' b' cap hd => by
          rcases hd with h | ⟨rfl, _⟩
          · exact .inl h
          · exact .inr (.inr (by simp [Hp.has, hob]))
        have hβp : ∀ b' cap, (x.put id (g + 1) b' cap).β id = b' := fun b' cap => by simp [Cx.put]
        have hγp : ∀ b' cap, (x.put id (g + 1) b' cap).γ id = cap := fun b' cap => by simp [Cx.put]
        -- an append that makes a new block
        have grow : ∀ (olds : List Value), olds.length = els.length * (T rt).sz → (∀ b, A0 = some b → ∀ j v, olds[j]? = some v → w.cell? (b.add j) = some v) → (A0 = none → els.length = 0 ∧ c0 = 0) → (∀ v ∈ olds, v.oneCell' = true) →
            (∀ (i j : Nat) (cs : List AV) (u : AV), els[i]? = some cs → cs[j]? = some u → Dat w x.ok u (olds.getD (i * (T rt).sz + j) undef)) → c0 < els.length + new.length → 0 < new.length → FinR nid s w x K (AppRun P t w (.slice A0 els.length c0) (.slice A new.length c)) := by
          intro olds ho1 ho2 ho3 ho4 ho5 hlt hm0
          rcases hsrc.cell with h1 | ⟨ad, rfl, hcl⟩
          · omega
          · have hge := grownCap_ge w (els.length + new.length) c0 rt
            have hcm := grownCap_le_maxLen w (els.length + new.length) c0 rt (by unfold maxLen; omega)
            have hr := fun ty => run_grow (P := P) (w := w) (t := t) (ty := ty) hu hi hz (A := A0) (n := els.length) (c := c0) (olds := olds) (by rw [ho1, hs]) ho2 ho3 (ad := ad) (m := new.length) (c' := c) (news := flat (T rt).sz new.length vals)
              (by rw [flat_len, hs]) (hsrc.news hs0 rfl) hlt (by omega) (by rw [hb]; exact hby)
            obtain ⟨c1, c2, c3, c4⟩ := app_cells (w := w) (ok := x.ok) (sz := (T rt).sz) (n := els.length) (m := new.length) (cap := grownCap w (els.length + new.length) c0 rt) (els := els) (new := new) (olds := olds) (rest := Builtin.zeroCells zv.cells (grownCap w (els.length + new.length) c0 rt - (els.length + new.length))) hs0 rfl rfl ho1
              hl ho5 ho4 hsrc (zeroCells_one hone) (by rw [size_zeroCells, ← hs]; congr 1; rw [hs, ← hzl, hzc]; simp) hge
            have st := chg (w.drew.alloc (.cells (olds.toArray ++ (flat (T rt).sz new.length vals).toArray ++ Builtin.zeroCells zv.cells (grownCap w (els.length + new.length) c0 rt - (els.length + new.length))) rt)) (some w.heap.size) (grownCap w (els.length + new.length) c0 rt)
              rfl rfl rfl (by simp) (fun b hb _ => (Below.heap_alloc w.drew _ _ (by simpa using hb))) (fun b hb => by cases hb; simp) (fun m => ⟨c2, .inr ⟨w.heap.size, _, hβp _ _, heap_alloc_new w.drew _, by rw [hγp]; exact c1, by rw [hγp]; simpa using hge, by rw [hγp]; exact hcm, c3, fun i j cs u h1 h2 => (c4 i j cs u h1 h2).mono m.ok m.ag⟩⟩)
            exact ⟨_, _, _, _, _, hK, hr, st, .row _ _ _ _ _ _ _ (.inr ⟨rfl, .inr rfl⟩) hge fun _ => .inr ⟨_, hβp _ _, by simp, by rw [hγp]; omega⟩, fun k g' hd => hdom _ _ _ _ hd⟩
        rcases hh hrl with ⟨hn0, rfl, _⟩ | ⟨b, hbb, rfl, hcap⟩
        · -- no room at all
          have hnil : els = [] := List.eq_nil_of_length_eq_zero hn0
          subst hnil
          rcases Nat.eq_zero_or_pos new.length with h0 | h0
          · have hnn : new = [] := List.eq_nil_of_length_eq_zero h0
            subst hnn
            have st := chg w none 0 rfl rfl rfl (Nat.le_refl _) (fun _ _ _ => rfl) (fun b hb => by cases hb) (fun m => ⟨fun i cs h => by simp at h, .inl ⟨hβp _ _, rfl⟩⟩)
            exact ⟨_, _, .slice A0 0 0, w, _, hK, fun ty => run_app0 hu hi (Nat.le_refl _), st, .row _ _ _ _ _ _ _ (.inr ⟨rfl, .inr rfl⟩) (Nat.le_refl _) fun _ => .inl ⟨rfl, rfl, by rw [hγp]; exact Nat.zero_le _⟩, fun k g' hd => hdom _ _ _ _ hd⟩
          · exact grow [] (by simp) (fun b _ j v h => by simp at h) (fun _ => ⟨rfl, rfl⟩) (fun v h => by cases h) (fun i j cs u h => by simp at h) (by simp; omega) h0
        · rcases hr with ⟨hb', _⟩ | ⟨b', vs, hb', hw, hsz, hle, hm, hon, hd⟩
          · rw [hbb] at hb'
            cases hb'
          · rw [hbb] at hb'
            injection hb' with hb'
            subst hb'
            have hfitn : els.length * (T rt).sz ≤ vs.size := by rw [hsz]; exact Nat.mul_le_mul_right _ hle
            have hcg : c0 = x.γ id := by omega
            by_cases hroom : els.length + new.length ≤ c0
            · -- in place
              rcases Nat.eq_zero_or_pos new.length with h0 | h0
              · have hnn : new = [] := List.eq_nil_of_length_eq_zero h0
                subst hnn
                have st := chg w (some b) (x.γ id) rfl rfl rfl (Nat.le_refl _) (fun _ _ _ => rfl) (fun b1 hb1 => by cases hb1; exact ⟨.inl hbb, (hC.h.liv id _ b hob hbb).1⟩)
                  (fun m => by
                    rw [List.append_nil]
                    exact ⟨hl, .inr ⟨b, vs, hβp _ _, hw, by rw [hγp]; exact hsz, by rw [hγp]; exact hle, by rw [hγp]; exact hm, hon, fun i j cs u h1 h2 => (hd i j cs u h1 h2).mono m.ok m.ag⟩⟩)
                refine ⟨_, _, _, w, _, hK, fun ty => run_app0 hu hi (by omega), st, .row _ _ _ _ _ _ _ (.inr ⟨rfl, .inr rfl⟩) (by simpa using hc0) fun _ => .inr ⟨b, hβp _ _, by simp, by rw [hγp]; omega⟩, fun k g' hd => hdom _ _ _ _ hd⟩
              · rcases hsrc.cell with h1 | ⟨ad, rfl, hcl⟩
                · omega
                · have hfit : els.length * (T rt).sz + (flat (T rt).sz new.length vals).length ≤ vs.size := by
                    rw [flat_len, ← Nat.add_mul, hsz, ← hcg]
                    exact Nat.mul_le_mul_right _ hroom
                  have hrun := fun ty => run_append_room (P := P) w t ty rt ti hu hi b els.length c0 vs (by simpa using hw) ad new.length c (flat (T rt).sz new.length vals) (by rw [flat_len, hs]) (hsrc.news hs0 rfl) (hsrc.ones hs0) hroom (by rw [hs]; exact hfit)
                  have hspl : (vs.toList.take (els.length * ti.size) ++ flat (T rt).sz new.length vals ++ vs.toList.drop (els.length * ti.size + (flat (T rt).sz new.length vals).length)).toArray = splA vs (els.length * (T rt).sz) (flat (T rt).sz new.length vals) := by
                    simp [splA, hs]
                  obtain ⟨c2, c4⟩ := over_cells (w := w) (ok := x.ok) (lo := els.length) (els := els) (new := new) (vs := vs) (vals := vals) hs0 rfl hfit hl hd hsrc.len hsrc.dat (Nat.le_refl _)
                  have hlst : els.take els.length ++ (new ++ els.drop (els.length + new.length)) = els ++ new := by simp
                  rw [hlst] at c2 c4
                  have st := chg (w.setRow b (splA vs (els.length * (T rt).sz) (flat (T rt).sz new.length vals))) (some b) (x.γ id) rfl rfl rfl (by simp) (fun k _ hk => setRow_other _ _ _ _ (fun e => hk (by rw [hbb, e])))
                    (fun b1 hb1 => by cases hb1; exact ⟨.inl hbb, by simpa using (hC.h.liv id _ b hob hbb).1⟩)
                    (fun m => ⟨c2, .inr ⟨b, _, hβp _ _, setRow_heap _ _ _ _ _ _ hw, by rw [hγp, splA_size hfit]; exact hsz, by rw [hγp]; simp; omega, by rw [hγp]; exact hm, splA_one hfit hon (hsrc.ones hs0), fun i j cs u h1 h2 => (c4 i j cs u h1 h2).mono m.ok m.ag⟩⟩)
                  refine ⟨_, _, _, _, _, hK, fun ty => by have := hrun ty; rw [hspl] at this; simpa using this, st, .row _ _ _ _ _ _ _ (.inr ⟨rfl, .inr rfl⟩) hroom fun _ => .inr ⟨b, hβp _ _, by simp, by rw [hγp]; omega⟩, fun k g' hd => hdom _ _ _ _ hd⟩
            · refine grow (vs.toList.take (els.length * (T rt).sz)) (by simp; omega) ?_ (fun h => by cases h) ?_ ?_ (by omega) (by omega)
              · intro b1 hb1 j v hj
                cases hb1
                rw [List.getElem?_take] at hj
                split at hj
                · rename_i hjl
                  have := cell_getD hw (o := 0) (j := j) (by omega)
                  simp only [Nat.zero_add] at this
                  rw [Nat.zero_mul, this]
                  rw [Array.getElem?_toList] at hj
                  rw [Array.getD_eq_getD_getElem?, hj]
                  rfl
                · cases hj
              · intro v hv
                obtain ⟨k, hk⟩ := List.getElem?_of_mem (List.mem_of_mem_take hv)
                rw [Array.getElem?_toList] at hk
                have hk2 := (Array.getElem?_eq_some_iff.1 hk).1
                have := hon k hk2
                rw [Array.getD_eq_getD_getElem?, hk] at this
                exact this
              · intro i j cs u h1 h2
                have hj := lt_of_get h2
                rw [hl i cs h1] at hj
                have := mul_lt_of (lt_of_get h1) hj
                have e1 := hd i j cs u h1 h2
                rw [Array.getD_eq_getD_getElem?, ← Array.getElem?_toList] at e1
                rw [List.getD_eq_getElem?_getD, List.getElem?_take, if_pos this]
                exact e1
    · obtain ⟨⟨rfl, rfl, rfl, hle2⟩, hK⟩ := h
      cases hv0 with
      | dat h => cases h
      | row _ _ _ _ _ A0 c0 hid hc0 hh =>
        have hrl : rowL s.hp id g (T e).sz := ⟨_, _, hob⟩
        have hdom : ∀ k g', x.dom k g' → x.dom k g' ∨ k = nid ∨ s.hp.has k = true := fun k g' h => .inl h
        have hsame : new.length = 0 → els.take (lo + n) ++ (new ++ els.drop (lo + n + new.length)) = els := fun h0 => by
          have : new = [] := List.eq_nil_of_length_eq_zero h0
          subst this
          simp
        have none_ : new.length = 0 → FinR nid s w x K (AppRun P t w (.slice A0 n c0) (.slice A new.length c)) := fun h0 => by
          have hset : ∀ (l : Hp) (o : AObj), look l id = some o → setA id o l = l := by
            intro l
            induction l with
            | nil => intro o h; simp [look] at h
            | cons p l ih =>
              obtain ⟨j, u⟩ := p
              intro o h
              simp only [look] at h
              split at h
              · rename_i e
                injection h with h
                simp [setA, e, h]
              · rename_i e
                simp [setA, e, ih o h]
          refine ⟨_, _, _, w, x, hK, fun ty => by rw [h0]; exact run_app0 hu hi hc0, ?_, ?_, fun k g' h => .inl h⟩
          · simp only [applyW]
            rw [hsame h0, hset _ _ hob]
            exact Stp.refl hC.h
          · simp only [applyW]
            rw [hsame h0, hset _ _ hob, h0]
            exact .row _ _ _ _ _ _ _ hid hc0 hh
        rcases hh hrl with ⟨rfl, rfl, hgl⟩ | ⟨b, hbb, rfl, hcap⟩
        · refine none_ ?_
          rcases hr with ⟨_, rfl⟩ | ⟨b', vs, hb', hw, hsz, hle, hm, hon, hd⟩
          · simp only [List.length_nil] at hle2; omega
          · omega
        · rcases hr with ⟨hb', rfl⟩ | ⟨b', vs, hb', hw, hsz, hle, hm, hon, hd⟩
          · rw [hbb] at hb'
            cases hb'
          · rw [hbb] at hb'
            injection hb' with hb'
            subst hb'
            rcases Nat.eq_zero_or_pos new.length with h0 | h0
            · exact none_ h0
            · rcases hsrc.cell with h1 | ⟨ad, rfl, hcl⟩
              · omega
              · have hfit : (lo + n) * (T e).sz + (flat (T e).sz new.length vals).length ≤ vs.size := by
                  rw [flat_len, ← Nat.add_mul, hsz]
                  exact Nat.mul_le_mul_right _ (by omega)
                have hst := run_storeCells_at (P := P) b ((lo + n) * (T e).sz) rt (flat (T e).sz new.length vals) 0 vs w hw (by simpa using hfit) (hsrc.ones hs0)
                have hfc := run_firstCells_some (P := P) w (T e).sz new.length ad new.length c (flat (T e).sz new.length vals) (flat_len _ _ _) (hsrc.news hs0 rfl)
                have hadd : (⟨b, lo * (T e).sz, none⟩ : Addr).add (n * (T e).sz) = ⟨b, (lo + n) * (T e).sz, none⟩ := by rw [av_lit_add, Nat.add_mul]
                have hrun : ∀ ty, (Builtin.append_ #[t, t] ty #[.slice (some ⟨b, lo * (T e).sz, none⟩) n c0, .slice (some ad) new.length c]).run P w = .ok (.slice (some ⟨b, lo * (T e).sz, none⟩) (n + new.length) c0) (w.setRow b (splA vs ((lo + n) * (T e).sz) (flat (T e).sz new.length vals))) := fun ty => by
                  simp [Builtin.append_, run_underlying hu, sizeOf, typeInfo, hi, hs, Builtin.lenOf, show n + new.length ≤ c0 by omega, hfc, hadd, hst, splA]
                obtain ⟨c2, c4⟩ := over_cells (w := w) (ok := x.ok) (lo := lo + n) (els := els) (new := new) (vs := vs) (vals := vals) hs0 rfl hfit hl hd hsrc.len hsrc.dat (by omega)
                have st := Stp.rowSet hC.h hob hbb hw (els' := els.take (lo + n) ++ (new ++ els.drop (lo + n + new.length))) (by rw [splA_size hfit]; exact hsz) (by simp; omega) hm (splA_one hfit hon (hsrc.ones hs0)) c2 c4
                exact ⟨_, _, _, _, _, hK, hrun, st, .row _ _ _ _ _ _ _ hid (by omega) fun _ => .inr ⟨b, hbb, rfl, hcap⟩, fun k g' h => .inl h⟩
  · exact h.elim
end
end Go.Proofs.Ytpmnchgpbojppaa

/- The abstract machine: copies, slices that are built, builtins. -/
set_option linter.unusedVariables false
namespace Go.Proofs.Ytpmnchgpbojppaa
open Go Go.RowKit

section
variable {P : Program} {T : Nat → TI} {B : Base} {D : Nat → Prop} {nid : Nat} {s : St} {a : Act} {w : World} {x : Cx} {K : AV → Wr → Prop} {hp : Hp}

theorem setA_same : ∀ (l : Hp) {id : Nat} {o : AObj}, look l id = some o → setA id o l = l := by
  intro l
  induction l with
  | nil => intro id o h; simp [look] at h
  | cons p l ih =>
    obtain ⟨j, u⟩ := p
    intro id o h
    simp only [look] at h
    split at h
    · rename_i e
      injection h with h
      simp [setA, e, h]
    · rename_i e
      simp [setA, e, ih h]

/-- The first elements of what is copied. -/
theorem Src.take {ok : Nat → Prop} {sz : Nat} {els : List (List AV)} {A : Option Addr} {vals : Nat → Nat → Value} (h : Src w ok sz els A vals) (n : Nat) : Src w ok sz (els.take n) A vals := by
  have hsub : ∀ (i : Nat) (cs : List AV), (els.take n)[i]? = some cs → els[i]? = some cs := fun i cs hi => by
    rw [List.getElem?_take] at hi
    split at hi
    · exact hi
    · cases hi
  refine ⟨?_, fun i j hi hj => h.one i j (by simp at hi; omega) hj, fun i cs hi => h.len i cs (hsub i cs hi), fun i j cs u hi => h.dat i j cs u (hsub i cs hi)⟩
  rcases h.cell with h0 | ⟨ad, e, hc⟩
  · left
    rw [List.length_take]
    omega
  · exact .inr ⟨ad, e, fun i j hi hj => hc i j (by simp at hi; omega) hj⟩

def CopyRun (P : Program) (t : Nat) (w : World) (v v' r : Value) (w' : World) : Prop := ∀ ty, (Builtin.copy_ #[t, t] ty #[v, v']).run P w = .ok r w'
theorem copyRow_s (hT : TabOk P T) (hC : Core B D s a w x) {t e : Nat} (hu : P.underlying t = some (.slice e)) (hkn : (T e).known) (hs0 : 0 < (T e).sz) {new els : List (List AV)} {A : Option Addr} {c : Nat} {vals : Nat → Nat → Value} {v0 : Value} {id g lo n : Nat} {rt : TypeId}
    (hv0 : VRel w x s.hp (.row id g (T e).sz lo n) v0) (hob : look s.hp id = some (.row rt (T e).sz g els)) (hsrc : Src w x.ok (T e).sz new A vals) (hle : lo + n ≤ els.length)
    (hK : K (.raw (.int .i64 (min new.length n : Nat))) [(id, some (.row rt (T e).sz g (els.take lo ++ (new.take n ++ els.drop (lo + min new.length n)))))]) : FinR nid s w x K (CopyRun P t w v0 (.slice A new.length c)) := by
  obtain ⟨ti, zv, hi, hs, hb, hz, hzc, hzl, hone⟩ := info_of hT e hkn
  obtain ⟨hl, hr⟩ := row_of hC hob
  have hmin : Nat.min new.length n = min new.length n := rfl
  cases hv0 with
  | dat h => cases h
  | row _ _ _ _ _ A0 c0 hid hc0 hh =>
    have zero : min new.length n = 0 → FinR nid s w x K (CopyRun P t w (.slice A0 n c0) (.slice A new.length c)) := fun h0 => by
      have hsame : els.take lo ++ (new.take n ++ els.drop (lo + min new.length n)) = els := by
        have : new.take n = [] := List.eq_nil_of_length_eq_zero (by rw [List.length_take]; omega)
        rw [this, h0]
        simp
      refine ⟨_, _, _, w, x, hK, fun ty => ?_, ?_, .raw _, fun k g' h => .inl h⟩
      · cases A0 <;> cases A <;> simp [Builtin.copy_, run_underlying hu, Builtin.lenOf, Builtin.firstCells, sizeOf, typeInfo, hi, hmin, h0, loadCells, loadCellsFrom, storeCells, goInt]
      · simp only [applyW]
        rw [hsame, setA_same _ hob]
        exact Stp.refl hC.h
    rcases Nat.eq_zero_or_pos (min new.length n) with h0 | h0
    · exact zero h0
    · have hrl : rowL s.hp id g (T e).sz := ⟨_, _, hob⟩
      rcases hh hrl with ⟨rfl, rfl, hgl⟩ | ⟨b, hbb, rfl, hcap⟩
      · omega
      · rcases hr with ⟨hb', rfl⟩ | ⟨b', vs, hb', hw, hsz, hle', hm, hon, hd⟩
        · rw [hbb] at hb'
          cases hb'
        · rw [hbb] at hb'
          injection hb' with hb'
          subst hb'
          have hst := hsrc.take n
          have hlt : (new.take n).length = min new.length n := by rw [List.length_take]; omega
          rcases hst.cell with h1 | ⟨ad, rfl, hcl⟩
          · omega
          · have hfit : lo * (T e).sz + (flat (T e).sz (min new.length n) vals).length ≤ vs.size := by
              rw [flat_len, ← Nat.add_mul, hsz]
              exact Nat.mul_le_mul_right _ (by omega)
            have hns := hst.news hs0 rfl
            have hos := hst.ones hs0
            rw [hlt] at hns hos
            have hstr := run_storeCells_at (P := P) b (lo * (T e).sz) rt (flat (T e).sz (min new.length n) vals) 0 vs w hw (by simpa using hfit) hos
            have hfc := run_firstCells_some (P := P) w (T e).sz (min new.length n) ad new.length c (flat (T e).sz (min new.length n) vals) (flat_len _ _ _) hns
            have hrun : ∀ ty, (Builtin.copy_ #[t, t] ty #[.slice (some ⟨b, lo * (T e).sz, none⟩) n c0, .slice (some ad) new.length c]).run P w = .ok (.int .i64 (min new.length n : Nat)) (w.setRow b (splA vs (lo * (T e).sz) (flat (T e).sz (min new.length n) vals))) := fun ty => by
              simp [Builtin.copy_, run_underlying hu, sizeOf, typeInfo, hi, hs, Builtin.lenOf, hmin, hfc, hstr, splA, goInt]
            obtain ⟨c2, c4⟩ := over_cells (w := w) (ok := x.ok) (lo := lo) (m := min new.length n) (els := els) (new := new.take n) (vs := vs) (vals := vals) hs0 hlt hfit hl hd hst.len hst.dat (by omega)
            have st := Stp.rowSet hC.h hob hbb hw (els' := els.take lo ++ (new.take n ++ els.drop (lo + min new.length n))) (by rw [splA_size hfit]; exact hsz) (by simp; omega) hm (splA_one hfit hon hos) c2 c4
            exact ⟨_, _, _, _, _, hK, hrun, st, .raw _, fun k g' h => .inl h⟩

/-! ### Slices that are built -/
inductive PDat (w : World) (ok : Nat → Prop) : List (Nat × List AV) → List (Nat × Value) → Prop where
  | nil : PDat w ok [] []
  | cons {i cs v l m} (hl : cs.length = v.cells.size) (h1 : ∀ k, k < v.cells.size → (v.cells.getD k undef).oneCell' = true) (h : ∀ (j : Nat) (u : AV), cs[j]? = some u → Dat w ok u (v.cells.getD j undef)) (r : PDat w ok l m) : PDat w ok ((i, cs) :: l) ((i, v) :: m)
theorem normP_s (hC : Core B D s a w x) : ∀ {us : List (Nat × AV)} {vals : List (Nat × Value)} {k : List (Nat × List AV) → Wr → Q}, PRel w x s.hp us vals → (us.all fun p => p.2.lies) = true → wpQ P nid s (normP us k) K →
    ∃ (l : List (Nat × List AV)) (ids : List Nat), (l.map (·.1)) = us.map (·.1) ∧ (∀ x' : Cx, (∀ b, x.ok b → x'.ok b) → (∀ id ∈ ids, s.hp.has id = true → ∀ b, x.β id = some b → x'.ok b) → PDat w x'.ok l vals) ∧ wpQ P nid s (k l (ids.map fun i => (i, none))) K
  | [], [], k, _, _, h => ⟨[], [], rfl, fun _ _ _ => .nil, h⟩
  | (i, u) :: us, (_, v) :: vals, k, .cons hv hr, hall, h => by
    simp only [List.all_cons, Bool.and_eq_true] at hall
    obtain ⟨h1, h2, h3⟩ := hv.lies_ hall.1
    obtain ⟨cs, ids, h4, h5, h6, h7⟩ := normL_s hC (hv.cells_ hall.1) h
    obtain ⟨l, ids', h8, h9, h10⟩ := normP_s hC hr hall.2 h7
    refine ⟨(i, cs) :: l, ids ++ ids', by simp [h8], fun x' hok hfree => ?_, by simpa using h10⟩
    refine .cons (by rw [h4, h1]) h2 (fun j u' hu => ?_) (h9 x' hok fun id hid => hfree id (by simp [hid]))
    obtain ⟨u0, _, h12⟩ := h5 j u' hu
    have := h12 x' hok (fun id hid => hfree id (by simp [hid]))
    simpa using this

theorem fillE_len : ∀ (parts : List (Nat × List AV)) (els : List (List AV)), (fillE els parts).length = els.length
  | [], _ => rfl
  | (i, cs) :: r, els => by rw [fillE, fillE_len r]; simp
theorem fillRow_s {ok : Nat → Prop} {sz n : Nat} : ∀ {l : List (Nat × List AV)} {vs : List (Nat × Value)} {els : List (List AV)} {cells : Array Value}, PDat w ok l vs → (∀ p ∈ l, p.1 < n ∧ p.2.length = sz) → els.length = n → cells.size = n * sz →
    (∀ (i : Nat) (cs : List AV), els[i]? = some cs → cs.length = sz) → (∀ i, i < cells.size → (cells.getD i undef).oneCell' = true) → (∀ (i j : Nat) (cs : List AV) (u : AV), els[i]? = some cs → cs[j]? = some u → Dat w ok u (cells.getD (i * sz + j) undef)) →
    ∃ r, Instr.fill (fun i => some (i * sz, sz)) cells vs = some r ∧ r.size = n * sz ∧ (∀ (i : Nat) (cs : List AV), (fillE els l)[i]? = some cs → cs.length = sz) ∧ (∀ i, i < r.size → (r.getD i undef).oneCell' = true) ∧ ∀ (i j : Nat) (cs : List AV) (u : AV), (fillE els l)[i]? = some cs → cs[j]? = some u → Dat w ok u (r.getD (i * sz + j) undef)
  | [], [], els, cells, _, _, _, h2, h3, h4, h5 => ⟨cells, rfl, h2, h3, h4, h5⟩
  | (i, cs) :: l, (_, v) :: vs, els, cells, .cons hl h1 hd hr, hb, hn, hc, h3, h4, h5 => by
    obtain ⟨hin, hcs⟩ := hb (i, cs) (by simp)
    simp only at hin hcs
    have hfit : i * sz + v.cells.size ≤ cells.size := by
      rw [hc, ← hl, hcs]
      have : (i + 1) * sz ≤ n * sz := Nat.mul_le_mul_right _ hin
      rw [Nat.add_mul] at this
      omega
    obtain ⟨p1, p2⟩ := putCells_spec (i * sz) v.cells cells hfit
    obtain ⟨r, q1, q2⟩ := fillRow_s (els := els.set i cs) (cells := putCells cells (i * sz) v.cells) hr (fun p hp => hb p (by simp [hp])) (by simpa using hn) (by rw [p1]; exact hc) (fun k cs' hk => by
      rw [List.getElem?_set] at hk
      split at hk
      · split at hk
        · injection hk with hk
          rw [← hk]
          exact hcs
        · cases hk
      · exact h3 k cs' hk) (fun k hk => by
      rw [p1] at hk
      rw [p2]
      by_cases hq : i * sz ≤ k ∧ k < i * sz + v.cells.size
      · rw [if_pos hq]
        exact h1 _ (by omega)
      · rw [if_neg hq]
        exact h4 k hk) (fun k j cs' u hk hu => by
      have hj := lt_of_get hu
      rw [List.getElem?_set] at hk
      split at hk
      · rename_i e
        subst e
        split at hk
        · injection hk with hk
          subst hk
          rw [p2, if_pos (by omega), show i * sz + j - i * sz = j by omega]
          exact hd j u hu
        · cases hk
      · rename_i e
        rw [h3 k cs' hk] at hj
        rw [p2, if_neg ?_]
        · exact h5 k j cs' u hk hu
        · rw [← hl, hcs]
          rcases Nat.lt_or_gt_of_ne e with h | h
          · have : (i + 1) * sz ≤ k * sz := Nat.mul_le_mul_right _ h
            rw [Nat.add_mul] at this
            omega
          · have : (k + 1) * sz ≤ i * sz := Nat.mul_le_mul_right _ h
            rw [Nat.add_mul] at this
            omega)
    refine ⟨r, ?_, q2⟩
    unfold Instr.fill
    simp only
    rw [if_neg (by simp; omega)]
    exact q1

theorem so_buildSlice (hT : TabOk P T) (hC : Core B D s a w x) (hfr : ¬ D nid) {c : Bool} (hc : c = true) {o : Oper} {t n : Nat} {parts : Array (Nat × Operand)} (ho : o.op = .buildSlice t n parts) (h : wpQ P nid s (evOp T nid c (.buildSlice t n parts)) K) : Fin P nid s a w x o K := by
  simp only [evOp] at h
  split at h
  · rename_i e hk
    obtain ⟨us, h1, h2⟩ := partsQ_s hC hc h
    obtain ⟨⟨_, hall, hsm, hs0, hn0, hkn⟩, h3⟩ := h2
    have hu := und_sl hT hk
    obtain ⟨ti, zv, hi, hs, hb, hz, hzc, hzl, hone⟩ := info_of hT e hkn
    have hlies : (us.all fun p => p.2.lies) = true := by
      rw [List.all_eq_true] at hall ⊢
      intro p hp
      have := hall p hp
      simp only [Bool.and_eq_true] at this
      exact this.1.2
    obtain ⟨l, ids, h4, h5, h6⟩ := normP_s hC h1 hlies h3
    obtain ⟨x1, st1, e1, e2, e3, h11, h12⟩ := Stp.dels ids hC.h
    have hpd := h5 x1 st1.mo.ok h12
    have hzs : zv.cells.size = (T e).sz := by rw [← hzl, hzc]; simp
    have hbnd : ∀ p ∈ l, p.1 < n ∧ p.2.length = (T e).sz := by
      have key : ∀ (us : List (Nat × AV)) (vals : List (Nat × Value)) (l : List (Nat × List AV)), PRel w x s.hp us vals → PDat w x1.ok l vals → (us.all fun p => decide (p.1 < n) && p.2.lies && p.2.cells.length == (T e).sz) = true → ∀ p ∈ l, p.1 < n ∧ p.2.length = (T e).sz := by
        intro us vals l hP
        induction hP generalizing l with
        | nil => intro hq; cases hq; intro _ p hp; cases hp
        | @cons i u v us vals hv hr ih =>
          intro hq hall
          cases hq with
          | cons hl h1 h hr' =>
            simp only [List.all_cons, Bool.and_eq_true, decide_eq_true_eq, beq_iff_eq] at hall
            obtain ⟨⟨⟨a1, a2⟩, a3⟩, a4⟩ := hall
            intro p hp
            rcases List.mem_cons.1 hp with rfl | hp
            · exact ⟨a1, by rw [hl, (hv.lies_ a2).1, a3]⟩
            · exact ih _ hr' (by simpa using a4) p hp
      exact key us _ l h1 hpd hall
    have hel : ∀ (i : Nat) (cs : List AV), (List.replicate n ((T e).z.map AV.loose))[i]? = some cs → i < n ∧ cs = (T e).z.map AV.loose := fun i cs hi => by
      rw [List.getElem?_replicate] at hi
      split at hi
      · injection hi with hi
        exact ⟨by assumption, hi.symm⟩
      · cases hi
    obtain ⟨r, q1, q2, q3, q4, q5⟩ := fillRow_s (sz := (T e).sz) (n := n) (els := List.replicate n ((T e).z.map AV.loose)) (cells := madeCells zv.cells (n * (T e).sz)) hpd hbnd (by simp) (size_madeCells _ _) (fun i cs hi => by rw [(hel i cs hi).2]; simp [hzl])
      (madeCells_one _ _ hone (.inl (by omega))) (fun i j cs u hi hu => by
        obtain ⟨hin, rfl⟩ := hel i cs hi
        rw [List.getElem?_map, hzc, List.getElem?_map] at hu
        obtain ⟨u1, h7, rfl⟩ := Option.map_eq_some_iff.1 hu
        obtain ⟨v, h8, rfl⟩ := Option.map_eq_some_iff.1 h7
        obtain ⟨h9, h10⟩ := List.getElem?_eq_some_iff.1 h8
        have h9' : j < (T e).sz := by rw [← hzs]; simpa using h9
        rw [madeCells_at _ _ _ _ _ hzs h9' (mul_lt_of hin h9')]
        have : zv.cells.getD j undef = v := by
          have h9 : j < zv.cells.size := by rw [hzs]; exact h9'
          simpa [h9] using h10
        rw [this]
        exact ofV_loose v)
    have hpos : ¬ n * (T e).sz = 0 := by
      have := Nat.mul_pos hn0 hs0
      omega
    have hr := run_buildSlice (P := P) w t e n (parts.map fun p => (p.1, a.eval p.2)) r ti zv hu hi hz (by rw [hs]; omega) (by rw [hs]; exact hpos) (by rw [hs, Array.toList_map]; exact q1)
    have hfr1 : ∀ g, ¬ x1.dom nid g := fun g hd => by rw [e1] at hd; exact hfr (hC.dom _ _ hd)
    obtain ⟨st2, hv⟩ := Stp.row st1.h hfr1 w rfl rfl rfl rfl e (T e).sz (fillE (List.replicate n ((T e).z.map AV.loose)) l) r n q2 (by rw [fillE_len]; simp) (by unfold maxLen; have := Nat.le_mul_of_pos_right n hs0; omega) q3 q4 q5
    have hlen : (fillE (List.replicate n ((T e).z.map AV.loose)) l).length = n := by rw [fillE_len]; simp
    rw [hlen] at hv
    refine ⟨_, _, .slice (some ⟨w.heap.size, 0, none⟩) n n, w.alloc (.cells r e), x1.put nid 0 (some w.heap.size) n, h6, .inl (by simp only [execOp, ho]; simp [hr]), ?_, ?_, fun id g hd => ?_⟩
    · rw [applyW_append]
      exact st1.trans st2
    · rw [applyW_append]
      exact hv
    · rcases dom_put hd with h | h
      · rw [e1] at h
        exact .inl h
      · exact .inr (.inl h)
  · exact h.elim
end
end Go.Proofs.Ytpmnchgpbojppaa

