/- Packed texts: Ev, Gb, Gs, Gc, Gt, Laws, OwnLib, Br, Own, Last, May2, Find, May, May3, Keyed, Get, App, Set, New, DelLib. -/
import Derived.Test.YtkhanhhingicpaaB2
import Derived.Laws.CopyOwn
import Derived.Deep.RegionHeld3
import Derived.Test.YtkhanhhingicpaaProg
import Derived.StillTailTactics
import Derived.BigQuiet
import Derived.Deep.QuietTactic
import Derived.Deep.RegionLawGrows
import Derived.Maps.AppendAt
import Derived.Deep.DeepCutAuto
import Derived.Deep.CutBlock
set_option linter.unusedVariables false
set_option linter.unusedSimpArgs false
namespace Go.Proofs.Ytkhanhhingicpaa
open Go Go.RowKit Go.Proofs.Try
attribute [push_cast] runOps evOp opd opd0 opds optQ strip ofV AV.cells AV.one AV.lies normQ normL splC takeV loadQ storeQ addP fieldAddrQ fieldQ indexAddrQ indexQ fillA buildQ fillE AV.loose normP intQ eqCells kindsOf eqAgg binQ unQ convQ makeQ bnd sliceQ lenQ elsQ appNewQ appTightQ appRowQ appendQ copyQ builtinQ callQ partsQ pickR guardQ
attribute [push_cast] look setA delA applyW callW St.put St.wr St.keep TI.agg TI.known runD wrKeys
attribute [push_cast] updL List.getElem?_cons_zero List.getElem?_cons_succ List.getElem?_nil List.forall_mem_cons List.not_mem_nil false_implies
attribute [push_cast] true_and and_true implies_true forall_const eq_self false_and and_false ne_eq not_false_eq_true not_true_eq_false or_false false_or true_or or_true Bool.true_and Bool.and_true Bool.false_and Bool.and_false Bool.not_true Bool.not_false beq_self_eq_true Bool.false_eq_true if_true if_false
attribute [push_cast] enumA List.toList_toArray List.length_cons List.length_nil Value.oneCell' List.append_nil List.nil_append List.cons_append List.drop_zero List.drop_succ_cons List.take_succ_cons List.take_zero List.all_cons List.all_nil AV.in0 AV.in1 AV.in2 AV.in3
attribute [push_cast] List.map_cons List.map_nil List.getD_cons_zero List.getD_cons_succ List.getD_nil Option.some.injEq Nat.add_zero Nat.zero_add
attribute [push_cast] resL resV resAV Option.map_some Option.map_none List.length_map Int.toNat_natCast List.getD_eq_getElem?_getD List.getElem?_map Option.getD_some Option.getD_none Int.ofNat_lt Int.ofNat_le Int.natCast_nonneg decide_eq_true_eq decide_eq_false_iff_not
attribute [push_cast] List.replicate_succ List.replicate_zero List.length_replicate List.length_append Nat.min_self List.drop_nil List.take_nil
attribute [push_cast] List.reverse_cons List.reverse_nil imp_self beq_true beq_false Bool.not_not Bool.and_self
attribute [push_cast] cond_true cond_false decide_true decide_false bne_self_eq_false
attribute [push_cast] AV.short AV.shorts AObj.shorts List.set_cons_zero List.set_cons_succ List.set_nil List.length_set
def wpS {α : Type} (f : α → Prop) : Option α → Prop
  | some v => f v
  | none => False
@[push_cast] theorem wpS_some {α : Type} (f : α → Prop) (v : α) : wpS f (some v) = f v := rfl
@[push_cast] theorem wpS_none {α : Type} (f : α → Prop) : wpS f none = False := rfl
@[congr] theorem wpS_congr {α : Type} {f : α → Prop} {o o' : Option α} (h : o = o') : wpS f o = wpS f o' := by rw [h]
def keepS (t : Nat) (r : List (Nat × AV)) : Option AV → List (Nat × AV)
  | some v => (t, v) :: r
  | none => r
@[push_cast] theorem keepS_some (t : Nat) (r : List (Nat × AV)) (v : AV) : keepS t r (some v) = (t, v) :: r := rfl
@[push_cast] theorem keepS_none (t : Nat) (r : List (Nat × AV)) : keepS t r none = r := rfl
@[congr] theorem keepS_congr {t : Nat} {r : List (Nat × AV)} {o o' : Option AV} (h : o = o') : keepS t r o = keepS t r o' := by rw [h]
@[push_cast] theorem keepL_nil (m : List (Nat × AV)) : keepL m [] = [] := rfl
@[push_cast] theorem keepL_cons (m : List (Nat × AV)) (t : Nat) (r : List Nat) : keepL m (t :: r) = keepS t (keepL m r) (look m t) := by
  simp only [keepL]
  cases look m t <;> rfl
section
variable {P : Program} {T : Nat → TI} {nid : Nat} {s : St} {K : AV → Wr → Prop} {K2 : List Ky → AV → Wr → Prop} {rs : List Ky}
@[push_cast] theorem wpQ_done (v : AV) (wr : Wr) : wpQ P nid s (.done v wr) K = K v wr := rfl
@[push_cast high] theorem wpQ_needT {p : Prop} {k : Q} (h : p) : wpQ P nid s (.need p k) K = wpQ P nid s k K := by rw [eq_iff_iff]; exact ⟨fun h => h.2, fun h2 => ⟨h, h2⟩⟩
@[push_cast] theorem wpQ_need (p : Prop) (k : Q) : wpQ P nid s (.need p k) K = (p ∧ wpQ P nid s k K) := rfl
@[push_cast] theorem wpQ_slot (t : Nat) (k : AV → Q) : wpQ P nid s (.slot t k) K = wpS (fun v => wpQ P nid s (k v) K) (look s.tm t) := by
  simp only [wpQ]
  cases look s.tm t <;> rfl
@[push_cast] theorem wpQ_obj (id : Nat) (k : AObj → Q) : wpQ P nid s (.obj id k) K = wpS (fun v => wpQ P nid s (k v) K) (look s.hp id) := by
  simp only [wpQ]
  cases look s.hp id <;> rfl
@[push_cast] theorem wpQ_any (p : Bool → Prop) (k : Bool → Q) : wpQ P nid s (.any p k) K = ∀ b, p b → wpQ P nid s (k b) K := rfl
@[push_cast] theorem wpQ_bad : wpQ P nid s .bad K = False := rfl
@[push_cast] theorem wpQD_done (v : AV) (wr : Wr) : wpQD P nid s (.done v wr) rs K2 = K2 rs v wr := rfl
@[push_cast high] theorem wpQD_needT {p : Prop} {k : Q} (h : p) : wpQD P nid s (.need p k) rs K2 = wpQD P nid s k rs K2 := by rw [eq_iff_iff]; exact ⟨fun h => h.2, fun h2 => ⟨h, h2⟩⟩
@[push_cast] theorem wpQD_need (p : Prop) (k : Q) : wpQD P nid s (.need p k) rs K2 = (p ∧ wpQD P nid s k rs K2) := rfl
@[push_cast] theorem wpQD_slot (t : Nat) (k : AV → Q) : wpQD P nid s (.slot t k) rs K2 = wpS (fun v => wpQD P nid s (k v) (.t t :: rs) K2) (look s.tm t) := by
  simp only [wpQD]
  cases look s.tm t <;> rfl
@[push_cast] theorem wpQD_obj (id : Nat) (k : AObj → Q) : wpQD P nid s (.obj id k) rs K2 = wpS (fun v => wpQD P nid s (k v) (.o id :: rs) K2) (look s.hp id) := by
  simp only [wpQD]
  cases look s.hp id <;> rfl
@[push_cast] theorem wpQD_bad : wpQD P nid s .bad rs K2 = False := rfl
@[congr] theorem wpQ_congr {q q' : Q} (h : q = q') : wpQ P nid s q K = wpQ P nid s q' K := by rw [h]
@[congr] theorem wpQD_congr {q q' : Q} (h : q = q') : wpQD P nid s q rs K2 = wpQD P nid s q' rs K2 := by rw [h]
@[congr] theorem runOps_congr {E : EvT} {d : List (Option Nat)} {l : List Oper} {i i' : Nat} {s s' : St} {K : St → Prop} (h : i = i') (h2 : s = s') : runOps E P T d l i s K = runOps E P T d l i' s' K := by rw [h, h2]
@[congr] theorem runD_congr {E : EvT} {d : List (Option Nat)} {l : List Oper} {i i' : Nat} {s s' : St} {acc acc' : List (List Ky × List Ky)} {K : List (List Ky × List Ky) → St → Prop} (h : i = i') (h2 : s = s') (h3 : acc = acc') : runD E P T d l i s acc K = runD E P T d l i' s' acc' K := by rw [h, h2, h3]
@[congr] theorem slot_congr {t : Nat} {k : AV → Q} : Q.slot t k = Q.slot t k := rfl
@[congr] theorem obj_congr {t : Nat} {k : AObj → Q} : Q.obj t k = Q.obj t k := rfl
@[congr] theorem need_congr {p : Prop} {k : Q} : Q.need p k = Q.need p k := rfl
def guardD (T : Nat → TI) (nid : Nat) (want : Bool) (op : Op) : Option Nat → Q
  | none => .bad
  | some d => .slot d fun g => match g with
      | .raw (.bool b) => guardQ (b == want) (evOp T nid (b == want) op)
      | .ifb g (.raw (.bool b)) => guardQ (g && (b == want)) (evOp T nid (g && (b == want)) op)
      | _ => .bad
@[congr] theorem VC_congr {B : Base} {c : Code} {Q : Exit → St → Prop} {s s' : St} (h : s = s') : VC P B c Q s = VC P B c Q s' := by rw [h]
@[congr] theorem evOper_congr {T : Nat → TI} {d : List (Option Nat)} {o : Oper} : evOper T nid d o = evOper T nid d o := rfl
@[congr] theorem evOp_congr {T : Nat → TI} {n n' : Nat} {c c' : Bool} {o : Op} (h : n = n') (h2 : c = c') : evOp T n c o = evOp T n' c' o := by rw [h, h2]
@[congr] theorem guardD_congr {T : Nat → TI} {n n' : Nat} {w : Bool} {o : Op} {d d' : Option Nat} (h : n = n') (h2 : d = d') : guardD T n w o d = guardD T n' w o d' := by rw [h, h2]
@[push_cast] theorem evOper_none {T : Nat → TI} {ds : List (Option Nat)} {op : Op} {d : Option Nat} {ty : TypeId} {ps : String} {af : Array Edge} : evOper T nid ds { dst := d, op := op, type := ty, pos := ps, after := af, guard := none } = evOp T nid true op := rfl
@[push_cast] theorem evOper_some {T : Nat → TI} {ds : List (Option Nat)} {op : Op} {d : Option Nat} {ty : TypeId} {ps : String} {af : Array Edge} {j : Nat} {w : Bool} : evOper T nid ds { dst := d, op := op, type := ty, pos := ps, after := af, guard := some (j, w) } = guardD T nid w op (ds.getD j none) := by
  simp only [evOper]
  cases ds.getD j none <;> rfl
attribute [push_cast] guardD
@[congr] theorem strip_congr {c c' : Bool} {v v' : AV} {k : AV → Q} (h : c = c') (h2 : v = v') : strip c v k = strip c' v' k := by rw [h, h2]
@[congr] theorem opd0_congr {x : Operand} {k : AV → Q} : opd0 x k = opd0 x k := rfl
@[congr] theorem opd_congr {c c' : Bool} {x : Operand} {k : AV → Q} (h : c = c') : opd c x k = opd c' x k := by rw [h]
@[congr] theorem opds_congr {c c' : Bool} {x : List Operand} {k : List AV → Q} (h : c = c') : opds c x k = opds c' x k := by rw [h]
@[congr] theorem optQ_congr {c c' : Bool} {x : Option Operand} {k : Option AV → Q} (h : c = c') : optQ c x k = optQ c' x k := by rw [h]
@[congr] theorem normQ_congr {v v' : AV} {k : AV → Wr → Q} (h : v = v') : normQ v k = normQ v' k := by rw [h]
@[congr] theorem normL_congr {v v' : List AV} {k : List AV → Wr → Q} (h : v = v') : normL v k = normL v' k := by rw [h]
@[congr] theorem normP_congr {v v' : List (Nat × AV)} {k : List (Nat × List AV) → Wr → Q} (h : v = v') : normP v k = normP v' k := by rw [h]
@[congr] theorem addP_congr {p p' : AV} {n n' : Nat} {k : AV → Q} (h : p = p') (h2 : n = n') : addP p n k = addP p' n' k := by rw [h, h2]
@[congr] theorem bnd_congr {x x' : Option AV} {d d' : Int} {k : Int → Q} (h : x = x') (h2 : d = d') : bnd x d k = bnd x' d' k := by rw [h, h2]
@[congr] theorem lenQ_congr {x x' : AV} {k : Int → Q} (h : x = x') : lenQ x k = lenQ x' k := by rw [h]
@[congr] theorem elsQ_congr {n n' : Nat} {x x' : AV} {k : List (List AV) → Q} (h : n = n') (h2 : x = x') : elsQ n x k = elsQ n' x' k := by rw [h, h2]
@[congr] theorem partsQ_congr {c c' : Bool} {l : List (Nat × Operand)} {k : List (Nat × AV) → Q} (h : c = c') : partsQ c l k = partsQ c' l k := by rw [h]
theorem callP {f : FuncId} {args : List AV} {r : AV} (hc : Ctr P f args [] r []) (ha : (args.all (AV.in3 (Hp.has []))) = true) (h : K r []) : wpQ P nid s (.call none f args) K := ⟨[], r, [], (fun p hp => by cases hp), hc, ha, rfl, rfl, h⟩
theorem callG {c : Bool} {f : FuncId} {args : List AV} {r : AV} (hc : c = true → Ctr P f args [] r []) (ha : (args.all (AV.in3 fun _ => false)) = true) (h : K (.ifb c r) []) : wpQ P nid s (.call (some c) f args) K := ⟨r, hc, ha, h⟩
theorem callPD {f : FuncId} {args : List AV} {r : AV} (hc : Ctr P f args [] r []) (ha : (args.all (AV.in3 (Hp.has []))) = true) (h : K2 rs r []) : wpQD P nid s (.call none f args) rs K2 := ⟨[], r, [], (fun p hp => by cases hp), hc, ha, rfl, rfl, h⟩
theorem callGD {c : Bool} {f : FuncId} {args : List AV} {r : AV} (hc : c = true → Ctr P f args [] r []) (ha : (args.all (AV.in3 fun _ => false)) = true) (h : K2 rs (.ifb c r) []) : wpQD P nid s (.call (some c) f args) rs K2 := ⟨r, hc, ha, h⟩
theorem callH {f : FuncId} {args : List AV} {H H' : Hp} {r : AV} (hc : Ctr P f args H r H') (hl : ∀ p ∈ H, look s.hp p.1 = some p.2) (ha : (args.all (AV.in3 H.has)) = true) (hi : (H.all fun p => p.2.inD H.has) = true) (hh : (H'.all fun p => H.has p.1 || p.1 == nid) = true) (h : K r (callW H H')) : wpQ P nid s (.call none f args) K := ⟨H, r, H', hl, hc, ha, hi, hh, h⟩
end
theorem look_cons_eq {α : Type} (n : Nat) (v : α) (r : List (Nat × α)) : look ((n, v) :: r) n = some v := by simp [look]
theorem VC.weak {P : Program} {B : Base} {c : Code} {Q : Exit → St → Prop} {s : St} (h : VC P B c (fun e s' => ∃ s'', Sub s' s'' ∧ Q e s'') s) : VC P B c Q s :=
  fun a w hs => wp_mono (h a w hs) fun e a' w' ⟨s', ⟨s'', hsub, hq⟩, hr⟩ => ⟨s'', hq, hsub B a' w' hr⟩
theorem VRel.loose {w : World} {x : Cx} {hp : Hp} {els : List (List AV)} {v : Value} (h : VRel w x hp (.sl true els) v) : VRel w x hp (.sl false els) v := by
  cases h with
  | dat h =>
    cases h with
    | sl _ _ A c sz vals hc hm ht hsz hA hcell hd => exact .dat (.sl false els A c sz vals hc hm (by intro h; cases h) hsz hA hcell hd)
theorem Sub.looseT {s : St} {k : Nat} {els : List (List AV)} (hj : look s.tm k = some (.sl true els)) : Sub s { s with tm := setA k (.sl false els) s.tm } := fun B a w ⟨x, hC⟩ => by
  refine ⟨x, hC.h, fun t u ht => ?_, hC.n, hC.d, hC.tr, hC.mo, hC.lo, hC.ln, hC.dom⟩
  rw [look_setA] at ht
  split at ht
  · rename_i e1
    subst e1
    injection ht with ht
    subst ht
    exact (hC.t _ _ hj).loose
  · exact hC.t t u ht
theorem Sub.looseB {s : St} {b j : Nat} {els : List (List AV)} {t : TypeId} {cs : List AV} (hb : look s.hp b = some (.box t cs)) (hj : cs[j]? = some (.sl true els)) : Sub s { s with hp := setA b (.box t (cs.set j (.sl false els))) s.hp } := fun B a w ⟨x, hC⟩ => by
  obtain ⟨bb, vs, h1, h2, h3, h4, h5⟩ := hC.h.obj b _ hb
  have st2 := Stp.boxSet hC.h hb h1 h2 (cs' := cs.set j (.sl false els)) (vs' := vs) (by simpa using h3) h4 (fun i u hu => by
    rw [List.getElem?_set] at hu
    split at hu
    · rename_i e2
      subst e2
      split at hu
      · injection hu with hu
        subst hu
        exact (h5 j _ hj).loose
      · cases hu
    · exact h5 i u hu)
  rw [setRow_self w bb vs t (0, 0) h2] at st2
  exact ⟨_, st2.h, fun t u ht => (hC.t t u ht).mono st2.mo, hC.n, hC.d, hC.tr.trans st2.tr, hC.mo.trans st2.mo, hC.lo, hC.ln, hC.dom⟩
/-! ### Kinds of data -/
def encW (n : Nat) : List AV := [.raw (.int .u32 (n : Int))]
def encEnt (e : Ent) : List AV := [.raw (.int .u32 (e.key : Int)), .sl false (e.v.map encW)]
def cellsSch (s : Sch) : List AV := [.raw (.int .i64 s.kind), .raw (.int .i64 s.cap), .raw (.int .i64 s.words), .raw (.int .i64 s.ver)]
def cellsTab (f : Bool) (t : Tab) : List AV := [.raw (.int .i64 t.s.kind), .raw (.int .i64 t.s.cap), .raw (.int .i64 t.s.words), .raw (.int .i64 t.s.ver), .sl f (t.e.map encEnt), .raw (.int .u32 (t.next : Int))]
def avTab (f : Bool) (t : Tab) : AV := .agg (cellsTab f t)
def avSch (s : Sch) : AV := .agg (cellsSch s)
attribute [push_cast] avTab cellsTab avSch cellsSch
theorem uni_ent (l : List Ent) : Uni 2 (l.map encEnt) := by
  intro cs h
  obtain ⟨e, _, rfl⟩ := List.mem_map.1 h
  rfl
theorem uni_w (l : List Nat) : Uni 1 (l.map encW) := by
  intro cs h
  obtain ⟨e, _, rfl⟩ := List.mem_map.1 h
  rfl
attribute [push_cast] uni_ent uni_w encEnt encW
theorem hmixO : prog.follows .mixedOrders = true := by kernel_rfl
theorem idx_some4 {α : Type} {l : List α} {n : Int} {a : α} (h : idx l n = some a) : 0 ≤ n ∧ n < (l.length : Int) ∧ l[n.toNat]? = some a ∧ n.toNat < l.length := by
  obtain ⟨h1, h2, h3⟩ := idx_some h
  exact ⟨h1, h2, h3, by omega⟩
theorem get_lt {α : Type} {l : List α} {n : Nat} {a : α} (h : l[n]? = some a) : n < l.length := (List.getElem?_eq_some_iff.1 h).1
theorem get_ltI {α : Type} {l : List α} {n : Nat} {a : α} (h : l[n]? = some a) : (n : Int) < (l.length : Int) := Int.ofNat_lt.2 (get_lt h)
theorem cond_yes {β : Type} {b : Bool} {x y : Option β} {r : β} (hb : b = true) (h : cond b x y = some r) : x = some r := by subst hb; exact h
theorem cond_no {β : Type} {b : Bool} {x y : Option β} {r : β} (hb : b = false) (h : cond b x y = some r) : y = some r := by subst hb; exact h
theorem endP {T : Nat → TI} {rs : List ResultVar} {r : AV} {H' : Hp} {e : Exit} {s s'' : St} (h1 : Sub s s'') (h2 : Post T rs r H' e s'') : ∃ s'', Sub s s'' ∧ Post T rs r H' e s'' := ⟨s'', h1, h2⟩
theorem endS {T : Nat → TI} {rs : List ResultVar} {r : AV} {H' : Hp} {e : Exit} {s s1 : St} (h1 : Sub s s1) (h2 : ∃ s'', Sub s1 s'' ∧ Post T rs r H' e s'') : ∃ s'', Sub s s'' ∧ Post T rs r H' e s'' := let ⟨s2, h3, h4⟩ := h2; ⟨s2, h1.trans h3, h4⟩
theorem uni_of {α : Type} {f : α → List AV} {n : Nat} (h : ∀ a, (f a).length = n) {l : List α} : Uni n (l.map f) := by
  intro cs hc
  obtain ⟨a, _, rfl⟩ := List.mem_map.1 hc
  exact h a
theorem take_map_len {α β : Type} (f : α → β) (l : List α) : List.take l.length (l.map f) = l.map f := List.take_of_length_le (by simp)
/-! ### Reckoning -/
attribute [push_cast] List.map_append List.map_set List.map_take List.map_drop List.map_replicate
attribute [push_cast] runSeg runSegD List.zipIdx_cons List.zipIdx_nil List.take_replicate List.length_take List.length_drop Nat.sub_zero Nat.min_self List.replicate_zero
@[congr] theorem runSeg_congr {E : EvT} {P : Program} {T : Nat → TI} {d : List (Option Nat)} {l : List Oper} {i i' : Nat} {s s' : St} {K : Nat → St → Prop} (h : i = i') (h2 : s = s') : runSeg E P T d l i s K = runSeg E P T d l i' s' K := by rw [h, h2]
@[congr] theorem runSegD_congr {E : EvT} {P : Program} {T : Nat → TI} {d : List (Option Nat)} {l : List Oper} {i i' : Nat} {s s' : St} {a a' : List (List Ky × List Ky)} {K : Nat → St → List (List Ky × List Ky) → Prop} (h : i = i') (h2 : s = s') (h3 : a = a') : runSegD E P T d l i s a K = runSegD E P T d l i' s' a' K := by rw [h, h2, h3]
section
variable {P : Program} {T : Nat → TI} {nid : Nat}
@[push_cast] theorem evOpF_move {x} : evOpF T nid (.move x) = evOp T nid true (.move x) := rfl
@[push_cast] theorem evOpF_assign {x} : evOpF T nid (.assign x) = evOp T nid true (.assign x) := rfl
@[push_cast] theorem evOpF_alloc {t} : evOpF T nid (.alloc t) = evOp T nid true (.alloc t) := rfl
@[push_cast] theorem evOpF_box {t x} : evOpF T nid (.box t x) = evOp T nid true (.box t x) := rfl
@[push_cast] theorem evOpF_build {t ps} : evOpF T nid (.build t ps) = evOp T nid true (.build t ps) := rfl
@[push_cast] theorem evOpF_buildSlice {t n ps} : evOpF T nid (.buildSlice t n ps) = cond (n == 0 && ps.isEmpty) (emptyQ T nid t) (evOp T nid true (.buildSlice t n ps)) := rfl
@[push_cast] theorem evOpF_load {t x} : evOpF T nid (.load t x) = evOp T nid true (.load t x) := rfl
@[push_cast] theorem evOpF_store {t x y} : evOpF T nid (.store t x y) = evOp T nid true (.store t x y) := rfl
@[push_cast] theorem evOpF_nilCheck {x} : evOpF T nid (.nilCheck x) = evOp T nid true (.nilCheck x) := rfl
@[push_cast] theorem evOpF_binOp {o t x y u} : evOpF T nid (.binOp o t x y u) = cond (isNilC o y) (opd true x fun v => nilQ T t v) (evOp T nid true (.binOp o t x y u)) := rfl
attribute [push_cast] isNilC nilQ emptyQ List.isEmpty_toArray List.isEmpty_cons List.isEmpty_nil
@[push_cast] theorem evOpF_unOp {o t x} : evOpF T nid (.unOp o t x) = evOp T nid true (.unOp o t x) := rfl
@[push_cast] theorem evOpF_convert {t d x} : evOpF T nid (.convert t d x) = evOp T nid true (.convert t d x) := rfl
@[push_cast] theorem evOpF_makeFunc {f a b} : evOpF T nid (.makeFunc f a b) = evOp T nid true (.makeFunc f a b) := rfl
@[push_cast] theorem evOpF_makeSlice {t x y} : evOpF T nid (.makeSlice t x y) = evOp T nid true (.makeSlice t x y) := rfl
@[push_cast] theorem evOpF_slice {t x a b c} : evOpF T nid (.slice t x a b c) = evOp T nid true (.slice t x a b c) := rfl
@[push_cast] theorem evOpF_fieldAddr {t x f} : evOpF T nid (.fieldAddr t x f) = evOp T nid true (.fieldAddr t x f) := rfl
@[push_cast] theorem evOpF_field {t x f} : evOpF T nid (.field t x f) = evOp T nid true (.field t x f) := rfl
@[push_cast] theorem evOpF_indexAddr {t x i} : evOpF T nid (.indexAddr t x i) = evOp T nid true (.indexAddr t x i) := rfl
@[push_cast] theorem evOpF_index {t x i} : evOpF T nid (.index t x i) = evOp T nid true (.index t x i) := rfl
@[push_cast] theorem evOpF_extract {x i} : evOpF T nid (.extract x i) = evOp T nid true (.extract x i) := rfl
@[push_cast] theorem evOpF_call {c} : evOpF T nid (.call c) = evOp T nid true (.call c) := rfl
@[push_cast] theorem evOpF_makeMap {t} : evOpF T nid (.makeMap t none) = .done (.mp nid) [(nid, some (.mp [] 0))] := rfl
@[push_cast] theorem evOpF_insert {t m k x} : evOpF T nid (.insert t m k x) = opd true m fun mv => opd true k fun kv => opd true x fun xv => insertQ T t mv kv xv := rfl
@[push_cast] theorem evOpF_lookup {t m k ok} : evOpF T nid (.lookup t m k ok) = opd true m fun mv => opd true k fun kv => lookupQ T t mv kv ok := rfl
attribute [push_cast] insertQ lookupQ foundQ findA keysOk newKey zeroA zeroK
def pickF (a b : Operand) : AV → Q
  | .raw (.bool cb) => cond cb (opd true a fun v => .done v []) (opd true b fun v => .done v [])
  | _ => .bad
@[push_cast] theorem evOpF_pick {x a b : Operand} : evOpF T nid (.pick x a b) = opd true x (pickF a b) := by
  simp only [evOpF]
  congr 1
attribute [push_cast] pickF
@[push_cast] theorem evOperF_none {ds : List (Option Nat)} {op : Op} {d : Option Nat} {ty : TypeId} {ps : String} {af : Array Edge} : evOperF T nid ds { dst := d, op := op, type := ty, pos := ps, after := af, guard := none } = evOpF T nid op := rfl
@[push_cast] theorem evOperF_some {ds : List (Option Nat)} {op : Op} {d : Option Nat} {ty : TypeId} {ps : String} {af : Array Edge} {j : Nat} {w : Bool} : evOperF T nid ds { dst := d, op := op, type := ty, pos := ps, after := af, guard := some (j, w) } = guardF T nid w op (ds.getD j none) := rfl
attribute [push_cast] guardF St.lo_ AV.lo AV.lo1 AV.lo0 AObj.lo
@[congr] theorem evOperF_congr {d : List (Option Nat)} {o : Oper} : evOperF T nid d o = evOperF T nid d o := rfl
@[congr] theorem evOpF_congr {n n' : Nat} {o : Op} (h : n = n') : evOpF T n o = evOpF T n' o := by rw [h]
@[congr] theorem guardF_congr {n n' : Nat} {w : Bool} {o : Op} {d d' : Option Nat} (h : n = n') (h2 : d = d') : guardF T n w o d = guardF T n' w o d' := by rw [h, h2]
end
def encU32 (x : UInt32) : List AV := [.raw (.int .u32 (x.toNat : Int))]
def encU8 (x : UInt8) : List AV := [.raw (.int .u8 (x.toNat : Int))]
def encU64 (x : UInt64) : List AV := [.raw (.int .u64 (x.toNat : Int))]
def encI64 (x : Int) : List AV := [.raw (.int .i64 x)]
def encBool (x : Bool) : List AV := [.raw (.bool x)]
def encL {α : Type} (f : α → List AV) (l : List α) : List AV := [.sl false (l.map f)]
theorem uniU32 (l : List UInt32) : Uni 1 (l.map encU32) := uni_of (f := encU32) (fun _ => rfl)
theorem uniU8 (l : List UInt8) : Uni 1 (l.map encU8) := uni_of (f := encU8) (fun _ => rfl)
theorem uniU64 (l : List UInt64) : Uni 1 (l.map encU64) := uni_of (f := encU64) (fun _ => rfl)
theorem uniI64 (l : List Int) : Uni 1 (l.map encI64) := uni_of (f := encI64) (fun _ => rfl)
theorem uniBool (l : List Bool) : Uni 1 (l.map encBool) := uni_of (f := encBool) (fun _ => rfl)
theorem uniL {α : Type} (f : α → List AV) (l : List (List α)) : Uni 1 (l.map (encL f)) := uni_of (f := encL f) (fun _ => rfl)
attribute [push_cast] encU32 encU8 encU64 encI64 encBool encL uniU32 uniU8 uniU64 uniI64 uniBool uniL
structure A2 (α : Type) where
  a0 : α
  a1 : α
  deriving DecidableEq
structure A4 (α : Type) where
  a0 : α
  a1 : α
  a2 : α
  a3 : α
  deriving DecidableEq
def encA2 {α : Type} (f : α → List AV) (a : A2 α) : List AV := f a.a0 ++ f a.a1
def encA4 {α : Type} (f : α → List AV) (a : A4 α) : List AV := f a.a0 ++ (f a.a1 ++ (f a.a2 ++ f a.a3))
attribute [push_cast] encA2 encA4
/-! ### Words of some bits -/
theorem wrap32_add (x y : UInt32) : IntKind.u32.wrap ((x.toNat : Int) + (y.toNat : Int)) = ((x + y).toNat : Int) := by
  rw [IntKind.wrap_u32, UInt32.toNat_add]
  omega
theorem wrap32_sub (x y : UInt32) : IntKind.u32.wrap ((x.toNat : Int) - (y.toNat : Int)) = ((x - y).toNat : Int) := by
  rw [IntKind.wrap_u32, UInt32.toNat_sub]
  have := x.toNat_lt
  have := y.toNat_lt
  omega
theorem wrap32_mul (x y : UInt32) : IntKind.u32.wrap ((x.toNat : Int) * (y.toNat : Int)) = ((x * y).toNat : Int) := by
  rw [IntKind.wrap_u32, UInt32.toNat_mul, ← Int.natCast_mul, Int.natCast_emod]
  rfl
theorem wrap32_of (n : Int) : IntKind.u32.wrap n = ((UInt32.ofInt n).toNat : Int) := by
  rw [IntKind.wrap_u32]
  show n % 4294967296 = (((n % 4294967296).toNat % 4294967296 : Nat) : Int)
  omega
theorem wrap64_32 (x : UInt32) : IntKind.i64.wrap (x.toNat : Int) = (x.toNat : Int) := by
  have := x.toNat_lt
  exact wrap_i64 (by omega) (by omega)
theorem cast32_add (x y : UInt32) : ((x + y).toNat : Int) = IntKind.u32.wrap ((x.toNat : Int) + (y.toNat : Int)) := (wrap32_add x y).symm
theorem cast32_sub (x y : UInt32) : ((x - y).toNat : Int) = IntKind.u32.wrap ((x.toNat : Int) - (y.toNat : Int)) := (wrap32_sub x y).symm
theorem cast32_mul (x y : UInt32) : ((x * y).toNat : Int) = IntKind.u32.wrap ((x.toNat : Int) * (y.toNat : Int)) := (wrap32_mul x y).symm
theorem cast32_of (n : Int) : ((UInt32.ofInt n).toNat : Int) = IntKind.u32.wrap n := (wrap32_of n).symm
theorem wrap64_mod (n : Int) : IntKind.u64.wrap n = n % 18446744073709551616 := by rw [IntKind.wrap_u64]
theorem wrap8_mod (n : Int) : IntKind.u8.wrap n = n % 256 := by rw [IntKind.wrap_u8]
theorem cast64_of (n : Int) : ((UInt64.ofInt n).toNat : Int) = IntKind.u64.wrap n := by
  rw [wrap64_mod]
  show (((n % 18446744073709551616).toNat % 18446744073709551616 : Nat) : Int) = _
  omega
theorem cast8_of (n : Int) : ((UInt8.ofInt n).toNat : Int) = IntKind.u8.wrap n := by
  rw [wrap8_mod]
  show (((n % 256).toNat % 256 : Nat) : Int) = _
  omega
theorem cast64_32 (x : UInt32) : (x.toUInt64.toNat : Int) = IntKind.u64.wrap (x.toNat : Int) := by
  rw [wrap64_mod, UInt32.toNat_toUInt64]
  have := x.toNat_lt
  omega
theorem cast64_8 (x : UInt8) : (x.toUInt64.toNat : Int) = IntKind.u64.wrap (x.toNat : Int) := by
  rw [wrap64_mod, UInt8.toNat_toUInt64]
  have := x.toNat_lt
  omega
theorem cast32_8 (x : UInt8) : (x.toUInt32.toNat : Int) = IntKind.u32.wrap (x.toNat : Int) := by
  rw [IntKind.wrap_u32, UInt8.toNat_toUInt32]
  have := x.toNat_lt
  omega
theorem wrap64i_8 (x : UInt8) : IntKind.i64.wrap (x.toNat : Int) = (x.toNat : Int) := by
  have := x.toNat_lt
  exact wrap_i64 (by omega) (by omega)
theorem cast64_add (x y : UInt64) : ((x + y).toNat : Int) = IntKind.u64.wrap ((x.toNat : Int) + (y.toNat : Int)) := by
  rw [wrap64_mod, UInt64.toNat_add]
  omega
theorem cast8_add (x y : UInt8) : ((x + y).toNat : Int) = IntKind.u8.wrap ((x.toNat : Int) + (y.toNat : Int)) := by
  rw [wrap8_mod, UInt8.toNat_add]
  omega
attribute [push_cast] cast64_of cast8_of cast64_32 cast64_8 cast32_8 wrap64i_8 cast64_add cast8_add
attribute [push_cast] cast32_add cast32_sub cast32_mul cast32_of wrap64_32
attribute [push_cast] AV.ren0 AV.ren1 AV.ren2 AV.ren3 AObj.ren renH swp AV.lend0 AV.lend1 take_map_len Nat.le_refl
section
variable {P : Program} {nid : Nat} {s : St} {K : List Ky → AV → Wr → Prop} {rs : List Ky}
theorem callHD {f : FuncId} {args : List AV} {H H' : Hp} {r : AV} (hc : Ctr P f args H r H') (hl : ∀ p ∈ H, look s.hp p.1 = some p.2) (ha : (args.all (AV.in3 H.has)) = true) (hi : (H.all fun p => p.2.inD H.has) = true) (hh : (H'.all fun p => H.has p.1 || p.1 == nid) = true) (h : K (H.map (fun p => Ky.o p.1) ++ rs) r (callW H H')) : wpQD P nid s (.call none f args) rs K := ⟨H, r, H', hl, hc, ha, hi, hh, h⟩
end
theorem sof {s s' : St} (h1 : ∀ p ∈ s'.tm, look s.tm p.1 = some p.2) (h2 : ∀ p ∈ s'.hp, look s.hp p.1 = some p.2) (h3 : (s'.nt == s.nt && (s'.lo == s.lo && Nat.ble s'.lo s'.nx)) = true) (h4 : s'.wf = true) : Sub s s' := by
  simp only [Bool.and_eq_true, beq_iff_eq] at h3
  exact Sub.of h1 h2 ⟨h3.1, h3.2.1, Nat.le_of_ble_eq_true h3.2.2⟩ h4
theorem slo {s s' : St} (h1 : ∀ p ∈ s'.tm, look s.lo_.tm p.1 = some p.2) (h2 : ∀ p ∈ s'.hp, look s.lo_.hp p.1 = some p.2) (h3 : (s'.nt == s.lo_.nt && (s'.lo == s.lo_.lo && Nat.ble s'.lo s'.nx)) = true) (h4 : s'.wf = true) : Sub s s' := Sub.trans (Sub.lo s) (sof h1 h2 h3 h4)
def A2.get {α : Type} (a : A2 α) : Nat → α
  | 0 => a.a0
  | _ => a.a1
def A2.set {α : Type} (a : A2 α) (n : Nat) (v : α) : A2 α := match n with
  | 0 => { a with a0 := v }
  | 1 => { a with a1 := v }
  | _ => a
theorem A2.cases {n : Nat} (h : n < 2) : n = 0 ∨ n = 1 := by omega
theorem A2.get_set {α : Type} (a : A2 α) {i j : Nat} (hi : i < 2) (hj : j < 2) (v : α) : (a.set i v).get j = if i = j then v else a.get j := by
  rcases A2.cases hi with rfl | rfl <;> rcases A2.cases hj with rfl | rfl <;> rfl
theorem A2.ext_get {α : Type} {a b : A2 α} (h : ∀ i, i < 2 → a.get i = b.get i) : a = b := by
  obtain ⟨x0, x1⟩ := a
  obtain ⟨y0, y1⟩ := b
  have h0 := h 0 (by decide)
  have h1 := h 1 (by decide)
  simp only [A2.get] at h0 h1
  simp only [h0, h1]
def A4.get {α : Type} (a : A4 α) : Nat → α
  | 0 => a.a0
  | 1 => a.a1
  | 2 => a.a2
  | _ => a.a3
def A4.set {α : Type} (a : A4 α) (n : Nat) (v : α) : A4 α := match n with
  | 0 => { a with a0 := v }
  | 1 => { a with a1 := v }
  | 2 => { a with a2 := v }
  | 3 => { a with a3 := v }
  | _ => a
theorem A4.cases {n : Nat} (h : n < 4) : n = 0 ∨ n = 1 ∨ n = 2 ∨ n = 3 := by omega
theorem A4.get_set {α : Type} (a : A4 α) {i j : Nat} (hi : i < 4) (hj : j < 4) (v : α) : (a.set i v).get j = if i = j then v else a.get j := by
  rcases A4.cases hi with rfl | rfl | rfl | rfl <;> rcases A4.cases hj with rfl | rfl | rfl | rfl <;> rfl
theorem A4.ext_get {α : Type} {a b : A4 α} (h : ∀ i, i < 4 → a.get i = b.get i) : a = b := by
  obtain ⟨x0, x1, x2, x3⟩ := a
  obtain ⟨y0, y1, y2, y3⟩ := b
  have h0 := h 0 (by decide)
  have h1 := h 1 (by decide)
  have h2 := h 2 (by decide)
  have h3 := h 3 (by decide)
  simp only [A4.get] at h0 h1 h2 h3
  simp only [h0, h1, h2, h3]
structure A8 (α : Type) where
  a0 : α
  a1 : α
  a2 : α
  a3 : α
  a4 : α
  a5 : α
  a6 : α
  a7 : α
  deriving DecidableEq
def encA8 {α : Type} (f : α → List AV) (a : A8 α) : List AV := f a.a0 ++ (f a.a1 ++ (f a.a2 ++ (f a.a3 ++ (f a.a4 ++ (f a.a5 ++ (f a.a6 ++ (f a.a7)))))))
def A8.get {α : Type} (a : A8 α) : Nat → α
  | 0 => a.a0
  | 1 => a.a1
  | 2 => a.a2
  | 3 => a.a3
  | 4 => a.a4
  | 5 => a.a5
  | 6 => a.a6
  | _ => a.a7
def A8.set {α : Type} (a : A8 α) (n : Nat) (v : α) : A8 α := match n with
  | 0 => { a with a0 := v }
  | 1 => { a with a1 := v }
  | 2 => { a with a2 := v }
  | 3 => { a with a3 := v }
  | 4 => { a with a4 := v }
  | 5 => { a with a5 := v }
  | 6 => { a with a6 := v }
  | 7 => { a with a7 := v }
  | _ => a
theorem A8.cases {n : Nat} (h : n < 8) : n = 0 ∨ n = 1 ∨ n = 2 ∨ n = 3 ∨ n = 4 ∨ n = 5 ∨ n = 6 ∨ n = 7 := by omega
theorem A8.get_set {α : Type} (a : A8 α) {i j : Nat} (hi : i < 8) (hj : j < 8) (v : α) : (a.set i v).get j = if i = j then v else a.get j := by
  rcases A8.cases hi with rfl | rfl | rfl | rfl | rfl | rfl | rfl | rfl <;> rcases A8.cases hj with rfl | rfl | rfl | rfl | rfl | rfl | rfl | rfl <;> rfl
theorem A8.ext_get {α : Type} {a b : A8 α} (h : ∀ i, i < 8 → a.get i = b.get i) : a = b := by
  obtain ⟨x0, x1, x2, x3, x4, x5, x6, x7⟩ := a
  obtain ⟨y0, y1, y2, y3, y4, y5, y6, y7⟩ := b
  have h0 := h 0 (by decide)
  have h1 := h 1 (by decide)
  have h2 := h 2 (by decide)
  have h3 := h 3 (by decide)
  have h4 := h 4 (by decide)
  have h5 := h 5 (by decide)
  have h6 := h 6 (by decide)
  have h7 := h 7 (by decide)
  simp only [A8.get] at h0 h1 h2 h3 h4 h5 h6 h7
  simp only [h0, h1, h2, h3, h4, h5, h6, h7]
structure A16 (α : Type) where
  a0 : α
  a1 : α
  a2 : α
  a3 : α
  a4 : α
  a5 : α
  a6 : α
  a7 : α
  a8 : α
  a9 : α
  a10 : α
  a11 : α
  a12 : α
  a13 : α
  a14 : α
  a15 : α
  deriving DecidableEq
def encA16 {α : Type} (f : α → List AV) (a : A16 α) : List AV := f a.a0 ++ (f a.a1 ++ (f a.a2 ++ (f a.a3 ++ (f a.a4 ++ (f a.a5 ++ (f a.a6 ++ (f a.a7 ++ (f a.a8 ++ (f a.a9 ++ (f a.a10 ++ (f a.a11 ++ (f a.a12 ++ (f a.a13 ++ (f a.a14 ++ (f a.a15)))))))))))))))
def A16.get {α : Type} (a : A16 α) : Nat → α
  | 0 => a.a0
  | 1 => a.a1
  | 2 => a.a2
  | 3 => a.a3
  | 4 => a.a4
  | 5 => a.a5
  | 6 => a.a6
  | 7 => a.a7
  | 8 => a.a8
  | 9 => a.a9
  | 10 => a.a10
  | 11 => a.a11
  | 12 => a.a12
  | 13 => a.a13
  | 14 => a.a14
  | _ => a.a15
def A16.set {α : Type} (a : A16 α) (n : Nat) (v : α) : A16 α := match n with
  | 0 => { a with a0 := v }
  | 1 => { a with a1 := v }
  | 2 => { a with a2 := v }
  | 3 => { a with a3 := v }
  | 4 => { a with a4 := v }
  | 5 => { a with a5 := v }
  | 6 => { a with a6 := v }
  | 7 => { a with a7 := v }
  | 8 => { a with a8 := v }
  | 9 => { a with a9 := v }
  | 10 => { a with a10 := v }
  | 11 => { a with a11 := v }
  | 12 => { a with a12 := v }
  | 13 => { a with a13 := v }
  | 14 => { a with a14 := v }
  | 15 => { a with a15 := v }
  | _ => a
theorem A16.cases {n : Nat} (h : n < 16) : n = 0 ∨ n = 1 ∨ n = 2 ∨ n = 3 ∨ n = 4 ∨ n = 5 ∨ n = 6 ∨ n = 7 ∨ n = 8 ∨ n = 9 ∨ n = 10 ∨ n = 11 ∨ n = 12 ∨ n = 13 ∨ n = 14 ∨ n = 15 := by omega
theorem A16.get_set {α : Type} (a : A16 α) {i j : Nat} (hi : i < 16) (hj : j < 16) (v : α) : (a.set i v).get j = if i = j then v else a.get j := by
  rcases A16.cases hi with rfl | rfl | rfl | rfl | rfl | rfl | rfl | rfl | rfl | rfl | rfl | rfl | rfl | rfl | rfl | rfl <;> rcases A16.cases hj with rfl | rfl | rfl | rfl | rfl | rfl | rfl | rfl | rfl | rfl | rfl | rfl | rfl | rfl | rfl | rfl <;> rfl
theorem A16.ext_get {α : Type} {a b : A16 α} (h : ∀ i, i < 16 → a.get i = b.get i) : a = b := by
  obtain ⟨x0, x1, x2, x3, x4, x5, x6, x7, x8, x9, x10, x11, x12, x13, x14, x15⟩ := a
  obtain ⟨y0, y1, y2, y3, y4, y5, y6, y7, y8, y9, y10, y11, y12, y13, y14, y15⟩ := b
  have h0 := h 0 (by decide)
  have h1 := h 1 (by decide)
  have h2 := h 2 (by decide)
  have h3 := h 3 (by decide)
  have h4 := h 4 (by decide)
  have h5 := h 5 (by decide)
  have h6 := h 6 (by decide)
  have h7 := h 7 (by decide)
  have h8 := h 8 (by decide)
  have h9 := h 9 (by decide)
  have h10 := h 10 (by decide)
  have h11 := h 11 (by decide)
  have h12 := h 12 (by decide)
  have h13 := h 13 (by decide)
  have h14 := h 14 (by decide)
  have h15 := h 15 (by decide)
  simp only [A16.get] at h0 h1 h2 h3 h4 h5 h6 h7 h8 h9 h10 h11 h12 h13 h14 h15
  simp only [h0, h1, h2, h3, h4, h5, h6, h7, h8, h9, h10, h11, h12, h13, h14, h15]
theorem encA8_len {α : Type} {f : α → List AV} {k : Nat} (h : ∀ x, (f x).length = k) (a : A8 α) : (encA8 f a).length = 8 * k := by
  simp only [encA8, List.length_append, h]
  omega
theorem drop_app {β : Type} {l m : List β} {k j : Nat} (h : l.length = k) : (l ++ m).drop (k + j) = m.drop j := by
  subst h
  rw [List.drop_append]
  simp
theorem drop_app0 {β : Type} {l m : List β} {k : Nat} (h : l.length = k) : (l ++ m).drop k = m := drop_app (j := 0) h
theorem take_app {β : Type} {l m : List β} {k : Nat} (h : l.length = k) : (l ++ m).take k = l := by
  subst h
  simp
theorem encA8_at {α : Type} {f : α → List AV} {k : Nat} (h : ∀ x, (f x).length = k) (a : A8 α) {n : Nat} (hn : n < 8) : ((encA8 f a).drop (n * k)).take k = f (a.get n) := by
  have d : ∀ {l m : List AV} {j : Nat}, l.length = k → (l ++ m).drop ((j + 1) * k) = m.drop (j * k) := fun {l m j} hl => by
    rw [Nat.add_mul, Nat.one_mul, Nat.add_comm]
    exact drop_app hl
  unfold encA8
  rcases A8.cases hn with rfl | rfl | rfl | rfl | rfl | rfl | rfl | rfl
  · rw [Nat.zero_mul, List.drop_zero, take_app (h _)]; rfl
  · rw [d (h _), Nat.zero_mul, List.drop_zero, take_app (h _)]; rfl
  · rw [d (h _), d (h _), Nat.zero_mul, List.drop_zero, take_app (h _)]; rfl
  · rw [d (h _), d (h _), d (h _), Nat.zero_mul, List.drop_zero, take_app (h _)]; rfl
  · rw [d (h _), d (h _), d (h _), d (h _), Nat.zero_mul, List.drop_zero, take_app (h _)]; rfl
  · rw [d (h _), d (h _), d (h _), d (h _), d (h _), Nat.zero_mul, List.drop_zero, take_app (h _)]; rfl
  · rw [d (h _), d (h _), d (h _), d (h _), d (h _), d (h _), Nat.zero_mul, List.drop_zero, take_app (h _)]; rfl
  · rw [d (h _), d (h _), d (h _), d (h _), d (h _), d (h _), d (h _), Nat.zero_mul, List.drop_zero, List.take_of_length_le (by rw [h]; exact Nat.le_refl _)]; rfl
/-! ### Shifts, and what is left of a division -/
theorem bits_u32 : IntKind.u32.bits = 32 := rfl
theorem bits_u64 : IntKind.u64.bits = 64 := rfl
theorem bits_u8 : IntKind.u8.bits = 8 := rfl
theorem bits_i64 : IntKind.i64.bits = 64 := rfl
def shl32 (a : UInt32) (n : Int) : UInt32 := UInt32.ofInt ((a.toNat : Int) * 2 ^ min n.toNat 32)
def shr32 (a : UInt32) (n : Int) : UInt32 := UInt32.ofInt ((a.toNat : Int).fdiv (2 ^ min n.toNat 32))
def shl64 (a : UInt64) (n : Int) : UInt64 := UInt64.ofInt ((a.toNat : Int) * 2 ^ min n.toNat 64)
def shr64 (a : UInt64) (n : Int) : UInt64 := UInt64.ofInt ((a.toNat : Int).fdiv (2 ^ min n.toNat 64))
theorem cast_shl32 (a : UInt32) (n : Int) : ((shl32 a n).toNat : Int) = IntKind.u32.wrap ((a.toNat : Int) * 2 ^ min n.toNat IntKind.u32.bits) := cast32_of _
theorem cast_shl64 (a : UInt64) (n : Int) : ((shl64 a n).toNat : Int) = IntKind.u64.wrap ((a.toNat : Int) * 2 ^ min n.toNat IntKind.u64.bits) := cast64_of _
theorem fdiv_small {x p : Int} (h0 : 0 ≤ x) (hp : 0 < p) {m : Int} (hm : x < m) : 0 ≤ x.fdiv p ∧ x.fdiv p < m := by
  rw [Int.fdiv_eq_ediv_of_nonneg _ (Int.le_of_lt hp)]
  exact ⟨Int.ediv_nonneg h0 (Int.le_of_lt hp), Int.lt_of_le_of_lt (Int.ediv_le_self _ h0) hm⟩
theorem two_pos (n : Nat) : (0 : Int) < 2 ^ n := Int.pow_pos (by decide)
theorem cast_shr32 (a : UInt32) (n : Int) : ((shr32 a n).toNat : Int) = (a.toNat : Int).fdiv (2 ^ min n.toNat IntKind.u32.bits) := by
  show _ = (a.toNat : Int).fdiv (2 ^ min n.toNat 32)
  have hl := a.toNat_lt
  obtain ⟨h1, h2⟩ := fdiv_small (x := (a.toNat : Int)) (p := 2 ^ min n.toNat 32) (by omega) (two_pos _) (m := 4294967296) (by omega)
  rw [shr32, cast32_of, IntKind.wrap_u32]
  exact Int.emod_eq_of_lt h1 h2
theorem cast_shr64 (a : UInt64) (n : Int) : ((shr64 a n).toNat : Int) = (a.toNat : Int).fdiv (2 ^ min n.toNat IntKind.u64.bits) := by
  show _ = (a.toNat : Int).fdiv (2 ^ min n.toNat 64)
  have hl := a.toNat_lt
  obtain ⟨h1, h2⟩ := fdiv_small (x := (a.toNat : Int)) (p := 2 ^ min n.toNat 64) (by omega) (two_pos _) (m := 18446744073709551616) (by omega)
  rw [shr64, cast64_of, IntKind.wrap_u64]
  exact Int.emod_eq_of_lt h1 h2
theorem cast32_rem (x y : UInt32) : ((x % y).toNat : Int) = Int.tmod (x.toNat : Int) (y.toNat : Int) := by
  rw [UInt32.toNat_mod]
  rfl
theorem cast32_quo (x y : UInt32) : ((x / y).toNat : Int) = IntKind.u32.wrap (Int.tdiv (x.toNat : Int) (y.toNat : Int)) := by
  rw [UInt32.toNat_div, IntKind.wrap_u32]
  have h : Int.tdiv (x.toNat : Int) (y.toNat : Int) = ((x.toNat / y.toNat : Nat) : Int) := rfl
  have := Nat.div_le_self x.toNat y.toNat
  have := x.toNat_lt
  rw [h]
  have hq : x.toNat / y.toNat < 4294967296 := by omega
  generalize x.toNat / y.toNat = q at hq
  omega
theorem cast32_and (x y : UInt32) : ((x &&& y).toNat : Int) = IntKind.u32.wrap ((BitVec.ofInt IntKind.u32.bits (x.toNat : Int) &&& BitVec.ofInt IntKind.u32.bits (y.toNat : Int)).toNat : Int) := by
  rw [IntKind.wrap_u32]
  show _ = ((BitVec.ofInt 32 (x.toNat : Int) &&& BitVec.ofInt 32 (y.toNat : Int)).toNat : Int) % 4294967296
  have : (BitVec.ofInt 32 (x.toNat : Int) &&& BitVec.ofInt 32 (y.toNat : Int)).toNat = (x &&& y).toNat := by
    simp [BitVec.toNat_and, UInt32.toNat_and]
  rw [this]
  have := (x &&& y).toNat_lt
  omega
theorem cast32_or (x y : UInt32) : ((x ||| y).toNat : Int) = IntKind.u32.wrap ((BitVec.ofInt IntKind.u32.bits (x.toNat : Int) ||| BitVec.ofInt IntKind.u32.bits (y.toNat : Int)).toNat : Int) := by
  rw [IntKind.wrap_u32]
  show _ = ((BitVec.ofInt 32 (x.toNat : Int) ||| BitVec.ofInt 32 (y.toNat : Int)).toNat : Int) % 4294967296
  have : (BitVec.ofInt 32 (x.toNat : Int) ||| BitVec.ofInt 32 (y.toNat : Int)).toNat = (x ||| y).toNat := by
    simp [BitVec.toNat_or, UInt32.toNat_or]
  rw [this]
  have := (x ||| y).toNat_lt
  omega
theorem cast32_xor (x y : UInt32) : ((x ^^^ y).toNat : Int) = IntKind.u32.wrap ((BitVec.ofInt IntKind.u32.bits (x.toNat : Int) ^^^ BitVec.ofInt IntKind.u32.bits (y.toNat : Int)).toNat : Int) := by
  rw [IntKind.wrap_u32]
  show _ = ((BitVec.ofInt 32 (x.toNat : Int) ^^^ BitVec.ofInt 32 (y.toNat : Int)).toNat : Int) % 4294967296
  have : (BitVec.ofInt 32 (x.toNat : Int) ^^^ BitVec.ofInt 32 (y.toNat : Int)).toNat = (x ^^^ y).toNat := by
    simp [BitVec.toNat_xor, UInt32.toNat_xor]
  rw [this]
  have := (x ^^^ y).toNat_lt
  omega
theorem tmod_nn (x : UInt32) (k : Int) : (0 ≤ Int.tmod (x.toNat : Int) k) = True := eq_true (Int.tmod_nonneg _ (Int.natCast_nonneg _))
theorem tmod_nn64 (x : UInt64) (k : Int) : (0 ≤ Int.tmod (x.toNat : Int) k) = True := eq_true (Int.tmod_nonneg _ (Int.natCast_nonneg _))
attribute [push_cast] tmod_nn tmod_nn64 Nat.mul_one Nat.zero_add
attribute [push_cast] cast32_and cast32_or cast32_xor cast32_rem cast32_quo cast_shl32 cast_shr32 cast_shl64 cast_shr64
structure T_Schema where
  Kind : Int
  Cap : Int
  Words : Int
  Ver : Int
  deriving DecidableEq
def enc_Schema (t : T_Schema) : List AV := [.raw (.int .i64 t.Kind), .raw (.int .i64 t.Cap), .raw (.int .i64 t.Words), .raw (.int .i64 t.Ver)]
theorem uni_Schema (l : List T_Schema) : Uni 4 (l.map enc_Schema) := uni_of (f := enc_Schema) (fun _ => rfl)
attribute [push_cast] enc_Schema uni_Schema
structure T_Entry where
  Key : UInt32
  V : (List UInt32)
  deriving DecidableEq
def enc_Entry (t : T_Entry) : List AV := [.raw (.int .u32 (t.Key.toNat : Int)), .sl false (t.V.map encU32)]
theorem uni_Entry (l : List T_Entry) : Uni 2 (l.map enc_Entry) := uni_of (f := enc_Entry) (fun _ => rfl)
attribute [push_cast] enc_Entry uni_Entry
structure T_Table where
  S : T_Schema
  E : (List T_Entry)
  Next : UInt32
  deriving DecidableEq
def enc_Table (t : T_Table) : List AV := [.raw (.int .i64 t.S.Kind), .raw (.int .i64 t.S.Cap), .raw (.int .i64 t.S.Words), .raw (.int .i64 t.S.Ver), .sl false (t.E.map enc_Entry), .raw (.int .u32 (t.Next.toNat : Int))]
theorem uni_Table (l : List T_Table) : Uni 6 (l.map enc_Table) := uni_of (f := enc_Table) (fun _ => rfl)
attribute [push_cast] enc_Table uni_Table
structure T_Env where
  Ctx : (A4 UInt32)
  T : (List T_Table)
  Seed : UInt32
  deriving DecidableEq
def enc_Env (t : T_Env) : List AV := [.raw (.int .u32 (t.Ctx.a0.toNat : Int)), .raw (.int .u32 (t.Ctx.a1.toNat : Int)), .raw (.int .u32 (t.Ctx.a2.toNat : Int)), .raw (.int .u32 (t.Ctx.a3.toNat : Int)), .sl false (t.T.map enc_Table), .raw (.int .u32 (t.Seed.toNat : Int))]
theorem uni_Env (l : List T_Env) : Uni 6 (l.map enc_Env) := uni_of (f := enc_Env) (fun _ => rfl)
attribute [push_cast] enc_Env uni_Env
structure T_Inst where
  Op : Int
  Fn : Int
  Dst : Int
  Src : Int
  Reg : Bool
  Off : Int
  Imm : UInt32
  deriving DecidableEq
def enc_Inst (t : T_Inst) : List AV := [.raw (.int .i64 t.Op), .raw (.int .i64 t.Fn), .raw (.int .i64 t.Dst), .raw (.int .i64 t.Src), .raw (.bool t.Reg), .raw (.int .i64 t.Off), .raw (.int .u32 (t.Imm.toNat : Int))]
theorem uni_Inst (l : List T_Inst) : Uni 7 (l.map enc_Inst) := uni_of (f := enc_Inst) (fun _ => rfl)
attribute [push_cast] enc_Inst uni_Inst
structure T_Fn where
  Args : Int
  Code : (List T_Inst)
  deriving DecidableEq
def enc_Fn (t : T_Fn) : List AV := [.raw (.int .i64 t.Args), .sl false (t.Code.map enc_Inst)]
theorem uni_Fn (l : List T_Fn) : Uni 2 (l.map enc_Fn) := uni_of (f := enc_Fn) (fun _ => rfl)
attribute [push_cast] enc_Fn uni_Fn
structure T_Prog where
  Fns : (List T_Fn)
  deriving DecidableEq
def enc_Prog (t : T_Prog) : List AV := [.sl false (t.Fns.map enc_Fn)]
theorem uni_Prog (l : List T_Prog) : Uni 1 (l.map enc_Prog) := uni_of (f := enc_Prog) (fun _ => rfl)
attribute [push_cast] enc_Prog uni_Prog
structure T_Ran where
  Ret : UInt32
  E : T_Env
  Used : Int
  Err : Int
  deriving DecidableEq
def enc_Ran (t : T_Ran) : List AV := [.raw (.int .u32 (t.Ret.toNat : Int)), .raw (.int .u32 (t.E.Ctx.a0.toNat : Int)), .raw (.int .u32 (t.E.Ctx.a1.toNat : Int)), .raw (.int .u32 (t.E.Ctx.a2.toNat : Int)), .raw (.int .u32 (t.E.Ctx.a3.toNat : Int)), .sl false (t.E.T.map enc_Table), .raw (.int .u32 (t.E.Seed.toNat : Int)), .raw (.int .i64 t.Used), .raw (.int .i64 t.Err)]
theorem uni_Ran (l : List T_Ran) : Uni 9 (l.map enc_Ran) := uni_of (f := enc_Ran) (fun _ => rfl)
attribute [push_cast] enc_Ran uni_Ran
structure T_helper_call where
  t : T_Table
  deriving DecidableEq
def enc_helper_call (t : T_helper_call) : List AV := [.raw (.int .i64 t.t.S.Kind), .raw (.int .i64 t.t.S.Cap), .raw (.int .i64 t.t.S.Words), .raw (.int .i64 t.t.S.Ver), .sl false (t.t.E.map enc_Entry), .raw (.int .u32 (t.t.Next.toNat : Int))]
theorem uni_helper_call (l : List T_helper_call) : Uni 6 (l.map enc_helper_call) := uni_of (f := enc_helper_call) (fun _ => rfl)
attribute [push_cast] enc_helper_call uni_helper_call
structure T_interp_run where
  p : T_Prog
  e : T_Env
  fuel : Int
  used : Int
  err : Int
  deriving DecidableEq
def enc_interp_run (t : T_interp_run) : List AV := [.sl false (t.p.Fns.map enc_Fn), .raw (.int .u32 (t.e.Ctx.a0.toNat : Int)), .raw (.int .u32 (t.e.Ctx.a1.toNat : Int)), .raw (.int .u32 (t.e.Ctx.a2.toNat : Int)), .raw (.int .u32 (t.e.Ctx.a3.toNat : Int)), .sl false (t.e.T.map enc_Table), .raw (.int .u32 (t.e.Seed.toNat : Int)), .raw (.int .i64 t.fuel), .raw (.int .i64 t.used), .raw (.int .i64 t.err)]
theorem uni_interp_run (l : List T_interp_run) : Uni 10 (l.map enc_interp_run) := uni_of (f := enc_interp_run) (fun _ => rfl)
attribute [push_cast] enc_interp_run uni_interp_run
structure T_interp_frame where
  fn : Int
  at_ : Int
  regs : (A8 UInt32)
  set : (A8 Bool)
  stack : (A16 UInt32)
  over : Bool
  deriving DecidableEq
def enc_interp_frame (t : T_interp_frame) (p_r : AV) : List AV := [p_r, .raw (.int .i64 t.fn), .raw (.int .i64 t.at_), .raw (.int .u32 (t.regs.a0.toNat : Int)), .raw (.int .u32 (t.regs.a1.toNat : Int)), .raw (.int .u32 (t.regs.a2.toNat : Int)), .raw (.int .u32 (t.regs.a3.toNat : Int)), .raw (.int .u32 (t.regs.a4.toNat : Int)), .raw (.int .u32 (t.regs.a5.toNat : Int)), .raw (.int .u32 (t.regs.a6.toNat : Int)), .raw (.int .u32 (t.regs.a7.toNat : Int)), .raw (.bool t.set.a0), .raw (.bool t.set.a1), .raw (.bool t.set.a2), .raw (.bool t.set.a3), .raw (.bool t.set.a4), .raw (.bool t.set.a5), .raw (.bool t.set.a6), .raw (.bool t.set.a7), .raw (.int .u32 (t.stack.a0.toNat : Int)), .raw (.int .u32 (t.stack.a1.toNat : Int)), .raw (.int .u32 (t.stack.a2.toNat : Int)), .raw (.int .u32 (t.stack.a3.toNat : Int)), .raw (.int .u32 (t.stack.a4.toNat : Int)), .raw (.int .u32 (t.stack.a5.toNat : Int)), .raw (.int .u32 (t.stack.a6.toNat : Int)), .raw (.int .u32 (t.stack.a7.toNat : Int)), .raw (.int .u32 (t.stack.a8.toNat : Int)), .raw (.int .u32 (t.stack.a9.toNat : Int)), .raw (.int .u32 (t.stack.a10.toNat : Int)), .raw (.int .u32 (t.stack.a11.toNat : Int)), .raw (.int .u32 (t.stack.a12.toNat : Int)), .raw (.int .u32 (t.stack.a13.toNat : Int)), .raw (.int .u32 (t.stack.a14.toNat : Int)), .raw (.int .u32 (t.stack.a15.toNat : Int)), .raw (.bool t.over)]
theorem enc_interp_frame_len (t : T_interp_frame) (p_r : AV) : (enc_interp_frame t p_r).length = 36 := rfl
theorem enc_interp_frame_lo (t : T_interp_frame) (p_r : AV) : (enc_interp_frame t p_r).map AV.lo0 = enc_interp_frame t (AV.lo0 p_r) := rfl
theorem enc_interp_frame_ren (t : T_interp_frame) (p_r : AV) (π : Nat → Nat) : (enc_interp_frame t p_r).map (AV.ren1 π) = enc_interp_frame t (AV.ren1 π p_r) := rfl
theorem enc_interp_frame_in (t : T_interp_frame) (p_r : AV) (d : Nat → Bool) : (enc_interp_frame t p_r).all (AV.in1 d) = p_r.in1 d := by simp [enc_interp_frame, AV.in1, AV.in0]
theorem enc_interp_frame_g0 (t : T_interp_frame) (p_r : AV) : (enc_interp_frame t p_r)[0]? = some p_r := rfl
theorem enc_interp_frame_g1 (t : T_interp_frame) (p_r : AV) : (enc_interp_frame t p_r)[1]? = some (.raw (.int .i64 t.fn)) := rfl
theorem enc_interp_frame_s1 (t : T_interp_frame) (p_r : AV) (v : Int) : (enc_interp_frame t p_r).set 1 (.raw (.int .i64 v)) = enc_interp_frame ({ t with fn := v }) p_r := rfl
theorem enc_interp_frame_g2 (t : T_interp_frame) (p_r : AV) : (enc_interp_frame t p_r)[2]? = some (.raw (.int .i64 t.at_)) := rfl
theorem enc_interp_frame_s2 (t : T_interp_frame) (p_r : AV) (v : Int) : (enc_interp_frame t p_r).set 2 (.raw (.int .i64 v)) = enc_interp_frame ({ t with at_ := v }) p_r := rfl
theorem enc_interp_frame_g3 (t : T_interp_frame) (p_r : AV) : (enc_interp_frame t p_r)[3]? = some (.raw (.int .u32 (t.regs.a0.toNat : Int))) := rfl
theorem enc_interp_frame_g4 (t : T_interp_frame) (p_r : AV) : (enc_interp_frame t p_r)[4]? = some (.raw (.int .u32 (t.regs.a1.toNat : Int))) := rfl
theorem enc_interp_frame_g5 (t : T_interp_frame) (p_r : AV) : (enc_interp_frame t p_r)[5]? = some (.raw (.int .u32 (t.regs.a2.toNat : Int))) := rfl
theorem enc_interp_frame_g6 (t : T_interp_frame) (p_r : AV) : (enc_interp_frame t p_r)[6]? = some (.raw (.int .u32 (t.regs.a3.toNat : Int))) := rfl
theorem enc_interp_frame_g7 (t : T_interp_frame) (p_r : AV) : (enc_interp_frame t p_r)[7]? = some (.raw (.int .u32 (t.regs.a4.toNat : Int))) := rfl
theorem enc_interp_frame_g8 (t : T_interp_frame) (p_r : AV) : (enc_interp_frame t p_r)[8]? = some (.raw (.int .u32 (t.regs.a5.toNat : Int))) := rfl
theorem enc_interp_frame_g9 (t : T_interp_frame) (p_r : AV) : (enc_interp_frame t p_r)[9]? = some (.raw (.int .u32 (t.regs.a6.toNat : Int))) := rfl
theorem enc_interp_frame_g10 (t : T_interp_frame) (p_r : AV) : (enc_interp_frame t p_r)[10]? = some (.raw (.int .u32 (t.regs.a7.toNat : Int))) := rfl
theorem enc_interp_frame_G3 (t : T_interp_frame) (p_r : AV) {n : Nat} (hn : n < 8) : (enc_interp_frame t p_r)[3 + n]? = some (.raw (.int .u32 ((t.regs.get n).toNat : Int))) := by
  rcases A8.cases hn with rfl | rfl | rfl | rfl | rfl | rfl | rfl | rfl <;> rfl
theorem enc_interp_frame_S3 (t : T_interp_frame) (p_r : AV) {n : Nat} (hn : n < 8) (v : UInt32) : (enc_interp_frame t p_r).set (3 + n) (.raw (.int .u32 (v.toNat : Int))) = enc_interp_frame ({ t with regs := t.regs.set n v }) p_r := by
  rcases A8.cases hn with rfl | rfl | rfl | rfl | rfl | rfl | rfl | rfl <;> rfl
theorem enc_interp_frame_S3z (t : T_interp_frame) (p_r : AV) {n : Nat} (hn : n < 8) : (enc_interp_frame t p_r).set (3 + n) (.raw (.int .u32 0)) = enc_interp_frame ({ t with regs := t.regs.set n 0 }) p_r := by
  rcases A8.cases hn with rfl | rfl | rfl | rfl | rfl | rfl | rfl | rfl <;> rfl
theorem enc_interp_frame_g11 (t : T_interp_frame) (p_r : AV) : (enc_interp_frame t p_r)[11]? = some (.raw (.bool t.set.a0)) := rfl
theorem enc_interp_frame_g12 (t : T_interp_frame) (p_r : AV) : (enc_interp_frame t p_r)[12]? = some (.raw (.bool t.set.a1)) := rfl
theorem enc_interp_frame_g13 (t : T_interp_frame) (p_r : AV) : (enc_interp_frame t p_r)[13]? = some (.raw (.bool t.set.a2)) := rfl
theorem enc_interp_frame_g14 (t : T_interp_frame) (p_r : AV) : (enc_interp_frame t p_r)[14]? = some (.raw (.bool t.set.a3)) := rfl
theorem enc_interp_frame_g15 (t : T_interp_frame) (p_r : AV) : (enc_interp_frame t p_r)[15]? = some (.raw (.bool t.set.a4)) := rfl
theorem enc_interp_frame_g16 (t : T_interp_frame) (p_r : AV) : (enc_interp_frame t p_r)[16]? = some (.raw (.bool t.set.a5)) := rfl
theorem enc_interp_frame_g17 (t : T_interp_frame) (p_r : AV) : (enc_interp_frame t p_r)[17]? = some (.raw (.bool t.set.a6)) := rfl
theorem enc_interp_frame_g18 (t : T_interp_frame) (p_r : AV) : (enc_interp_frame t p_r)[18]? = some (.raw (.bool t.set.a7)) := rfl
theorem enc_interp_frame_G11 (t : T_interp_frame) (p_r : AV) {n : Nat} (hn : n < 8) : (enc_interp_frame t p_r)[11 + n]? = some (.raw (.bool (t.set.get n))) := by
  rcases A8.cases hn with rfl | rfl | rfl | rfl | rfl | rfl | rfl | rfl <;> rfl
theorem enc_interp_frame_S11 (t : T_interp_frame) (p_r : AV) {n : Nat} (hn : n < 8) (v : Bool) : (enc_interp_frame t p_r).set (11 + n) (.raw (.bool v)) = enc_interp_frame ({ t with set := t.set.set n v }) p_r := by
  rcases A8.cases hn with rfl | rfl | rfl | rfl | rfl | rfl | rfl | rfl <;> rfl
theorem enc_interp_frame_g19 (t : T_interp_frame) (p_r : AV) : (enc_interp_frame t p_r)[19]? = some (.raw (.int .u32 (t.stack.a0.toNat : Int))) := rfl
theorem enc_interp_frame_g20 (t : T_interp_frame) (p_r : AV) : (enc_interp_frame t p_r)[20]? = some (.raw (.int .u32 (t.stack.a1.toNat : Int))) := rfl
theorem enc_interp_frame_g21 (t : T_interp_frame) (p_r : AV) : (enc_interp_frame t p_r)[21]? = some (.raw (.int .u32 (t.stack.a2.toNat : Int))) := rfl
theorem enc_interp_frame_g22 (t : T_interp_frame) (p_r : AV) : (enc_interp_frame t p_r)[22]? = some (.raw (.int .u32 (t.stack.a3.toNat : Int))) := rfl
theorem enc_interp_frame_g23 (t : T_interp_frame) (p_r : AV) : (enc_interp_frame t p_r)[23]? = some (.raw (.int .u32 (t.stack.a4.toNat : Int))) := rfl
theorem enc_interp_frame_g24 (t : T_interp_frame) (p_r : AV) : (enc_interp_frame t p_r)[24]? = some (.raw (.int .u32 (t.stack.a5.toNat : Int))) := rfl
theorem enc_interp_frame_g25 (t : T_interp_frame) (p_r : AV) : (enc_interp_frame t p_r)[25]? = some (.raw (.int .u32 (t.stack.a6.toNat : Int))) := rfl
theorem enc_interp_frame_g26 (t : T_interp_frame) (p_r : AV) : (enc_interp_frame t p_r)[26]? = some (.raw (.int .u32 (t.stack.a7.toNat : Int))) := rfl
theorem enc_interp_frame_g27 (t : T_interp_frame) (p_r : AV) : (enc_interp_frame t p_r)[27]? = some (.raw (.int .u32 (t.stack.a8.toNat : Int))) := rfl
theorem enc_interp_frame_g28 (t : T_interp_frame) (p_r : AV) : (enc_interp_frame t p_r)[28]? = some (.raw (.int .u32 (t.stack.a9.toNat : Int))) := rfl
theorem enc_interp_frame_g29 (t : T_interp_frame) (p_r : AV) : (enc_interp_frame t p_r)[29]? = some (.raw (.int .u32 (t.stack.a10.toNat : Int))) := rfl
theorem enc_interp_frame_g30 (t : T_interp_frame) (p_r : AV) : (enc_interp_frame t p_r)[30]? = some (.raw (.int .u32 (t.stack.a11.toNat : Int))) := rfl
theorem enc_interp_frame_g31 (t : T_interp_frame) (p_r : AV) : (enc_interp_frame t p_r)[31]? = some (.raw (.int .u32 (t.stack.a12.toNat : Int))) := rfl
theorem enc_interp_frame_g32 (t : T_interp_frame) (p_r : AV) : (enc_interp_frame t p_r)[32]? = some (.raw (.int .u32 (t.stack.a13.toNat : Int))) := rfl
theorem enc_interp_frame_g33 (t : T_interp_frame) (p_r : AV) : (enc_interp_frame t p_r)[33]? = some (.raw (.int .u32 (t.stack.a14.toNat : Int))) := rfl
theorem enc_interp_frame_g34 (t : T_interp_frame) (p_r : AV) : (enc_interp_frame t p_r)[34]? = some (.raw (.int .u32 (t.stack.a15.toNat : Int))) := rfl
theorem enc_interp_frame_G19 (t : T_interp_frame) (p_r : AV) {n : Nat} (hn : n < 16) : (enc_interp_frame t p_r)[19 + n]? = some (.raw (.int .u32 ((t.stack.get n).toNat : Int))) := by
  rcases A16.cases hn with rfl | rfl | rfl | rfl | rfl | rfl | rfl | rfl | rfl | rfl | rfl | rfl | rfl | rfl | rfl | rfl <;> rfl
theorem enc_interp_frame_S19 (t : T_interp_frame) (p_r : AV) {n : Nat} (hn : n < 16) (v : UInt32) : (enc_interp_frame t p_r).set (19 + n) (.raw (.int .u32 (v.toNat : Int))) = enc_interp_frame ({ t with stack := t.stack.set n v }) p_r := by
  rcases A16.cases hn with rfl | rfl | rfl | rfl | rfl | rfl | rfl | rfl | rfl | rfl | rfl | rfl | rfl | rfl | rfl | rfl <;> rfl
theorem enc_interp_frame_S19z (t : T_interp_frame) (p_r : AV) {n : Nat} (hn : n < 16) : (enc_interp_frame t p_r).set (19 + n) (.raw (.int .u32 0)) = enc_interp_frame ({ t with stack := t.stack.set n 0 }) p_r := by
  rcases A16.cases hn with rfl | rfl | rfl | rfl | rfl | rfl | rfl | rfl | rfl | rfl | rfl | rfl | rfl | rfl | rfl | rfl <;> rfl
theorem enc_interp_frame_g35 (t : T_interp_frame) (p_r : AV) : (enc_interp_frame t p_r)[35]? = some (.raw (.bool t.over)) := rfl
theorem enc_interp_frame_s35 (t : T_interp_frame) (p_r : AV) (v : Bool) : (enc_interp_frame t p_r).set 35 (.raw (.bool v)) = enc_interp_frame ({ t with over := v }) p_r := rfl
attribute [push_cast] enc_interp_frame_len enc_interp_frame_lo enc_interp_frame_ren enc_interp_frame_in enc_interp_frame_g0 enc_interp_frame_g1 enc_interp_frame_s1 enc_interp_frame_g2 enc_interp_frame_s2 enc_interp_frame_g3 enc_interp_frame_g4 enc_interp_frame_g5 enc_interp_frame_g6 enc_interp_frame_g7 enc_interp_frame_g8 enc_interp_frame_g9 enc_interp_frame_g10 enc_interp_frame_G3 enc_interp_frame_S3 enc_interp_frame_S3z enc_interp_frame_g11 enc_interp_frame_g12 enc_interp_frame_g13 enc_interp_frame_g14 enc_interp_frame_g15 enc_interp_frame_g16 enc_interp_frame_g17 enc_interp_frame_g18 enc_interp_frame_G11 enc_interp_frame_S11 enc_interp_frame_g19 enc_interp_frame_g20 enc_interp_frame_g21 enc_interp_frame_g22 enc_interp_frame_g23 enc_interp_frame_g24 enc_interp_frame_g25 enc_interp_frame_g26 enc_interp_frame_g27 enc_interp_frame_g28 enc_interp_frame_g29 enc_interp_frame_g30 enc_interp_frame_g31 enc_interp_frame_g32 enc_interp_frame_g33 enc_interp_frame_g34 enc_interp_frame_G19 enc_interp_frame_S19 enc_interp_frame_S19z enc_interp_frame_g35 enc_interp_frame_s35
structure T_inst_rule where
  fns : Int
  dst : Bool
  word : Bool
  off : Int
  imm : Bool
  deriving DecidableEq
def enc_inst_rule (t : T_inst_rule) : List AV := [.raw (.int .i64 t.fns), .raw (.bool t.dst), .raw (.bool t.word), .raw (.int .i64 t.off), .raw (.bool t.imm)]
theorem uni_inst_rule (l : List T_inst_rule) : Uni 5 (l.map enc_inst_rule) := uni_of (f := enc_inst_rule) (fun _ => rfl)
attribute [push_cast] enc_inst_rule uni_inst_rule
def Blk (w : World) (g : Nat) (t : TypeId) (cs : Array Value) : Prop := w.heap[g]? = some (.cells cs t (0, 0))
section
variable {w w' : World} {g : Nat} {t : TypeId} {cs : Array Value}
theorem Blk.lt (h : Blk w g t cs) : g < w.heap.size := (Array.getElem?_eq_some_iff.1 h).1
theorem Blk.cell (h : Blk w g t cs) (i : Nat) : w.cell? ⟨g, i, none⟩ = cs[i]? := cell_of_row w g i cs t (0, 0) h
theorem Blk.frozen (h : Blk w g t cs) (i : Nat) : w.frozen? ⟨g, i, none⟩ = false := frozen_of_row w g i cs t h
theorem Blk.new (w : World) (t : TypeId) (cs : Array Value) : Blk (w.alloc (.cells cs t)) w.heap.size t cs := heap_alloc_new w _
theorem Blk.drew (h : Blk w g t cs) : Blk w.drew g t cs := h
theorem Blk.drewN (h : Blk w g t cs) (n : Nat) : Blk (w.drewN n) g t cs := h
theorem Blk.alloc (h : Blk w g t cs) (o : Obj) : Blk (w.alloc o) g t cs := (Below.heap_alloc w o g h.lt).trans h
theorem Blk.set_ (h : Blk w g t cs) (i : Nat) (u : Value) : Blk (w.setCell ⟨g, i, none⟩ u) g t (cs.setIfInBounds i u) := heap_setCell_same w g i cs t u h
theorem Blk.far (h : Blk w g t cs) {p : Addr} (hp : g ≠ p.block) (u : Value) : Blk (w.setCell p u) g t cs := (heap_setCell_other w p g u hp).trans h
theorem Blk.below {B : Nat} (h : Blk w g t cs) (hb : Below B w w') (hg : g < B) : Blk w' g t cs := (hb.block g hg).trans h
theorem Blk.grown {row : Option Nat} (h : Blk w g t cs) (hb : w.grownBy w' row) (hg : some g ≠ row) : Blk w' g t cs := (hb.block g h.lt hg).trans h
end
theorem cell_set_ne {b k : Nat} (h : b ≠ k) (w : World) (i o : Nat) (v : Value) : (w.setCell ⟨k, i, none⟩ v).cell? ⟨b, o, none⟩ = w.cell? ⟨b, o, none⟩ := World.cell?_setCell_other _ _ _ _ (fun e => h (by cases e; rfl))
def Only (g : Nat) (w w' : World) : Prop := w.grownBy w' (some g)
theorem Only.below {B g : Nat} {a w w' : World} (h : Below B a w) (ho : Only g w w') (hg : B ≤ g) (hB : B ≤ w.heap.size) : Below B a w' := h.grown ho hB (fun k hk => by cases hk; exact hg)
theorem Only.setCell (w : World) (g i : Nat) (u : Value) : Only g w (w.setCell ⟨g, i, none⟩ u) :=
  ⟨rfl, rfl, rfl, by simp, fun k _ hk => heap_setCell_other w ⟨g, i, none⟩ k u (fun e => hk (by simp [e]))⟩
theorem Only.setRow (w : World) (g : Nat) (cs : Array Value) : Only g w (w.setRow g cs) := ⟨rfl, rfl, rfl, by simp, fun k _ hk => setRow_other w g k _ (fun e => hk (by simp [e]))⟩
theorem Only.refl (g : Nat) (w : World) : Only g w w := ⟨rfl, rfl, rfl, Nat.le_refl _, fun _ _ _ => rfl⟩
theorem Only.trans {g : Nat} {a b c : World} (h : Only g a b) (k : Only g b c) : Only g a c :=
  ⟨k.os.trans h.os, k.tape.trans h.tape, k.output.trans h.output, Nat.le_trans h.size k.size, fun i hi hn => (k.block i (Nat.lt_of_lt_of_le hi h.size) hn).trans (h.block i hi hn)⟩
theorem Only.of_drew {g : Nat} {a b : World} (h : Only g a.drew b) : Only g a b := ⟨h.os, h.tape, h.output, h.size, h.block⟩
theorem Only.of_below {g : Nat} {a b : World} (h : Below a.heap.size a b) : Only g a b := ⟨h.os, h.tape, h.output, h.size, fun i hi _ => h.block i hi⟩
theorem Only.drewN {g : Nat} {a b : World} (h : Only g a b) (n : Nat) : Only g a (b.drewN n) := ⟨h.os, h.tape, h.output, h.size, h.block⟩
theorem boxedB (w : World) (b : Nat) (hb : w.heap.size = b) (cs : Array Value) (t : TypeId) : ∃ W, w.alloc (.cells cs t) = W ∧ Below b w W ∧ W.heap.size = b + 1 ∧ Blk W b t cs ∧ (∀ k i, k < b → W.cell? ⟨k, i, none⟩ = w.cell? ⟨k, i, none⟩) ∧ (∀ k i, k < b → W.frozen? ⟨k, i, none⟩ = w.frozen? ⟨k, i, none⟩) := by
  subst hb
  exact ⟨_, rfl, below_box _ _, by simp, heap_alloc_new w _, fun b i hb => World.cell?_alloc_lt _ _ _ hb, fun b i hb => World.frozen?_alloc_old _ _ _ (by simp only; omega)⟩
theorem storedB {w : World} {g : Nat} {t : TypeId} {cs : Array Value} (h : Blk w g t cs) (i : Nat) (u : Value) : ∃ W, w.setCell ⟨g, i, none⟩ u = W ∧ Only g w W ∧ W.heap.size = w.heap.size ∧ Blk W g t (cs.setIfInBounds i u) ∧ (∀ k i, k ≠ g → W.cell? ⟨k, i, none⟩ = w.cell? ⟨k, i, none⟩) ∧ (∀ k i, W.frozen? ⟨k, i, none⟩ = w.frozen? ⟨k, i, none⟩) :=
  ⟨_, rfl, Only.setCell _ _ _ _, by simp, h.set_ _ _, fun k j hk => World.cell?_setCell_other _ _ _ _ (fun e => hk (by cases e; rfl)), fun k j => by simp⟩
theorem Only.cell {g : Nat} {w w' : World} (h : Only g w w') {a : Addr} {v : Value} (hc : w.cell? a = some v) (hne : a.block ≠ g) : w'.cell? a = some v := World.grownBy.cell h hc (fun e => hne (by cases e; rfl))
def setAll (w : World) (g : Nat) : Nat → List Value → World
  | _, [] => w
  | i, v :: vs => setAll (w.setCell ⟨g, i, none⟩ v) g (i + 1) vs
theorem setAll_only (g : Nat) : ∀ (vs : List Value) (i : Nat) (w : World), Only g w (setAll w g i vs)
  | [], _, w => Only.refl g w
  | v :: vs, i, w => (Only.setCell w g i v).trans (setAll_only g vs (i + 1) _)
theorem setAll_size (g : Nat) : ∀ (vs : List Value) (i : Nat) (w : World), (setAll w g i vs).heap.size = w.heap.size
  | [], _, _ => rfl
  | v :: vs, i, w => by rw [setAll, setAll_size]; simp
theorem Blk.setAll_ {g : Nat} {t : TypeId} : ∀ (vs : List Value) (i : Nat) (w : World) (cs : Array Value), Blk w g t cs → cs.size = i + vs.length → Blk (setAll w g i vs) g t (cs.toList.take i ++ vs).toArray
  | [], i, w, cs, h, hl => by
    rw [List.append_nil, List.take_of_length_le (by simp at hl ⊢; omega)]
    simpa [setAll] using h
  | v :: vs, i, w, cs, h, hl => by
    simp only [List.length_cons] at hl
    have ih := Blk.setAll_ vs (i + 1) _ _ (h.set_ i v) (by simp; omega)
    simp only [setAll]
    refine cast ?_ ih
    congr 2
    rw [Array.toList_setIfInBounds, List.take_add_one, List.take_set_of_le (by omega), List.getElem?_set_self (by simp; omega)]
    simp
theorem Blk.setBox {g : Nat} {t : TypeId} {w : World} {cs : Array Value} (h : Blk w g t cs) (vs : List Value) (hl : vs.length = cs.size) : Blk (setAll w g 0 vs) g t vs.toArray := by
  have := Blk.setAll_ vs 0 w cs h (by omega)
  simpa using this
section
variable {P : Program}
def structB : TypeDesc → Bool
  | .struct _ | .array _ _ => true
  | _ => false
theorem results_c {fn : Func} {p : Tmp} {ty : TypeId} (h : fn.results = #[.cell p ty]) {tmps : Array Value} {w : World} {g : Nat} {t : TypeId} {cs : Array Value} {d : TypeDesc}
    (hp : tmps.getD p undef = .pointer (some ⟨g, 0, none⟩)) (hg : Blk w g t cs)
    (hu : P.underlying ty = some d) (hd : structB d = true) (hi : (P.info? ty).map (·.size) = some cs.size) :
    (results fn tmps).run P w = .ok (.agg cs) w := results_cell_row (P := P) h tmps w g t cs (0, 0) d hp hg hu (by cases d <;> first | rfl | (simp [structB] at hd)) hi
theorem results_ct {fn : Func} {p u : Tmp} {ty : TypeId} (h : fn.results = #[.cell p ty, .tmp u]) {tmps : Array Value} {w : World} {g : Nat} {t : TypeId} {cs : Array Value} {d : TypeDesc}
    (hp : tmps.getD p undef = .pointer (some ⟨g, 0, none⟩)) (hg : Blk w g t cs)
    (hu : P.underlying ty = some d) (hd : structB d = true) (hi : (P.info? ty).map (·.size) = some cs.size) :
    (results fn tmps).run P w = .ok (.tuple #[.agg cs, tmps.getD u undef]) w := by
  have hp' : tmps[p]?.getD undef = .pointer (some ⟨g, 0, none⟩) := by simpa using hp
  simp [results, h, hp', asAddr, run_loadVar_row (P := P) w g t ty cs (0, 0) d hg hu (by cases d <;> first | rfl | (simp [structB] at hd)) hi]
theorem results_ctt {fn : Func} {p u v : Tmp} {ty : TypeId} (h : fn.results = #[.cell p ty, .tmp u, .tmp v]) {tmps : Array Value} {w : World} {g : Nat} {t : TypeId} {cs : Array Value} {d : TypeDesc}
    (hp : tmps.getD p undef = .pointer (some ⟨g, 0, none⟩)) (hg : Blk w g t cs)
    (hu : P.underlying ty = some d) (hd : structB d = true) (hi : (P.info? ty).map (·.size) = some cs.size) :
    (results fn tmps).run P w = .ok (.tuple #[.agg cs, tmps.getD u undef, tmps.getD v undef]) w := by
  have hp' : tmps[p]?.getD undef = .pointer (some ⟨g, 0, none⟩) := by simpa using hp
  simp [results, h, hp', asAddr, run_loadVar_row (P := P) w g t ty cs (0, 0) d hg hu (by cases d <;> first | rfl | (simp [structB] at hd)) hi]
theorem run_make_rowN (t e : TypeId) (i : TypeInfo) (z : Value) (ht : P.underlying t = some (.slice e)) (hi : P.info? e = some i) (hz : i.zero = some z)
    (kl kc : IntKind) (n c : Nat) (hnc : n ≤ c) (hbytes : i.bytes * c ≤ 281474976710656) (h63 : c ≤ 9223372036854775807) (w : World) :
    (Instr.makeSlice t (.int kl (n : Int)) (.int kc (c : Int))).run P w = .ok (.slice (some ⟨w.heap.size, 0, none⟩) n c) (w.alloc (.cells (madeCells z.cells (c * i.size)) e)) := by
  have hb : (i.bytes : Int) * (c : Int) ≤ 281474976710656 := by
    have h : ((i.bytes * c : Nat) : Int) ≤ 281474976710656 := by omega
    rwa [Int.natCast_mul] at h
  have hr := run_make (P := P) w t e i z ht hi hz kl kc n c (by omega) (by omega) hb (by omega)
  simp only [Int.toNat_natCast] at hr
  exact hr
theorem run_makeN (t e : TypeId) (z : Value) (size bytes : Nat) (ht : P.underlying t = some (.slice e)) (hinfo : (P.info? e).map (fun i => (i.zero, i.size, i.bytes)) = some (some z, size, bytes))
    (n : Nat) (hn : bytes * n ≤ 281474976710656) (h63 : n ≤ 9223372036854775807) (w : World) :
    (Instr.makeSlice t (.int .i64 (n : Int)) (.int .i64 (n : Int))).run P w = .ok (.slice (some ⟨w.heap.size, 0, none⟩) n n) (w.alloc (.cells (madeCells z.cells (n * size)) e)) := by
  obtain ⟨i, hi, hz, rfl, rfl⟩ := info_parts hinfo
  exact run_make_rowN t e i z ht hi hz .i64 .i64 n n (Nat.le_refl _) hn h63 w
def cutA (A : Option Addr) (c m s : Nat) : Option Addr := if c = m then A else A.map (·.add (m * s))
theorem cutA_lt {a : Addr} {c m s : Nat} (h : m < c) : cutA (some a) c m s = some (a.add (m * s)) := by
  unfold cutA
  rw [if_neg (by omega)]
  rfl
theorem run_cut (t e : TypeId) (size : Nat) (ht : P.underlying t = some (.slice e)) (hi : (P.info? e).map (·.size) = some size) (A : Option Addr) (n c m : Nat) (x : Int) (hx : x = (m : Int)) (hm : m ≤ n) (W : World) :
    (Instr.slice t (.slice A n c) (some (.int .i64 x)) none none).run P W = .ok (.slice (cutA A c m size) (n - m) (c - m)) W := by
  have hel : P.elem t = e := by simp [Program.elem, ht]
  have hu : P.underlying t = some (.slice (P.elem t)) := by rw [hel]; exact ht
  obtain ⟨i0, hi0, hs⟩ := Option.map_eq_some_iff.1 hi
  subst hx
  rw [run_slice_l W t A n c hu .i64 (m : Int) (Int.natCast_nonneg _) (by omega), hel]
  simp [sizeOf, typeInfo, hi0, hs, sliced, cutA, Result.andThen]
theorem run_copy_sized (w : World) (dT sT ty elem : TypeId) (i : TypeInfo) (size : Nat) (hu : P.underlying dT = some (.slice elem)) (hi : P.info? elem = some i) (hsz : i.size = size)
    (g o dLen dCap : Nat) (a : Addr) (sLen sCap : Nat) (cur : Array Value) (t : TypeId) (cs : List Value)
    (hg : w.heap[g]? = some (.cells cur t (0, 0))) (hn : cs.length = Nat.min sLen dLen * size)
    (hsrc : ∀ j v, cs[j]? = some v → w.cell? (a.add j) = some v) (hfit : o + cs.length ≤ cur.size) (h1 : ∀ v ∈ cs, v.oneCell' = true) :
    (Builtin.copy_ #[dT, sT] ty #[.slice (some ⟨g, o, none⟩) dLen dCap, .slice (some a) sLen sCap]).run P w =
      .ok (goInt (Nat.min sLen dLen)) (w.setRow g (cur.toList.take o ++ cs ++ cur.toList.drop (o + cs.length)).toArray) := by
  have hl := run_loadCells_list (P := P) w a cs hsrc
  have hst := run_storeCells_at P g o t cs 0 cur w hg (by simpa using hfit) h1
  simp [Builtin.copy_, run_underlying hu, Builtin.lenOf, Builtin.firstCells, sizeOf, typeInfo, hi, hsz, ← hn, hl, hst]
theorem run_copy_zero (w : World) (dT sT ty elem : TypeId) (i : TypeInfo) (hu : P.underlying dT = some (.slice elem)) (hi : P.info? elem = some i)
    (dp sp : Option Addr) (dLen dCap sLen sCap : Nat) (hn : Nat.min sLen dLen = 0) :
    (Builtin.copy_ #[dT, sT] ty #[.slice dp dLen dCap, .slice sp sLen sCap]).run P w = .ok (goInt 0) w := by
  cases dp <;> cases sp <;> simp [Builtin.copy_, run_underlying hu, Builtin.lenOf, Builtin.firstCells, sizeOf, typeInfo, hi, hn, loadCells, loadCellsFrom, storeCells]
theorem wp_copyS {w : World} {o : Oper} {a : Act} {K : Act → World → Prop} {Q : Exit → Act → World → Prop} (d s : Operand) (dT sT : TypeId)
    (ho : o.op = .call { callee := .builtin .copy, args := #[d, s], argTypes := #[dT, sT] }) (elem : TypeId) (i : TypeInfo) (size : Nat) (hu : P.underlying dT = some (.slice elem)) (hi : P.info? elem = some i) (hsz : i.size = size) (h0 : 0 < size)
    (dp sp : Option Addr) (dLen dCap sLen sCap : Nat) (hd : a.eval d = .slice dp dLen dCap) (hs : a.eval s = .slice sp sLen sCap)
    (g off : Nat) (cur : List Value) (t : TypeId) (hg : Blk w g t cur.toArray) (cs : List Value) (hn : cs.length = Nat.min sLen dLen * size)
    (hpos : 0 < cs.length → dp = some ⟨g, off, none⟩ ∧ ∃ ad, sp = some ad ∧ ∀ j v, cs[j]? = some v → w.cell? (ad.add j) = some v)
    (hfit : off + cs.length ≤ cur.length) (h1 : ∀ v ∈ cs, v.oneCell' = true)
    (h : ∀ w', Blk w' g t (splice cur off cs).toArray → Only g w w' → w'.heap.size = w.heap.size → K (a.put o.dst (goInt (Nat.min sLen dLen))) w') : o.wp P a w K Q := by
  by_cases hc : cs.length = 0
  · have hm : Nat.min sLen dLen = 0 := by
      rw [hc] at hn
      rcases Nat.eq_zero_or_pos (Nat.min sLen dLen) with h | h
      · exact h
      · have := Nat.mul_pos h h0; omega
    obtain rfl : cs = [] := List.eq_nil_of_length_eq_zero hc
    have hrun := run_copy_zero (P := P) w dT sT o.type elem i hu hi dp sp dLen dCap sLen sCap hm
    unfold Oper.wp
    simp [execOp, ho, resolve, invoke, builtin, hd, hs, hrun, Result.andThen]
    have := h w (by simpa [splice] using hg) (Only.refl _ _) rfl
    rwa [hm] at this
  · obtain ⟨rfl, ad, rfl, hsrc⟩ := hpos (by omega)
    have hrun := run_copy_sized (P := P) w dT sT o.type elem i size hu hi hsz g off dLen dCap ad sLen sCap cur.toArray t cs hg hn hsrc (by simpa using hfit) h1
    unfold Oper.wp
    simp only [execOp, ho, resolve, invoke, builtin, Sem.run_bind, Sem.run_pure, Result.andThen_ok, List.map_toArray, List.map_cons, List.map_nil, hd, hs, hrun]
    refine h _ ?_ (Only.setRow _ _ _) (by simp)
    have := setRow_heap w g cur.toArray (splice cur off cs).toArray t (0, 0) hg
    simpa [splice, Blk] using this
theorem wpList_copyS {w : World} {ops : Array Oper} {rest : List Oper} {o : Oper} {a : Act} {Q : Exit → Act → World → Prop} (hgd : o.guard = none) (d s : Operand) (dT sT : TypeId)
    (ho : o.op = .call { callee := .builtin .copy, args := #[d, s], argTypes := #[dT, sT] }) (elem : TypeId) (i : TypeInfo) (size : Nat) (hu : P.underlying dT = some (.slice elem)) (hi : P.info? elem = some i) (hsz : i.size = size) (h0 : 0 < size)
    (dp sp : Option Addr) (dLen dCap sLen sCap : Nat) (hd : a.eval d = .slice dp dLen dCap) (hs : a.eval s = .slice sp sLen sCap)
    (g off : Nat) (cur : List Value) (t : TypeId) (hg : Blk w g t cur.toArray) (cs : List Value) (hn : cs.length = Nat.min sLen dLen * size)
    (hpos : 0 < cs.length → dp = some ⟨g, off, none⟩ ∧ ∃ ad, sp = some ad ∧ ∀ j v, cs[j]? = some v → w.cell? (ad.add j) = some v)
    (hfit : off + cs.length ≤ cur.length) (h1 : ∀ v ∈ cs, v.oneCell' = true)
    (h : ∀ w', Blk w' g t (splice cur off cs).toArray → Only g w w' → w'.heap.size = w.heap.size → wpList P ops Q rest (a.put o.dst (goInt (Nat.min sLen dLen))) w') : wpList P ops Q (o :: rest) a w :=
  wpList_plain hgd fun _ hK => wp_copyS d s dT sT ho elem i size hu hi hsz h0 dp sp dLen dCap sLen sCap hd hs g off cur t hg cs hn hpos hfit h1 (fun w' a1 a2 a3 => hK _ _ (h w' a1 a2 a3))
end
theorem info_ent : (prog.info? 41).map (fun i => (i.zero, i.size, i.bytes)) = some (some (.agg #[.int .u32 0, .slice none 0 0]), 2, 32) := by kernel_rfl
theorem info_u32 : (prog.info? 25).map (fun i => (i.zero, i.size, i.bytes)) = some (some (.int .u32 0), 1, 4) := by kernel_rfl
def fits (es : List Ent) : Prop := es.length ≤ 1048576 ∧ ∀ e ∈ es, e.v.length ≤ 1048576
def u32s (xs : List Nat) : List Value := xs.map fun (x : Nat) => Value.int .u32 (x : Int)
theorem u32s_length (xs : List Nat) : (u32s xs).length = xs.length := by simp [u32s]
theorem u32s_get {xs : List Nat} {i : Nat} {x : Nat} (h : xs[i]? = some x) : (u32s xs)[i]? = some (.int .u32 (x : Int)) := by simp [u32s, h]
theorem u32s_one (xs : List Nat) : ∀ u ∈ u32s xs, u.oneCell' = true := by
  intro u hu
  obtain ⟨_, _, rfl⟩ := List.mem_map.1 hu
  rfl
def lt32 (xs : List Nat) : Prop := ∀ x ∈ xs, x < 4294967296
structure OwnW (w : World) (base : Nat) (u : Value) (xs : List Nat) : Prop where
  row : w.ownsRow base 25 1 u xs.length (u32s xs)
  lt : lt32 xs
theorem OwnW.reads {w : World} {base : Nat} {u : Value} {xs : List Nat} (h : OwnW w base u xs) : ∃ A c, u = .slice A xs.length c ∧ kW.At w w.heap.size A xs.length c xs := by
  refine own_reads (k := kW) h.row rfl fun i x hx => ?_
  refine ⟨?_, h.lt x (List.mem_of_getElem? hx)⟩
  have := u32s_get hx
  show ((u32s xs).drop (i * 1)).take 1 = _
  rw [Nat.mul_one, List.drop_eq_getElem_cons (by rw [u32s_length]; exact (List.getElem?_eq_some_iff.1 hx).1)]
  simp only [List.take_succ_cons, List.take_zero, List.cons.injEq, and_true]
  rw [List.getElem?_eq_getElem (by rw [u32s_length]; exact (List.getElem?_eq_some_iff.1 hx).1)] at this
  exact Option.some.inj this
theorem OwnW.below {w w' : World} {base : Nat} {u : Value} {xs : List Nat} (h : OwnW w base u xs) (hb : Below w.heap.size w w') : OwnW w' base u xs := ⟨own_below h.row hb, h.lt⟩
theorem OwnW.mono {w : World} {base base' : Nat} {u : Value} {xs : List Nat} (h : OwnW w base u xs) (hb : base' ≤ base) : OwnW w base' u xs := ⟨own_mono h.row hb, h.lt⟩
theorem OwnW.only {w w' : World} {base g : Nat} {u : Value} {xs : List Nat} (h : OwnW w base u xs) (ho : Only g w w') (hg : u.ownBlock ≠ some g) : OwnW w' base u xs := ⟨h.row.kept ho (.inr hg), h.lt⟩
def entCells : List Ent → List Value → List Value
  | e :: es, u :: us => .int .u32 (e.key : Int) :: u :: entCells es us
  | _, _ => []
theorem entCells_length : ∀ {es : List Ent} {us : List Value}, us.length = es.length → (entCells es us).length = es.length * 2
  | [], [], _ => rfl
  | e :: es, u :: us, h => by
    simp only [entCells, List.length_cons]
    rw [entCells_length (by simpa using h)]
    omega
  | [], _ :: _, h => by simp at h
  | _ :: _, [], h => by simp at h
theorem entCells_get : ∀ {es : List Ent} {us : List Value} {i : Nat} {e : Ent} {u : Value}, es[i]? = some e → us[i]? = some u → (entCells es us)[i * 2]? = some (.int .u32 (e.key : Int)) ∧ (entCells es us)[i * 2 + 1]? = some u
  | [], _, _, _, _, h, _ => by simp at h
  | _ :: _, [], _, _, _, _, h => by simp at h
  | x :: es, y :: us, 0, e, u, he, hu => by
    simp at he hu
    simp [entCells, he, hu]
  | x :: es, y :: us, i + 1, e, u, he, hu => by
    have ih := entCells_get (es := es) (us := us) (i := i) (by simpa using he) (by simpa using hu)
    rw [show (i + 1) * 2 = i * 2 + 1 + 1 by omega]
    simpa [entCells] using ih
theorem entCells_one {es : List Ent} : ∀ {us : List Value}, (∀ u ∈ us, u.oneCell' = true) → ∀ v ∈ entCells es us, v.oneCell' = true := by
  induction es with
  | nil => intro us _ v hv; cases us <;> simp [entCells] at hv
  | cons e es ih =>
    intro us h v hv
    cases us with
    | nil => simp [entCells] at hv
    | cons u us =>
      simp only [entCells, List.mem_cons] at hv
      rcases hv with rfl | rfl | hv
      · rfl
      · exact h _ (by simp)
      · exact ih (fun u hu => h u (by simp [hu])) v hv
theorem entCells_append : ∀ {es es' : List Ent} {us us' : List Value}, us.length = es.length → entCells (es ++ es') (us ++ us') = entCells es us ++ entCells es' us'
  | [], _, [], _, _ => rfl
  | e :: es, es', u :: us, us', h => by
    simp only [List.cons_append, entCells, List.cons.injEq, true_and]
    exact entCells_append (by simpa using h)
  | [], _, _ :: _, _, h => by simp at h
  | _ :: _, _, [], _, h => by simp at h
theorem entCells_inv : ∀ {es : List Ent} {us : List Value} {j : Nat} {v : Value}, (entCells es us)[j]? = some v → ∃ (i : Nat) (e : Ent) (u : Value), es[i]? = some e ∧ us[i]? = some u ∧ ((j = i * 2 ∧ v = .int .u32 (e.key : Int)) ∨ (j = i * 2 + 1 ∧ v = u))
  | [], us, j, v, h => by cases us <;> simp [entCells] at h
  | _ :: _, [], j, v, h => by simp [entCells] at h
  | x :: es, y :: us, 0, v, h => by
    simp [entCells] at h
    exact ⟨0, x, y, rfl, rfl, .inl ⟨rfl, h.symm⟩⟩
  | x :: es, y :: us, 1, v, h => by
    simp [entCells] at h
    exact ⟨0, x, y, rfl, rfl, .inr ⟨rfl, h.symm⟩⟩
  | x :: es, y :: us, j + 2, v, h => by
    obtain ⟨i, e, u, he, hu, hj⟩ := entCells_inv (es := es) (us := us) (j := j) (v := v) (by simpa [entCells] using h)
    refine ⟨i + 1, e, u, by simpa using he, by simpa using hu, ?_⟩
    rcases hj with ⟨rfl, rfl⟩ | ⟨rfl, rfl⟩
    · exact .inl ⟨by omega, rfl⟩
    · exact .inr ⟨by omega, rfl⟩
theorem entCells_set : ∀ {es : List Ent} {us : List Value} {i : Nat} {u : Value}, (entCells es us).set (i * 2 + 1) u = entCells es (us.set i u)
  | [], us, i, u => by cases us <;> cases i <;> simp [entCells]
  | _ :: _, [], i, u => by cases i <;> simp [entCells]
  | x :: es, y :: us, 0, u => by simp [entCells]
  | x :: es, y :: us, i + 1, u => by
    rw [show (i + 1) * 2 + 1 = i * 2 + 1 + 1 + 1 by omega]
    simp only [entCells, List.set_cons_succ]
    rw [entCells_set]
theorem choose_list {α : Type} {p : Nat → α → Prop} : ∀ (n : Nat), (∀ i, i < n → ∃ v, p i v) → ∃ vs : List α, vs.length = n ∧ ∀ (i : Nat) (v : α), vs[i]? = some v → p i v
  | 0, _ => ⟨[], rfl, fun i v h => by simp at h⟩
  | n + 1, h => by
    obtain ⟨vs, hl, hv⟩ := choose_list n (fun i hi => h i (by omega))
    obtain ⟨x, hx⟩ := h n (by omega)
    refine ⟨vs ++ [x], by simp [hl], fun i v hi => ?_⟩
    rcases Nat.lt_or_ge i n with h' | h'
    · rw [List.getElem?_append_left (by omega)] at hi
      exact hv i v hi
    · rw [List.getElem?_append_right (by omega)] at hi
      have h1 := (List.getElem?_eq_some_iff.1 hi).1
      simp at h1
      obtain rfl : i = n := by omega
      simp [hl] at hi
      subst hi
      exact hx
theorem kEnt.cells {w : World} {B : Nat} {A : Option Addr} {n c : Nat} {es : List Ent} (h : kEnt.At w B A n c es) :
    ∃ vs : List Value, vs.length = n ∧ (∀ (i : Nat) (e : Ent) (v : Value), es[i]? = some e → vs[i]? = some v → e.key < 4294967296 ∧ ∃ A' m d, v = .slice A' m d ∧ kW.At w B A' m d e.v) ∧
      (0 < n → ∃ ad, A = some ad ∧ ad.block < B ∧ ∀ (j : Nat) (u : Value), (entCells es vs)[j]? = some u → w.cell? (ad.add j) = some u) := by
  rcases Nat.eq_zero_or_pos n with hn | hn
  · subst hn
    exact ⟨[], rfl, fun i e v _ hv => by simp at hv, fun hp => absurd hp (by omega)⟩
  · obtain ⟨e0, ad, _, _, _, _, rfl, hB, _⟩ := kEnt.get h hn
    obtain ⟨vs, hl, hv⟩ := choose_list (p := fun i v => ∃ e, es[i]? = some e ∧ e.key < 4294967296 ∧ (∃ A' m d, v = Value.slice A' m d ∧ kW.At w B A' m d e.v) ∧ w.cell? (ad.add (i * 2)) = some (.int .u32 (e.key : Int)) ∧ w.cell? (ad.add (i * 2 + 1)) = some v) n
      (fun i hi => by
        obtain ⟨e, ad', A', m, d, he, had, _, h0, h1, hk, hv⟩ := kEnt.get h hi
        injection had with had
        subst had
        exact ⟨.slice A' m d, e, he, hk, ⟨A', m, d, rfl, hv⟩, h0, by rw [show i * 2 + 1 = i * 2 + (0 + 1) by omega, add_fld]; exact h1⟩)
    refine ⟨vs, hl, fun i e v he hvi => ?_, fun _ => ⟨ad, rfl, hB, fun j u hu => ?_⟩⟩
    · obtain ⟨e', he', hk, hx, _⟩ := hv i v hvi
      rw [he] at he'
      cases he'
      exact ⟨hk, hx⟩
    · obtain ⟨i, e, v, he, hvi, hj⟩ := entCells_inv hu
      obtain ⟨e', he', hk, _, h0, h1⟩ := hv i v hvi
      rw [he] at he'
      cases he'
      rcases hj with ⟨rfl, rfl⟩ | ⟨rfl, rfl⟩
      · exact h0
      · exact h1
def Lone (us : List Value) : Prop := ∀ (i j : Nat) (u v : Value) (b : Nat), i ≠ j → us[i]? = some u → us[j]? = some v → u.ownBlock = some b → v.ownBlock ≠ some b
structure OwnEs (w : World) (base : Nat) (v : Value) (es : List Ent) (us : List Value) : Prop where
  len : us.length = es.length
  row : w.ownsRow base 41 2 v es.length (entCells es us)
  val : ∀ (i : Nat) (e : Ent) (u : Value), es[i]? = some e → us[i]? = some u → OwnW w base u e.v ∧ e.key < 4294967296
  lone : Lone us
theorem OwnW.blk_ne {w : World} {base base' : Nat} {u v : Value} {xs : List Nat} {n : Nat} {cs : List Value} (h : OwnW w base u xs) (hr : w.ownsRow base' 41 2 v n cs) {b : Nat} (hv : v.ownBlock = some b) : u.ownBlock ≠ some b := by
  intro hu
  rcases h.row.2 with ⟨rfl, _⟩ | ⟨g, cap, cur, rfl, _, hg, _⟩
  · simp [Value.ownBlock] at hu
  · rcases hr.2 with ⟨rfl, _⟩ | ⟨g', cap', cur', rfl, _, hg', _⟩
    · simp [Value.ownBlock] at hv
    · simp only [Value.ownBlock, Option.some.injEq] at hu hv
      subst hu
      subst hv
      rw [hg] at hg'
      simp at hg'
theorem OwnW.not_row' {w : World} {base base' m cu gu : Nat} {v : Value} {xs : List Nat} {n : Nat} {cs : List Value} (h : OwnW w base (.slice (some ⟨gu, 0, none⟩) m cu) xs) (hr : w.ownsRow base' 41 2 v n cs) : v.ownBlock ≠ some gu := by
  intro hv
  exact h.blk_ne hr hv rfl
theorem OwnEs.below {w w' : World} {base : Nat} {v : Value} {es : List Ent} {us : List Value} (h : OwnEs w base v es us) (hb : Below w.heap.size w w') : OwnEs w' base v es us :=
  ⟨h.len, own_below h.row hb, fun i e u he hu => ⟨(h.val i e u he hu).1.below hb, (h.val i e u he hu).2⟩, h.lone⟩
theorem OwnEs.mono {w : World} {base base' : Nat} {v : Value} {es : List Ent} {us : List Value} (h : OwnEs w base v es us) (hb : base' ≤ base) : OwnEs w base' v es us :=
  ⟨h.len, own_mono h.row hb, fun i e u he hu => ⟨(h.val i e u he hu).1.mono hb, (h.val i e u he hu).2⟩, h.lone⟩
theorem OwnEs.reads {w : World} {base : Nat} {v : Value} {es : List Ent} {us : List Value} (h : OwnEs w base v es us) : ∃ A c, v = .slice A es.length c ∧ kEnt.At w w.heap.size A es.length c es := by
  refine own_reads (k := kEnt) h.row rfl fun i e he => ?_
  have hi : i < us.length := by rw [h.len]; exact (List.getElem?_eq_some_iff.1 he).1
  have hu := List.getElem?_eq_getElem hi
  obtain ⟨hw, hk⟩ := h.val i e _ he hu
  obtain ⟨A, c, hsl, hat⟩ := hw.reads
  obtain ⟨h0, h1⟩ := entCells_get he hu
  refine ⟨A, _, c, ?_, hk, hat⟩
  show ((entCells es us).drop (i * 2)).take 2 = _
  apply List.ext_getElem?
  intro j
  match j with
  | 0 => rw [List.getElem?_take, if_pos (by omega), List.getElem?_drop, Nat.add_zero, h0]; rfl
  | 1 => rw [List.getElem?_take, if_pos (by omega), List.getElem?_drop, h1, hsl]; rfl
  | j + 2 => rw [List.getElem?_take, if_neg (by omega)]; rfl
theorem OwnEs.at_ {w : World} {base : Nat} {A : Option Addr} {n c : Nat} {es : List Ent} {us : List Value} (h : OwnEs w base (.slice A n c) es us) : kEnt.At w w.heap.size A n c es := by
  obtain ⟨A', c', he, hat⟩ := h.reads
  cases he
  exact hat
theorem OwnEs.block {w : World} {base : Nat} {A : Option Addr} {n c : Nat} {es : List Ent} {us : List Value} (h : OwnEs w base (.slice A n c) es us) (hn : 0 < n) : ∃ g, A = some ⟨g, 0, none⟩ ∧ base ≤ g ∧ g < w.heap.size ∧ es.length = n := by
  have hl := h.at_.len
  rcases h.row.2 with ⟨_, h2⟩ | ⟨g, cap, cur, he, h2, h3, _⟩
  · omega
  · cases he
    exact ⟨g, rfl, h2, (Array.getElem?_eq_some_iff.1 h3).1, hl⟩
theorem OwnW.at_ {w : World} {base : Nat} {A : Option Addr} {n c : Nat} {xs : List Nat} (h : OwnW w base (.slice A n c) xs) : kW.At w w.heap.size A n c xs := by
  obtain ⟨A', c', he, hat⟩ := h.reads
  cases he
  exact hat
theorem OwnW.far {w w' : World} {base g : Nat} {u : Value} {xs : List Nat} (h : OwnW w base u xs) (ho : Only g w w') (hg : g < base) : OwnW w' base u xs :=
  h.only ho (fun hb => by have := (h.row.lt g hb).1; omega)
theorem OwnEs.far {w w' : World} {base g : Nat} {v : Value} {es : List Ent} {us : List Value} (h : OwnEs w base v es us) (ho : Only g w w') (hg : g < base) : OwnEs w' base v es us :=
  ⟨h.len, h.row.kept ho (.inr (fun hb => by have := (h.row.lt g hb).1; omega)), fun i e u he hu => ⟨(h.val i e u he hu).1.far ho hg, (h.val i e u he hu).2⟩, h.lone⟩
theorem OwnEs.cells_ {w : World} {base g n c : Nat} {es : List Ent} {us : List Value} {j : Nat} {e : Ent} {u : Value} (h : OwnEs w base (.slice (some ⟨g, 0, none⟩) n c) es us) (he : es[j]? = some e) (hu : us[j]? = some u) :
    w.cell? ⟨g, j * 2, none⟩ = some (.int .u32 (e.key : Int)) ∧ w.cell? ⟨g, j * 2 + 1, none⟩ = some u := by
  obtain ⟨h0, h1⟩ := entCells_get he hu
  have a0 := h.row.cells (g := g) rfl _ _ h0
  have a1 := h.row.cells (g := g) rfl _ _ h1
  rw [add_lit0] at a0 a1
  exact ⟨a0, a1⟩
theorem OwnW.cells_ {w : World} {base : Nat} {u : Value} {xs : List Nat} {f x : Nat} (h : OwnW w base u xs) (hf : xs[f]? = some x) :
    ∃ g c, u = .slice (some ⟨g, 0, none⟩) xs.length c ∧ base ≤ g ∧ g < w.heap.size ∧ xs.length ≤ c ∧ w.cell? ⟨g, f, none⟩ = some (.int .u32 (x : Int)) ∧ ∀ i, w.frozen? ⟨g, i, none⟩ = false := by
  have hl := (List.getElem?_eq_some_iff.1 hf).1
  rcases h.row.2 with ⟨_, h2⟩ | ⟨g, cap, cur, rfl, h2, h3, h4, h5, h6, h7⟩
  · omega
  · refine ⟨g, cap, rfl, h2, (Array.getElem?_eq_some_iff.1 h3).1, h4, ?_, fun i => frozen_of_row w g i cur _ h3⟩
    have := h.row.cells (g := g) rfl f _ (u32s_get hf)
    rwa [add_lit0] at this
theorem entCells_same_key : ∀ {es : List Ent} {us : List Value} {j : Nat} {e e' : Ent}, es[j]? = some e → e'.key = e.key → entCells (es.set j e') us = entCells es us
  | [], _, _, _, _, h, _ => by simp at h
  | _ :: _, [], j, _, _, _, _ => by cases j <;> simp [entCells]
  | x :: es, y :: us, 0, e, e', h, hk => by
    simp at h
    subst h
    simp [entCells, hk]
  | x :: es, y :: us, j + 1, e, e', h, hk => by
    simp only [List.set_cons_succ, entCells]
    rw [entCells_same_key (by simpa using h) hk]
theorem OwnEs.setWord {w : World} {base gu m cu j f x : Nat} {v : Value} {es : List Ent} {us : List Value} {e : Ent} (h : OwnEs w base v es us) (he : es[j]? = some e) (hu : us[j]? = some (.slice (some ⟨gu, 0, none⟩) m cu)) (hx : x < 4294967296) :
    OwnEs (w.setCell ⟨gu, f, none⟩ (.int .u32 (x : Int))) base v (es.set j { e with v := e.v.set f x }) us := by
  have hj := (List.getElem?_eq_some_iff.1 he).1
  obtain ⟨hval, hkey⟩ := h.val j e _ he hu
  have hne := hval.not_row' h.row
  refine ⟨by rw [List.length_set]; exact h.len, ?_, fun i e' u' he' hu' => ?_, h.lone⟩
  · rw [List.length_set, entCells_same_key (e' := { e with v := e.v.set f x }) he rfl]
    exact h.row.kept (Only.setCell w gu f _) (.inr hne)
  · by_cases hij : j = i
    · subst hij
      rw [List.getElem?_set_self hj] at he'
      cases he'
      rw [hu] at hu'
      cases hu'
      have hm : e.v.length = m := by
        have := hval.at_.len
        exact this
      have hr := hval.row
      rw [hm] at hr
      refine ⟨⟨?_, ?_⟩, hkey⟩
      · have hs := (hr.stored f (.int .u32 (x : Int))).1
        simp only [List.length_set, hm]
        have e1 : u32s (e.v.set f x) = (u32s e.v).set f (.int .u32 (x : Int)) := by simp [u32s, List.map_set]
        rw [e1]
        exact hs
      · intro y hy
        rcases List.mem_or_eq_of_mem_set hy with hy | rfl
        · exact hval.lt y hy
        · exact hx
    · rw [List.getElem?_set_ne hij] at he'
      obtain ⟨h1, h2⟩ := h.val i e' u' he' hu'
      exact ⟨h1.only (Only.setCell w gu f _) (h.lone j i _ u' gu hij hu hu' rfl), h2⟩
theorem OwnW.ne_blk {w : World} {base gu m cu b : Nat} {xs : List Nat} {t : TypeId} {cs : Array Value} (h : OwnW w base (.slice (some ⟨gu, 0, none⟩) m cu) xs) (hb : Blk w b t cs) (ht : t ≠ 25) : gu ≠ b := by
  rintro rfl
  rcases h.row.2 with ⟨h1, _⟩ | ⟨g', cap, cur, he, _, hg', _⟩
  · cases h1
  · cases he
    unfold Blk at hb
    rw [hg'] at hb
    cases hb
    exact ht rfl
theorem OwnEs.nil_ (w : World) (base : Nat) : OwnEs w base (.slice none 0 0) [] [] :=
  ⟨rfl, World.ownsRow_nil w base _ 2, fun i e u he _ => by simp at he, fun i j u v b _ hu _ _ => by simp at hu⟩
theorem OwnW.made {w : World} {base g m : Nat} (h : Blk w g 25 (madeCells #[.int .u32 0] m)) (hb : base ≤ g) (hm : m ≤ maxLen) : OwnW w base (.slice (some ⟨g, 0, none⟩) m m) (List.replicate m 0) := by
  refine ⟨⟨by simp [u32s_length], .inr ⟨g, m, _, by simp, hb, h, by simp, hm, by simp [size_madeCells], ?_⟩⟩, fun x hx => by simp at hx; omega⟩
  have := toList_madeCells_one (.int .u32 0) m
  rw [this]
  simp [u32s]
theorem row_ne_box {w : World} {base b size n : Nat} {e t : TypeId} {v : Value} {xs : List Value} {cs : Array Value} (h : w.ownsRow base e size v n xs) (hb : Blk w b t cs) (ht : t ≠ e) : v.ownBlock ≠ some b := by
  intro hv
  rcases h.2 with ⟨rfl, _⟩ | ⟨g', cap, cur, rfl, _, hg', _⟩
  · simp [Value.ownBlock] at hv
  · simp only [Value.ownBlock, Option.some.injEq] at hv
    subst hv
    unfold Blk at hb
    rw [hg'] at hb
    cases hb
    exact ht rfl
theorem OwnEs.box {w w' : World} {base b : Nat} {t : TypeId} {cs : Array Value} {v : Value} {es : List Ent} {us : List Value} (h : OwnEs w base v es us) (hb : Blk w b t cs) (ho : Only b w w') (h1 : t ≠ 41) (h2 : t ≠ 25) : OwnEs w' base v es us :=
  ⟨h.len, h.row.kept ho (.inr (row_ne_box h.row hb h1)), fun i e u he hu => ⟨(h.val i e u he hu).1.only ho (row_ne_box (h.val i e u he hu).1.row hb h2), (h.val i e u he hu).2⟩, h.lone⟩
theorem OwnEs.ne_box {w : World} {base b g n c : Nat} {t : TypeId} {cs : Array Value} {es : List Ent} {us : List Value} (h : OwnEs w base (.slice (some ⟨g, 0, none⟩) n c) es us) (hb : Blk w b t cs) (h1 : t ≠ 41) : g ≠ b := fun e => row_ne_box h.row hb h1 (by rw [e]; rfl)
def okEs (es : List Ent) : Prop := ∀ e ∈ es, e.key < 4294967296 ∧ lt32 e.v
theorem dat_kW {w : World} {ok : Nat → Prop} (hok : ∀ b, ok b → b < w.heap.size) {f : Bool} {xs : List Nat} {v : Value} (h : Dat w ok (.sl f (xs.map encW)) v) (hl : lt32 xs) : ∃ A c, v = .slice A xs.length c ∧ kW.At w w.heap.size A xs.length c xs := by
  cases h with
  | sl _ _ A c sz vals hc hm ht hsz hA hcell hd =>
    rw [List.length_map] at hc
    refine ⟨A, c, by rw [List.length_map], rfl, hc, hm, fun i x hx => ?_⟩
    have hx' : (xs.map encW)[i]? = some (encW x) := by rw [List.getElem?_map, hx]; rfl
    have h1 : 1 = sz := hsz i _ hx'
    subst h1
    obtain ⟨a, rfl, ha⟩ := hA i _ hx'
    refine ⟨a, [.int .u32 (x : Int)], rfl, hok _ ha, ?_, rfl, hl x (List.mem_of_getElem? hx)⟩
    intro j u hu
    cases j with
    | zero =>
      simp only [List.getElem?_cons_zero, Option.some.injEq] at hu
      subst hu
      have h2 := (hcell i 0 _ a hx' (by omega) rfl).1
      have h3 := hd i 0 _ _ hx' rfl
      generalize vals i 0 = q at h2 h3
      cases h3
      exact h2
    | succ j => simp at hu
theorem dat_kEnt {w : World} {ok : Nat → Prop} (hok : ∀ b, ok b → b < w.heap.size) {f : Bool} {es : List Ent} {v : Value} (h : Dat w ok (.sl f (es.map encEnt)) v) (hl : okEs es) : ∃ A c, v = .slice A es.length c ∧ kEnt.At w w.heap.size A es.length c es := by
  cases h with
  | sl _ _ A c sz vals hc hm ht hsz hA hcell hd =>
    rw [List.length_map] at hc
    refine ⟨A, c, by rw [List.length_map], rfl, hc, hm, fun i x hx => ?_⟩
    have hx' : (es.map encEnt)[i]? = some (encEnt x) := by rw [List.getElem?_map, hx]; rfl
    have h1 : 2 = sz := hsz i _ hx'
    subst h1
    obtain ⟨a, rfl, ha⟩ := hA i _ hx'
    have hm := hl x (List.mem_of_getElem? hx)
    obtain ⟨A', c', e1, e2⟩ := dat_kW hok (hd i 1 _ _ hx' rfl) hm.2
    refine ⟨a, [.int .u32 (x.key : Int), .slice A' x.v.length c'], rfl, hok _ ha, ?_, A', _, c', rfl, hm.1, e2⟩
    intro j u hu
    match j, hu with
    | 0, hu =>
      simp only [List.getElem?_cons_zero, Option.some.injEq] at hu
      subst hu
      have h2 := (hcell i 0 _ a hx' (by omega) rfl).1
      have h3 := hd i 0 _ _ hx' rfl
      generalize vals i 0 = q at h2 h3
      cases h3
      exact h2
    | 1, hu =>
      simp only [List.getElem?_cons_succ, List.getElem?_cons_zero, Option.some.injEq] at hu
      subst hu
      have h2 := (hcell i 1 _ a hx' (by omega) rfl).1
      rw [e1] at h2
      exact h2
    | j + 2, hu => simp at hu
theorem ownW_dat {w : World} {base : Nat} {ok : Nat → Prop} {u : Value} {xs : List Nat} (h : OwnW w base u xs) (hok : ∀ b, u.ownBlock = some b → base ≤ b → b < w.heap.size → ok b) : Dat w ok (.sl false (xs.map encW)) u := by
  rcases h.row.2 with ⟨rfl, h2⟩ | ⟨g, cap, cur, rfl, h2, h3, h4, h5, h6, h7⟩
  · have : xs = [] := List.length_eq_zero_iff.1 h2
    subst this
    exact .nil _ _
  · have hg := (Array.getElem?_eq_some_iff.1 h3).1
    have hlen : (xs.map encW).length = xs.length := List.length_map _
    have key := Dat.sl (w := w) (ok := ok) false (xs.map encW) (some ⟨g, 0, none⟩) cap 1 (fun i j => .int .u32 (((xs[i]?).getD 0 : Nat) : Int)) (by rw [hlen]; exact h4) h5 (by intro h; cases h) ?_ ?_ ?_ ?_
    · rw [hlen] at key
      exact key
    · intro i cs hi
      rw [List.getElem?_map] at hi
      obtain ⟨x, _, rfl⟩ := Option.map_eq_some_iff.1 hi
      rfl
    · intro i cs hi
      exact ⟨_, rfl, hok g rfl h2 hg⟩
    · intro i j cs a hi hj ha
      injection ha with ha
      subst ha
      rw [List.getElem?_map] at hi
      obtain ⟨x, hx, rfl⟩ := Option.map_eq_some_iff.1 hi
      have : j = 0 := by omega
      subst this
      obtain ⟨g', c', e1, _, _, _, e2, _⟩ := h.cells_ hx
      injection e1 with e1
      injection e1 with e1
      injection e1 with e1
      subst e1
      rw [add_lit0, Nat.mul_one, Nat.add_zero, hx]
      exact ⟨e2, rfl⟩
    · intro i j cs u hi hu
      rw [List.getElem?_map] at hi
      obtain ⟨x, hx, rfl⟩ := Option.map_eq_some_iff.1 hi
      match j, hu with
      | 0, hu =>
        simp only [encW, List.getElem?_cons_zero, Option.some.injEq] at hu
        subst hu
        rw [hx]
        exact .raw _
      | j + 1, hu => simp [encW] at hu
theorem ownEs_dat {w : World} {base : Nat} {ok : Nat → Prop} {v : Value} {es : List Ent} {us : List Value} (h : OwnEs w base v es us) (hok : ∀ b, base ≤ b → b < w.heap.size → ok b) : Dat w ok (.sl false (es.map encEnt)) v := by
  rcases h.row.2 with ⟨rfl, h2⟩ | ⟨g, cap, cur, rfl, h2, h3, h4, h5, h6, h7⟩
  · have : es = [] := List.length_eq_zero_iff.1 h2
    subst this
    exact .nil _ _
  · have hg := (Array.getElem?_eq_some_iff.1 h3).1
    have hlen : (es.map encEnt).length = es.length := List.length_map _
    have hus : ∀ i x, es[i]? = some x → ∃ u, us[i]? = some u := fun i x hx => by
      have := (List.getElem?_eq_some_iff.1 hx).1
      exact ⟨_, List.getElem?_eq_getElem (by rw [h.len]; exact this)⟩
    have key := Dat.sl (w := w) (ok := ok) false (es.map encEnt) (some ⟨g, 0, none⟩) cap 2 (fun i j => if j = 0 then .int .u32 ((((es[i]?).map Ent.key).getD 0 : Nat) : Int) else (us[i]?).getD undef) (by rw [hlen]; exact h4) h5 (by intro h; cases h) ?_ ?_ ?_ ?_
    · rw [hlen] at key
      exact key
    · intro i cs hi
      rw [List.getElem?_map] at hi
      obtain ⟨x, _, rfl⟩ := Option.map_eq_some_iff.1 hi
      rfl
    · intro i cs hi
      exact ⟨_, rfl, hok g h2 hg⟩
    · intro i j cs a hi hj ha
      injection ha with ha
      subst ha
      rw [List.getElem?_map] at hi
      obtain ⟨x, hx, rfl⟩ := Option.map_eq_some_iff.1 hi
      obtain ⟨u, hu⟩ := hus i x hx
      obtain ⟨c0, c1⟩ := h.cells_ hx hu
      have hj2 : j = 0 ∨ j = 1 := by omega
      rcases hj2 with rfl | rfl
      · rw [add_lit0, Nat.add_zero, hx]
        exact ⟨c0, rfl⟩
      · rw [add_lit0, hu]
        exact ⟨c1, (ownW_dat (h.val i x u hx hu).1 fun b _ => hok b).one⟩
    · intro i j cs u hi hu
      rw [List.getElem?_map] at hi
      obtain ⟨x, hx, rfl⟩ := Option.map_eq_some_iff.1 hi
      match j, hu with
      | 0, hu =>
        simp only [encEnt, List.getElem?_cons_zero, Option.some.injEq] at hu
        subst hu
        rw [hx]
        exact .raw _
      | 1, hu =>
        simp only [encEnt, List.getElem?_cons_succ, List.getElem?_cons_zero, Option.some.injEq] at hu
        subst hu
        obtain ⟨u, hu⟩ := hus i x hx
        rw [hu]
        exact ownW_dat (h.val i x u hx hu).1 fun b _ => hok b
      | j + 2, hu => simp [encEnt] at hu
def Cx.fresh (x : Cx) (w w' : World) : Cx := { x with ok := fun b => x.ok b ∨ (w.heap.size ≤ b ∧ b < w'.heap.size) }
theorem Stp.fresh {w w' : World} {x : Cx} (h : HRel w x []) (hb : Below w.heap.size w w') : Stp w x [] w' (x.fresh w w') [] := by
  refine ⟨⟨fun b hb => .inl hb, fun _ _ h => h, fun b hk => hb.block b (h.okb b hk), ?_, ?_, ?_⟩, ⟨hb.os, hb.tape, hb.output, hb.size, fun b hk _ => hb.block b hk, ?_, ?_⟩, ⟨?_, ?_, ?_, ?_, ?_, ?_, ?_⟩⟩
  · rintro id _ ⟨t, cs, h⟩; simp [look] at h
  · rintro id g sz _ ⟨t, cs, h⟩; simp [look] at h
  · rintro id _ ⟨t, cs, h⟩; simp [look] at h
  · rintro b (h | h)
    · exact .inl h
    · exact .inr (.inl h.1)
  · intro id o b h; simp [look] at h
  · rintro b (h1 | h1)
    · exact Nat.lt_of_lt_of_le (h.okb b h1) hb.size
    · exact h1.2
  all_goals intros; simp_all [look]
theorem Ctr.old {P : Program} {f : FuncId} {args : List AV} {r : AV} (hcall : ∀ vals w, (callFunc f vals).run P w = .ok (.enter f vals) w)
    (h : ∀ (w : World) (x : Cx) (vals : Array Value), HRel w x [] → vals.size = args.length → (∀ (i : Nat) (u : AV), args[i]? = some u → VRel w x [] u (vals.getD i undef)) →
      Calls P f vals w fun e w' => ∃ v, e = .returned v ∧ Below w.heap.size w w' ∧ VRel w' (x.fresh w w') [] r v) : Ctr P f args [] r [] :=
  ⟨hcall, fun w x vals hH hdom hsz hargs => Calls.mono (h w x vals hH hsz hargs) fun e w' ⟨v, he, hb, hv⟩ => ⟨v, x.fresh w w', he, Stp.fresh hH hb, hv, fun id g hd => .inr (hdom id g hd)⟩⟩
theorem fresh_ok {x : Cx} {w w' : World} : ∀ b, w.heap.size ≤ b → b < w'.heap.size → (x.fresh w w').ok b := fun b h1 h2 => .inr ⟨h1, h2⟩
theorem VRel.rawInv {w : World} {x : Cx} {hp : Hp} {v u : Value} (h : VRel w x hp (.raw v) u) : u = v := h.rawEq
theorem VRel.slInv {w : World} {x : Cx} {hp : Hp} {f : Bool} {els : List (List AV)} {u : Value} (h : VRel w x hp (.sl f els) u) : Dat w x.ok (.sl f els) u := by cases h with | dat h => exact h
theorem VRel.aggInv {w : World} {x : Cx} {hp : Hp} {cs : List AV} {u : Value} (h : VRel w x hp (.agg cs) u) : ∃ vs : Array Value, u = .agg vs ∧ vs.size = cs.length ∧ ∀ (i : Nat) (c : AV), cs[i]? = some c → VRel w x hp c (vs.getD i undef) := by
  cases h with
  | dat h => cases h
  | agg _ vs hl h1 h => exact ⟨vs, rfl, hl, h⟩
theorem arr_eq {vs us : Array Value} (hl : vs.size = us.size) (h : ∀ i, i < us.size → vs.getD i undef = us.getD i undef) : vs = us := by
  refine Array.ext hl fun i h1 h2 => ?_
  have := h i h2
  simpa [Array.getD, h1, h2] using this
theorem avTab_inv {w : World} {x : Cx} {hp : Hp} {f : Bool} {t : Tab} {u : Value} (hok : ∀ b, x.ok b → b < w.heap.size) (h : VRel w x hp (avTab f t) u) (hl : okEs t.e) : ∃ A c, u = tabV t.s A t.e.length c t.next ∧ kEnt.At w w.heap.size A t.e.length c t.e := by
  obtain ⟨vs, rfl, hs, hv⟩ := h.aggInv
  obtain ⟨A, c, e1, e2⟩ := dat_kEnt hok (hv 4 _ rfl).slInv hl
  refine ⟨A, c, ?_, e2⟩
  refine congrArg Value.agg (arr_eq hs fun i hi => ?_)
  have hi : i < 6 := hi
  match i, hi with
  | 0, _ => exact (hv 0 _ rfl).rawEq
  | 1, _ => exact (hv 1 _ rfl).rawEq
  | 2, _ => exact (hv 2 _ rfl).rawEq
  | 3, _ => exact (hv 3 _ rfl).rawEq
  | 4, _ => exact e1
  | 5, _ => exact (hv 5 _ rfl).rawEq
theorem avSch_inv {w : World} {x : Cx} {hp : Hp} {s : Sch} {u : Value} (h : VRel w x hp (avSch s) u) : u = .agg #[.int .i64 s.kind, .int .i64 s.cap, .int .i64 s.words, .int .i64 s.ver] := by
  obtain ⟨vs, rfl, hs, hv⟩ := h.aggInv
  refine congrArg Value.agg (arr_eq hs fun i hi => ?_)
  have hi : i < 4 := hi
  match i, hi with
  | 0, _ => exact (hv 0 _ rfl).rawEq
  | 1, _ => exact (hv 1 _ rfl).rawEq
  | 2, _ => exact (hv 2 _ rfl).rawEq
  | 3, _ => exact (hv 3 _ rfl).rawEq
theorem avTab_of {w : World} {x : Cx} {hp : Hp} {f : Bool} {t : Tab} {A : Option Addr} {n c : Nat} (h : Dat w x.ok (.sl f (t.e.map encEnt)) (.slice A n c)) : VRel w x hp (avTab f t) (tabV t.s A n c t.next) := by
  refine .agg _ _ rfl ?_ ?_
  · intro i hi
    have hi : i < 6 := hi
    match i, hi with
    | 0, _ => rfl
    | 1, _ => rfl
    | 2, _ => rfl
    | 3, _ => rfl
    | 4, _ => rfl
    | 5, _ => rfl
  · intro i u hu
    match i, hu with
    | 0, hu => cases hu; exact .raw _
    | 1, hu => cases hu; exact .raw _
    | 2, hu => cases hu; exact .raw _
    | 3, hu => cases hu; exact .raw _
    | 4, hu => cases hu; exact .dat h
    | 5, hu => cases hu; exact .raw _
    | i + 6, hu => simp [cellsTab] at hu
structure OwnRel (g b0 : Nat) (es : List Ent) (vs : List Value) (k : Nat) (us : List Value) (wr : World) : Prop where
  len : us.length = es.length
  rest : ∀ i, k ≤ i → us[i]? = vs[i]?
  blk : Blk wr g 41 (entCells es us).toArray
  own : ∀ (i : Nat) (e : Ent) (u : Value), i < k → es[i]? = some e → us[i]? = some u → OwnW wr b0 u e.v
  lone : ∀ (i j : Nat) (u v : Value) (b : Nat), i < k → j < k → i ≠ j → us[i]? = some u → us[j]? = some v → u.ownBlock = some b → v.ownBlock ≠ some b
theorem OwnRel.step {g b0 gv : Nat} {es : List Ent} {vs us : List Value} {k : Nat} {e : Ent} {wr w' : World} (h : OwnRel g b0 es vs k us wr) (he : es[k]? = some e) (hw : ∀ i, i < wr.heap.size → i ≠ g → w'.heap[i]? = wr.heap[i]?)
    (hos : w'.os = wr.os) (htape : w'.tape = wr.tape) (hout : w'.output = wr.output) (hsize : wr.heap.size ≤ w'.heap.size) (hgv : gv = wr.heap.size) (hb0 : b0 ≤ gv)
    (hg : Blk w' g 41 ((entCells es us).set (k * 2 + 1) (.slice (some ⟨gv, 0, none⟩) e.v.length e.v.length)).toArray) (hv : Blk w' gv 25 (u32s e.v).toArray) (hlt : lt32 e.v) (hm : e.v.length ≤ maxLen) :
    OwnRel g b0 es vs (k + 1) (us.set k (.slice (some ⟨gv, 0, none⟩) e.v.length e.v.length)) w' := by
  have hgr : wr.grownBy w' (some g) := ⟨hos, htape, hout, hsize, fun i hi hn => hw i hi (fun e => hn (by rw [e]))⟩
  have hku : k < us.length := by rw [h.len]; exact (List.getElem?_eq_some_iff.1 he).1
  refine ⟨by simp [h.len], fun i hi => ?_, by rw [entCells_set] at hg; exact hg, fun i e' u hi he' hu => ?_, fun i j u v b hi hj hij hu hv' hb => ?_⟩
  · rw [List.getElem?_set_ne (by omega)]
    exact h.rest i (by omega)
  · rcases Nat.lt_or_ge i k with hik | hik
    · rw [List.getElem?_set_ne (by omega)] at hu
      have ho := h.own i e' u hik he' hu
      refine ho.only hgr ?_
      intro hb
      rcases ho.row.2 with ⟨rfl, _⟩ | ⟨g', cap, cur, rfl, _, hg', _⟩
      · simp [Value.ownBlock] at hb
      · simp only [Value.ownBlock, Option.some.injEq] at hb
        subst hb
        have := h.blk
        unfold Blk at this
        rw [hg'] at this
        simp at this
    · obtain rfl : i = k := by omega
      rw [he] at he'
      cases he'
      rw [List.getElem?_set_self hku] at hu
      cases hu
      refine ⟨⟨by simp [u32s_length], .inr ⟨gv, _, _, rfl, hb0, hv, Nat.le_refl _, hm, by simp [u32s_length], ?_⟩⟩, hlt⟩
      rw [List.toList_toArray, List.take_of_length_le (by simp [u32s_length])]
  · have old : ∀ (i : Nat) (u : Value) (b : Nat), i < k → us[i]? = some u → u.ownBlock = some b → b < gv := by
      intro i u b hi hu hb
      have hil : i < es.length := by rw [← h.len]; exact (List.getElem?_eq_some_iff.1 hu).1
      have := (h.own i _ u hi (List.getElem?_eq_getElem hil) hu).row.lt b hb
      omega
    rcases Nat.lt_or_ge i k with hik | hik
    · rw [List.getElem?_set_ne (by omega)] at hu
      rcases Nat.lt_or_ge j k with hjk | hjk
      · rw [List.getElem?_set_ne (by omega)] at hv'
        exact h.lone i j u v b hik hjk hij hu hv' hb
      · obtain rfl : j = k := by omega
        rw [List.getElem?_set_self hku] at hv'
        cases hv'
        have := old i u b hik hu hb
        simp only [Value.ownBlock, ne_eq, Option.some.injEq]
        omega
    · obtain rfl : i = k := by omega
      rw [List.getElem?_set_self hku] at hu
      cases hu
      simp only [Value.ownBlock, Option.some.injEq] at hb
      subst hb
      rw [List.getElem?_set_ne (by omega)] at hv'
      intro hvb
      have := old j v _ (by omega) hv' hvb
      omega
set_option maxRecDepth 100000 in
set_option maxHeartbeats 2000000 in
theorem own_any (s : Sch) (A : Option Addr) (n c nx : Nat) (es : List Ent) (w : World) (hf : fits es) (hE : kEnt.At w w.heap.size A n c es) :
    Calls prog 52 #[tabV s A n c nx] w fun e w' => ∃ A' us, e = .returned (tabV s A' n n nx) ∧ OwnEs w' w.heap.size (.slice A' n n) es us ∧ Below w.heap.size w w' := by
  have hn := hE.nle
  have hl := Lib.hid hE.len
  have hn2 : n ≤ 1048576 := by have := hf.1; rw [hE.len] at this; exact this
  obtain ⟨vs, hvl, hvs, hsrc⟩ := kEnt.cells hE
  replace hvl := Lib.hid hvl
  replace hvs := Lib.hid hvs
  replace hsrc := Lib.hid hsrc
  unfold tabV
  obtain ⟨W1, hW1, hB1, hS1, hG1, hO1, hP1⟩ := boxedB w _ rfl #[.int .i64 s.kind, .int .i64 s.cap, .int .i64 s.words, .int .i64 s.ver, .slice A n c, .int .u32 (nx : Int)] 27
  obtain ⟨W2, hW2, hB2, hS2, hG2, hO2, hP2⟩ := boxedB W1 _ hS1 #[.int .i64 0, .int .i64 0, .int .i64 0, .int .i64 0, .slice none 0 0, .int .u32 0] 27
  have hmk := run_makeN (P := prog) 24 41 _ 2 32 underlying24 info_ent n (by omega) (by omega)
  obtain ⟨W3, hW3, hB3, hS3, hG3, hO3, hP3⟩ := boxedB W2 _ hS2 (madeCells #[.int .u32 0, .slice none 0 0] (n * 2)) 41
  have hC1 := hG1.cell
  have hC1' := boxAt (hB2.trans (hB3.mono (Nat.le_succ _))) (Nat.lt_succ_self _) hC1
  have hB := hB1.trans ((hB2.trans (hB3.mono (Nat.le_succ _))).mono (Nat.le_succ _))
  obtain ⟨ie, hie, _, hsz, _⟩ := info_parts info_ent
  obtain ⟨iw, hiw, _, hsw, _⟩ := info_parts info_u32
  have hcl : (entCells es vs).length = n * 2 := by rw [entCells_length (by rw [hvl.out, hl.out]), hl.out]
  replace hcl := Lib.hid hcl
  have hG3' : Blk W3 (w.heap.size + 1 + 1) 41 (madeCells #[.int .u32 0, .slice none 0 0] (n * 2)).toList.toArray := by simpa using hG3
  have hone : ∀ v ∈ entCells es vs, v.oneCell' = true := entCells_one (fun u hu => by
    obtain ⟨i, hi⟩ := List.mem_iff_getElem?.1 hu
    have hil : i < es.length := by rw [hl.out, ← hvl.out]; exact (List.getElem?_eq_some_iff.1 hi).1
    obtain ⟨_, A', m, d, rfl, _⟩ := hvs.out i _ u (List.getElem?_eq_getElem hil) hi
    rfl)
  replace hone := Lib.hid hone
  have hcn : (entCells es vs).length = Nat.min n n * 2 := by rw [hcl.out]; simp
  replace hcn := Lib.hid hcn
  have hpos : 0 < (entCells es vs).length → some (⟨w.heap.size + 1 + 1, 0, none⟩ : Addr) = some ⟨w.heap.size + 1 + 1, 0, none⟩ ∧ ∃ ad, A = some ad ∧ ∀ (j : Nat) (u : Value), (entCells es vs)[j]? = some u → W3.cell? (ad.add j) = some u := by
    intro hp
    obtain ⟨ad, rfl, hadB, hcs⟩ := hsrc.out (by rw [hcl.out] at hp; omega)
    exact ⟨rfl, ad, rfl, fun j u hu => (hB.cell (by rw [add_block]; exact hadB)).trans (hcs j u hu)⟩
  replace hpos := Lib.hid hpos
  have hfit : 0 + (entCells es vs).length ≤ (madeCells #[.int .u32 0, .slice none 0 0] (n * 2)).toList.length := by rw [hcl.out]; simp [size_madeCells]
  replace hfit := Lib.hid hfit
  have hspl : splice (madeCells #[.int .u32 0, .slice none 0 0] (n * 2)).toList 0 (entCells es vs) = entCells es vs := by
    unfold splice
    rw [List.take_zero, List.nil_append, List.drop_eq_nil_of_le (by rw [Nat.zero_add, hcl.out]; simp [size_madeCells]), List.append_nil]
  replace hspl := Lib.hid hspl
  go_enter func52, ntmps52
  go_wp2_with (refine wpList_copyS (o := ⟨some 12, _, _, _, _, _⟩) rfl _ _ _ _ rfl 41 ie 2 underlying24 hie hsz (by omega) _ _ _ _ _ _ rfl rfl (w.heap.size + 1 + 1) 0 _ 41 hG3' (entCells es vs) hcn.out hpos.out hfit.out hone.out ?_)
  intro w4 hG4 ho4 hs4
  rw [hspl.out] at hG4
  have hs4 : w4.heap.size = w.heap.size + 1 + 1 + 1 := by first | exact hs4 | exact hs4.trans hS3
  have hB4 : Below (w.heap.size + 1 + 1) W2 w4 := Only.below hB3 ho4 (Nat.le_refl _) (by omega)
  have hC4 := boxAt hB4 (by omega) (boxAt hB2 (Nat.lt_succ_self _) hC1)
  have hb4 := hB1.trans ((hB2.trans (hB4.mono (Nat.le_succ _))).mono (Nat.le_succ _))
  clear hpos hfit hcn hmk hW3
  go_wp2_with fail
  go_loopw [15] (fun i wr => ∃ k : Nat, k ≤ n ∧ i = .int .i64 k ∧ Below (w.heap.size + 1 + 1) W2 wr ∧ w.heap.size + 1 + 1 < wr.heap.size ∧ ∃ us, OwnRel (w.heap.size + 1 + 1) (w.heap.size + 1 + 1) es vs k us wr) (fun i _ => n - (intOf i).toNat)
  case atStart =>
    refine ⟨0, Nat.zero_le _, rfl, hB4, by omega, vs, by rw [hvl.out, hl.out], fun _ _ => rfl, hG4, fun i e u h => absurd h (by omega), fun i j u v b h => absurd h (by omega)⟩
  case round =>
    obtain ⟨k, hk, rfl, hbr, hgr, us, hrel⟩ := hrel
    have hul := Lib.hid hrel.len
    have hCr := boxAt hbr (by omega) (boxAt hB2 (Nat.lt_succ_self _) hC1)
    have hwr := hB1.trans ((hB2.trans (hbr.mono (Nat.le_succ _))).mono (Nat.le_succ _))
    replace hrel := Lib.hid hrel
    by_cases hlt : k < n
    · obtain ⟨e, ad, D, m, d, he, rfl, hadB, hk0, hk1, hkey, hv⟩ := kEnt.get (hE.below hwr) hlt
      have hm2 : m ≤ 1048576 := by have := hf.2 e (List.mem_of_getElem? he); rw [hv.len] at this; exact this
      replace he := Lib.hid he
      have hki : (k : Int) < (n : Int) := by omega
      have hmk := run_makeN (P := prog) 39 25 _ 1 4 underlying39 info_u32 m (by omega) (by omega)
      have hvl2 := Lib.hid hv.len
      have hvn : (u32s e.v).length = Nat.min m m * 1 := by rw [u32s_length, hv.len]; simp
      replace hvn := Lib.hid hvn
      have hvfit : 0 + (u32s e.v).length ≤ (madeCells #[.int .u32 0] m).toList.length := by rw [u32s_length, hv.len]; simp [size_madeCells]
      replace hvfit := Lib.hid hvfit
      have hvspl : splice (madeCells #[.int .u32 0] m).toList 0 (u32s e.v) = u32s e.v := by
        unfold splice
        rw [List.take_zero, List.nil_append, List.drop_eq_nil_of_le (by rw [Nat.zero_add, u32s_length, hv.len]; simp [size_madeCells]), List.append_nil]
      replace hvspl := Lib.hid hvspl
      have hlt32 : lt32 e.v := fun x hx => by
        obtain ⟨i, hi⟩ := List.mem_iff_getElem?.1 hx
        obtain ⟨_, _, _, _, _, hk⟩ := hv.el i x hi
        exact hk.2
      have hgr2 : ¬ wr.heap.size = w.heap.size + 1 + 1 := by omega
      obtain ⟨vk, hvk⟩ : ∃ vk, us[k]? = some vk := ⟨_, List.getElem?_eq_getElem (by rw [hul.out, hl.out]; exact hlt)⟩
      have hgc : wr.cell? ⟨w.heap.size + 1 + 1, k * 2 + 1, none⟩ = some vk := by rw [hrel.out.blk.cell]; simpa using (entCells_get he.out hvk).2
      clear hvk
      have hgf : ∀ i, wr.frozen? ⟨w.heap.size + 1 + 1, i, none⟩ = false := hrel.out.blk.frozen
      obtain ⟨W5, hW5, hB5, hS5, hG5, hO5, hP5⟩ := boxedB wr _ rfl (madeCells #[.int .u32 0] m) 25
      have hG5g := hrel.out.blk.below hB5 hgr
      obtain ⟨W6, hW6, ho6, hs6, hG6, hO6, hP6⟩ := storedB hG5g (k * 2 + 1) (.slice (some ⟨wr.heap.size, 0, none⟩) m m)
      have hgc5 : W5.cell? ⟨w.heap.size + 1 + 1, k * 2 + 1, none⟩ = some vk := (hO5 _ _ hgr).trans hgc
      have hgf5 : ∀ i, W5.frozen? ⟨w.heap.size + 1 + 1, i, none⟩ = false := fun i => (hP5 _ i hgr).trans (hgf i)
      have hwlt : w.heap.size < wr.heap.size := by omega
      have hk16 : W6.cell? ⟨(ad.add (k * 2)).block, (ad.add (k * 2)).off + 1, none⟩ = some (.slice D m d) := ho6.cell ((hB5.cell (by show (ad.add (k * 2)).block < _; rw [add_block]; omega)).trans hk1) (by show (ad.add (k * 2)).block ≠ _; rw [add_block]; omega)
      have hgc6 : W6.cell? ⟨w.heap.size + 1 + 1, k * 2 + 1, none⟩ = some (.slice (some ⟨wr.heap.size, 0, none⟩) m m) := by
        rw [hG6.cell]
        have : k * 2 + 1 < (entCells es us).length := by rw [entCells_length (by rw [hul.out]), hl.out]; omega
        simp [this]
      have hGv : Blk W6 wr.heap.size 25 (madeCells #[.int .u32 0] m).toList.toArray := by simpa using hG5.grown ho6 (by simp; omega)
      have hC6 : ∀ i, W6.cell? ⟨w.heap.size, i, none⟩ = #[.int .i64 s.kind, .int .i64 s.cap, .int .i64 s.words, .int .i64 s.ver, .slice (some ad) n c, .int .u32 (nx : Int)][i]? := fun i => ((hO6 _ i (by omega)).trans (hO5 _ i hwlt)).trans (hCr i)
      clear hO6 hO5
      have hvpos : 0 < (u32s e.v).length → some (⟨wr.heap.size, 0, none⟩ : Addr) = some ⟨wr.heap.size, 0, none⟩ ∧ ∃ ad, D = some ad ∧ ∀ (j : Nat) (u : Value), (u32s e.v)[j]? = some u → W6.drew.cell? (ad.add j) = some u := by
        intro hp
        rw [u32s_length, hv.len] at hp
        obtain ⟨x0, ad2, _, rfl, hb2, _⟩ := kW.get hv hp
        refine ⟨rfl, ad2, rfl, fun j u hu => ?_⟩
        have hj : j < m := by rw [← hv.len, ← u32s_length]; exact (List.getElem?_eq_some_iff.1 hu).1
        obtain ⟨x, ad3, hx, had, hb3, hc3, _⟩ := kW.get hv hj
        injection had with had
        subst had
        rw [u32s_get hx] at hu
        cases hu
        exact ho6.cell ((hB5.cell (by rw [add_block]; omega)).trans hc3) (by rw [add_block]; omega)
      replace hvpos := Lib.hid hvpos
      go_wp2_with fail
      go_still_tail 11, (by kernel_rfl)
      change wpList _ _ _ _ _ W6.drew
      refine wpList_copyS rfl _ _ _ _ rfl 25 iw 1 underlying39 hiw hsw (by omega) _ _ _ _ _ _ rfl rfl wr.heap.size 0 _ 25 (show Blk W6.drew _ _ _ from hGv) (u32s e.v) hvn.out (fun hp => ⟨rfl, (hvpos.out hp).2⟩) hvfit.out (u32s_one _) ?_
      intro w7 hG7 ho7 hs7
      rw [hvspl.out] at hG7
      have hob : ∀ i, i < wr.heap.size → i ≠ w.heap.size + 1 + 1 → w7.heap[i]? = wr.heap[i]? := by
        intro i hi hne
        have a1 := ho7.block i (by show i < W6.heap.size; omega) (by simp; omega)
        have a2 := ho6.block i (by omega) (by simp; omega)
        exact a1.trans (a2.trans (hB5.block i hi))
      have hG7g : Blk w7 (w.heap.size + 1 + 1) 41 ((entCells es us).set (k * 2 + 1) (.slice (some ⟨wr.heap.size, 0, none⟩) m m)).toArray := by
        have := Blk.grown (w := W6.drew) (show Blk W6.drew _ _ _ from hG6) ho7 (by simp; omega)
        simpa using this
      have hs76 : W6.drew.heap.size = W6.heap.size := rfl
      have hBr7 : Below (w.heap.size + 1 + 1) W2 w7 := Only.below (w := W6.drew) (Below.drew (Only.below (hbr.trans (hB5.mono (by omega))) ho6 (Nat.le_refl _) (by omega))) ho7 (by omega) (by omega)
      go_wp2_with fail
      refine ⟨⟨k + 1, by omega, by go_num, hBr7, by omega, _, hvl2.out ▸ hrel.out.step he.out hob (ho7.os.trans (ho6.os.trans hB5.os)) (ho7.tape.trans (ho6.tape.trans hB5.tape)) (ho7.output.trans (ho6.output.trans hB5.output)) (by omega) rfl (by omega) (by rw [hvl2.out]; exact hG7g) hG7 hlt32 (by rw [hvl2.out]; simp only [maxLen]; omega)⟩, by simp [intOf]; omega⟩
    · obtain rfl : k = n := by omega
      have hG1r := (hG1.below hB2 (Nat.lt_succ_self _)).below hbr (by omega)
      have hG2r := hG2.below hbr (Nat.lt_succ_self _)
      have hF1r := hG1r.frozen
      obtain ⟨W8, hW8, ho8, hs8, hG8, hO8, hP8⟩ := storedB hG1r 4 (.slice (some ⟨w.heap.size + 1 + 1, 0, none⟩) k k)
      have hG28 := hG2r.grown ho8 (by simp)
      have hC2r := hG28.cell
      have hF2r := hG28.frozen
      have hC18 := hG8.cell
      have hres := Lib.hid (hG28.setBox [.int .i64 s.kind, .int .i64 s.cap, .int .i64 s.words, .int .i64 s.ver, .slice (some ⟨w.heap.size + 1 + 1, 0, none⟩) k k, .int .u32 (nx : Int)] rfl)
      have ho9 := setAll_only (w.heap.size + 1) [.int .i64 s.kind, .int .i64 s.cap, .int .i64 s.words, .int .i64 s.ver, .slice (some ⟨w.heap.size + 1 + 1, 0, none⟩) k k, .int .u32 (nx : Int)] 0 W8
      have hb8 := Only.below hwr ho8 (Nat.le_refl _) (by omega)
      have hb9 := Only.below hb8 ho9 (by omega) (by omega)
      clear hO8 hP8
      go_wp2_with fail
      refine bodyPost_ret (results_c results52 rfl hres.out underlying27 rfl (by kernel_rfl)) rfl ?_
      refine ⟨some ⟨w.heap.size + 1 + 1, 0, none⟩, us, rfl, ?_, hb9⟩
      have hRel := hrel.out
      have hfar : ∀ g, g ≠ w.heap.size → g ≠ w.heap.size + 1 → g < wr.heap.size → (setAll W8 (w.heap.size + 1) 0 [.int .i64 s.kind, .int .i64 s.cap, .int .i64 s.words, .int .i64 s.ver, .slice (some ⟨w.heap.size + 1 + 1, 0, none⟩) k k, .int .u32 (nx : Int)]).heap[g]? = wr.heap[g]? := by
        intro g h1 h2 h3
        exact (ho9.block g (by omega) (by simp; omega)).trans (ho8.block g h3 (by simp; omega))
      have hgr9 := fun (g : Nat) (h1 : w.heap.size + 1 + 1 ≤ g) (h2 : g < wr.heap.size) => hfar g (by omega) (by omega) h2
      refine ⟨hRel.len, ⟨by rw [entCells_length hRel.len], .inr ⟨w.heap.size + 1 + 1, k, _, by rw [hl.out], by omega, (hgr9 _ (Nat.le_refl _) hgr).trans hRel.blk, by rw [hl.out]; exact Nat.le_refl _, by simp only [maxLen]; omega, by simp [entCells_length hRel.len, hl.out], ?_⟩⟩, fun i e u he hu => ?_, fun i j u v b hij hu hv hb => ?_⟩
      · rw [List.toList_toArray, List.take_of_length_le (by rw [entCells_length hRel.len]; exact Nat.le_refl _)]
      · have hi : i < k := by rw [← hl.out]; exact (List.getElem?_eq_some_iff.1 he).1
        refine ⟨?_, ?_⟩
        · have ho := hRel.own i e u hi he hu
          have hlt' := ho.row.lt
          refine OwnW.mono ⟨?_, ho.lt⟩ (show w.heap.size ≤ w.heap.size + 1 + 1 by omega)
          refine ⟨ho.row.1, ?_⟩
          rcases ho.row.2 with h1 | ⟨g, cap, cur, rfl, h2, h3, h4⟩
          · exact .inl h1
          · exact .inr ⟨g, cap, cur, rfl, h2, (hgr9 g h2 (Array.getElem?_eq_some_iff.1 h3).1).trans h3, h4⟩
        · obtain ⟨e', _, _, _, _, he', _, _, _, _, hk', _⟩ := kEnt.get hE hi
          rw [he] at he'
          cases he'
          exact hk'
      · have hi : i < k := by rw [← hl.out, ← hRel.len]; exact (List.getElem?_eq_some_iff.1 hu).1
        have hj : j < k := by rw [← hl.out, ← hRel.len]; exact (List.getElem?_eq_some_iff.1 hv).1
        exact hRel.lone i j u v b hi hj hij hu hv hb
def toLast {α : Type} (l : List α) (i : Nat) : List α := l.eraseIdx i ++ (l[i]?).toList
theorem toLast_length {α : Type} {l : List α} {i : Nat} (h : i < l.length) : (toLast l i).length = l.length := by
  unfold toLast
  rw [List.length_append, List.length_eraseIdx, if_pos h, List.getElem?_eq_getElem h]
  simp
  omega
theorem toLast_get {α : Type} {l : List α} {i : Nat} (h : i < l.length) (j : Nat) : (toLast l i)[j]? = if j < i then l[j]? else if j + 1 < l.length then l[j + 1]? else if j + 1 = l.length then l[i]? else none := by
  unfold toLast
  have hl : (l.eraseIdx i).length = l.length - 1 := by rw [List.length_eraseIdx, if_pos h]
  by_cases h1 : j < i
  · rw [if_pos h1, List.getElem?_append_left (by omega), List.getElem?_eraseIdx_of_lt h1]
  · rw [if_neg h1]
    by_cases h2 : j + 1 < l.length
    · rw [if_pos h2, List.getElem?_append_left (by omega), List.getElem?_eraseIdx_of_ge (by omega)]
    · rw [if_neg h2, List.getElem?_append_right (by omega), hl]
      by_cases h3 : j + 1 = l.length
      · rw [if_pos h3, show j - (l.length - 1) = 0 by omega, List.getElem?_eq_getElem h]
        rfl
      · rw [if_neg h3, List.getElem?_eq_getElem h]
        simp
        omega
theorem toLast_at {α : Type} {l : List α} {i j : Nat} {x : α} (h : i < l.length) (hx : (toLast l i)[j]? = some x) : ∃ m, l[m]? = some x ∧ m = (if j < i then j else if j + 1 < l.length then j + 1 else i) := by
  rw [toLast_get h] at hx
  split at hx
  · rename_i h1; exact ⟨j, hx, by rw [if_pos h1]⟩
  · rename_i h1
    split at hx
    · rename_i h2; exact ⟨j + 1, hx, by rw [if_neg h1, if_pos h2]⟩
    · rename_i h2
      split at hx
      · exact ⟨i, hx, by rw [if_neg h1, if_neg h2]⟩
      · cases hx
theorem toLast_lone {us : List Value} {i : Nat} (hi : i < us.length) (h : Lone us) : Lone (toLast us i) := by
  intro p q u v b hpq hu hv hb
  have hp := (List.getElem?_eq_some_iff.1 hu).1
  have hq := (List.getElem?_eq_some_iff.1 hv).1
  rw [toLast_length hi] at hp hq
  obtain ⟨m, hm, em⟩ := toLast_at hi hu
  obtain ⟨m', hm', em'⟩ := toLast_at hi hv
  refine h m m' u v b ?_ hm hm' hb
  split at em <;> (try split at em) <;> split at em' <;> (try split at em') <;> omega
def touch {α : Type} (kind : Int) (l : List α) (i : Nat) : List α := if kind = 2 then toLast l i else l
theorem touch_length {α : Type} {kind : Int} {l : List α} {i : Nat} (h : i < l.length) : (touch kind l i).length = l.length := by
  unfold touch
  split
  · exact toLast_length h
  · rfl
def tpos (kind : Int) (n i : Nat) : Nat := if kind = 2 then n - 1 else i
theorem tpos_lt {kind : Int} {n i : Nat} (h : i < n) : tpos kind n i < n := by unfold tpos; split <;> omega
theorem touch_get {α : Type} {kind : Int} {l : List α} {i : Nat} (h : i < l.length) : (touch kind l i)[tpos kind l.length i]? = l[i]? := by
  unfold touch tpos
  split
  · rw [toLast_get h, if_neg (by omega), if_neg (by omega), if_pos (by omega)]
  · rfl
theorem touch_set {α : Type} {kind : Int} {l : List α} {i : Nat} (h : i < l.length) (x : α) : (touch kind l i).set (tpos kind l.length i) x = touch kind (l.set i x) i := by
  unfold touch tpos
  split
  · unfold toLast
    have hl : (l.eraseIdx i).length = l.length - 1 := by rw [List.length_eraseIdx, if_pos h]
    rw [List.getElem?_eq_getElem h, List.getElem?_set_self h, List.eraseIdx_set_eq, ← hl]
    simp
  · rfl
theorem entCells_toLast {L : List Value} {es : List Ent} {us : List Value} {i n : Nat} {e : Ent} {u : Value} (hn : es.length = n) (hu : us.length = n) (hi : i < n) (hL : L.take (n * 2) = entCells es us) (hLl : n * 2 ≤ L.length) (he : es[i]? = some e) (hui : us[i]? = some u) :
    (((splice L (i * 2) ((L.take (n * 2)).drop ((i + 1) * 2))).set ((n - 1) * 2) (.int .u32 (e.key : Int))).set ((n - 1) * 2 + 1) u).take (n * 2) = entCells (toLast es i) (toLast us i) := by
  have hlen : ((L.take (n * 2)).drop ((i + 1) * 2)).length = (n - 1 - i) * 2 := by
    rw [List.length_drop, List.length_take, Nat.min_eq_left hLl]; omega
  have hsl : (splice L (i * 2) ((L.take (n * 2)).drop ((i + 1) * 2))).length = L.length := length_splice _ _ _ (by rw [hlen]; omega)
  have hel : ∀ j, j < n * 2 → (((splice L (i * 2) ((L.take (n * 2)).drop ((i + 1) * 2))).set ((n - 1) * 2) (.int .u32 (e.key : Int))).set ((n - 1) * 2 + 1) u)[j]? =
      if j = (n - 1) * 2 + 1 then some u else if j = (n - 1) * 2 then some (.int .u32 (e.key : Int)) else if j < i * 2 then (entCells es us)[j]? else (entCells es us)[j + 2]? := by
    intro j hj
    rw [List.getElem?_set]
    by_cases h1 : (n - 1) * 2 + 1 = j
    · rw [if_pos h1, if_pos (by simp [hsl]; omega), if_pos h1.symm]
    · rw [if_neg h1, if_neg (Ne.symm h1), List.getElem?_set]
      by_cases h2 : (n - 1) * 2 = j
      · rw [if_pos h2, if_pos (by rw [hsl]; omega), if_pos h2.symm]
      · rw [if_neg h2, if_neg (Ne.symm h2), ← hL]
        unfold splice
        by_cases h3 : j < i * 2
        · rw [if_pos h3, List.getElem?_append_left (by rw [List.length_take]; omega), List.getElem?_take, if_pos h3, List.getElem?_take, if_pos hj]
        · rw [if_neg h3, List.getElem?_append_right (by rw [List.length_take]; omega), List.length_take, Nat.min_eq_left (by omega),
            List.getElem?_append_left (by rw [hlen]; omega), List.getElem?_drop, show (i + 1) * 2 + (j - i * 2) = j + 2 by omega]
  have hne : (toLast es i).length = n := by rw [toLast_length (by omega), hn]
  have hnu : (toLast us i).length = n := by rw [toLast_length (by omega), hu]
  apply List.ext_getElem?
  intro j
  by_cases hj : j < n * 2
  · rw [List.getElem?_take, if_pos hj, hel j hj]
    obtain ⟨m, hm⟩ : ∃ m, j = m * 2 ∨ j = m * 2 + 1 := ⟨j / 2, by omega⟩
    have hmn : m < n := by omega
    have hem : (toLast es i)[m]? = some ((toLast es i)[m]'(by omega)) := List.getElem?_eq_getElem (by omega)
    have hum : (toLast us i)[m]? = some ((toLast us i)[m]'(by omega)) := List.getElem?_eq_getElem (by omega)
    obtain ⟨g0, g1⟩ := entCells_get hem hum
    obtain ⟨p, hp, ep⟩ := toLast_at (by omega) hem
    obtain ⟨q, hq, eq⟩ := toLast_at (by omega) hum
    rw [hn] at ep
    rw [hu] at eq
    obtain rfl : p = q := by rw [ep, eq]
    obtain ⟨k0, k1⟩ := entCells_get hp hq
    rcases hm with rfl | rfl
    · rw [g0, ← k0]
      by_cases h1 : m < i
      · rw [if_pos h1] at ep
        subst ep
        rw [if_neg (by omega), if_neg (by omega), if_pos (by omega)]
      · rw [if_neg h1] at ep
        by_cases h2 : m + 1 < n
        · rw [if_pos h2] at ep
          subst ep
          rw [if_neg (by omega), if_neg (by omega), if_neg (by omega), show m * 2 + 2 = (m + 1) * 2 by omega]
        · rw [if_neg h2] at ep
          subst ep
          rw [he] at hp
          cases hp
          rw [if_neg (by omega), if_pos (by omega), k0]
    · rw [g1, ← k1]
      by_cases h1 : m < i
      · rw [if_pos h1] at ep
        subst ep
        rw [if_neg (by omega), if_neg (by omega), if_pos (by omega)]
      · rw [if_neg h1] at ep
        by_cases h2 : m + 1 < n
        · rw [if_pos h2] at ep
          subst ep
          rw [if_neg (by omega), if_neg (by omega), if_neg (by omega), show m * 2 + 1 + 2 = (m + 1) * 2 + 1 by omega]
        · rw [if_neg h2] at ep
          subst ep
          rw [hui] at hq
          rw [if_pos (by omega), k1, hq]
  · rw [List.getElem?_eq_none (by rw [List.length_take]; omega), List.getElem?_eq_none (by rw [entCells_length (by omega)]; omega)]
set_option maxHeartbeats 1000000 in
theorem last_other (s : Sch) (hk : (s.kind != 2) = true) (A : Option Addr) (n c nx i : Nat) (w : World) :
    Calls prog 54 #[tabV s A n c nx, .int .i64 (i : Int)] w fun e w' => e = .returned (.int .i64 (i : Int)) ∧ Below w.heap.size w w' := by
  unfold tabV
  obtain ⟨W1, hW1, hB1, hS1, hG1, hO1, hP1⟩ := boxedB w _ rfl #[.int .i64 s.kind, .int .i64 s.cap, .int .i64 s.words, .int .i64 s.ver, .slice A n c, .int .u32 (nx : Int)] 27
  have hC1 := hG1.cell
  go_enter func54, ntmps54
  go_wp2_with fail
  go_ret
  exact ⟨rfl, hB1⟩
set_option maxRecDepth 100000 in
set_option maxHeartbeats 2000000 in
theorem last_lru (s : Sch) (hk : (s.kind != 2) = false) (g n c nx i : Nat) (es : List Ent) (us : List Value) (w : World) (base : Nat) (hO : OwnEs w base (.slice (some ⟨g, 0, none⟩) n c) es us) (hn : es.length = n) (hi : i < n) :
    Calls prog 54 #[tabV s (some ⟨g, 0, none⟩) n c nx, .int .i64 (i : Int)] w fun e w' => e = .returned (.int .i64 ((n : Int) - 1)) ∧ Only g w w' ∧ OwnEs w' base (.slice (some ⟨g, 0, none⟩) n c) (toLast es i) (toLast us i) := by
  obtain ⟨cur, hbg, hG, hnc, hcm, hcs, htake⟩ : ∃ cur, base ≤ g ∧ Blk w g 41 cur ∧ n ≤ c ∧ c ≤ maxLen ∧ cur.size = c * 2 ∧ cur.toList.take (n * 2) = entCells es us := by
    have hr := hO.row
    rw [hn] at hr
    rcases hr.2 with ⟨h', _⟩ | ⟨g', cap', cur, h', h2, h3, h4, h5, h6, h7⟩
    · cases h'
    · simp only [Value.slice.injEq, Option.some.injEq, Addr.mk.injEq, and_true, true_and] at h'
      obtain ⟨rfl, rfl⟩ := h'
      exact ⟨cur, h2, h3, h4, h5, h6, h7⟩
  have hnm : n ≤ 9223372036854775807 := by simp only [maxLen] at hcm; omega
  have hcm' : c ≤ 9223372036854775807 := by simp only [maxLen] at hcm; omega
  have hgl := hG.lt
  have hus := hO.len
  rw [hn] at hus
  obtain ⟨e, he⟩ : ∃ e, es[i]? = some e := ⟨_, List.getElem?_eq_getElem (by omega)⟩
  obtain ⟨u, hu⟩ : ∃ u, us[i]? = some u := ⟨_, List.getElem?_eq_getElem (by omega)⟩
  obtain ⟨hval, hkey⟩ := hO.val i e u he hu
  obtain ⟨Au, cu, hus', _⟩ := hval.reads
  obtain ⟨e0, e1⟩ := entCells_get he hu
  rw [← htake, List.getElem?_take, if_pos (by omega)] at e0 e1
  have hk0 : w.cell? ⟨g, i * 2, none⟩ = some (.int .u32 (e.key : Int)) := by rw [hG.cell]; simpa using e0
  have hk1 : w.cell? ⟨g, i * 2 + 1, none⟩ = some u := by rw [hG.cell]; simpa using e1
  subst hus'
  have hfin := entCells_toLast (L := cur.toList) hn hus hi htake (by simp; omega) he hu
  replace hfin := Lib.hid hfin
  replace htake := Lib.hid htake
  replace hn := Lib.hid hn
  replace hus := Lib.hid hus
  clear e0 e1 he hu
  unfold tabV
  obtain ⟨W1, hW1, hB1, hS1, hG1, hO1, hP1⟩ := boxedB w _ rfl #[.int .i64 s.kind, .int .i64 s.cap, .int .i64 s.words, .int .i64 s.ver, .slice (some ⟨g, 0, none⟩) n c, .int .u32 (nx : Int)] 27
  have hC1 := hG1.cell
  have hk01 : W1.cell? ⟨g, i * 2, none⟩ = some (.int .u32 (e.key : Int)) := (hO1 _ _ hgl).trans hk0
  have hk11 : W1.cell? ⟨g, i * 2 + 1, none⟩ = some (.slice Au e.v.length cu) := (hO1 _ _ hgl).trans hk1
  obtain ⟨W2, hW2, hB2, hS2, hG2, hO2, hP2⟩ := boxedB W1 _ hS1 #[.int .u32 (e.key : Int), .slice Au e.v.length cu] 41
  have hC2 := hG2.cell
  have hC12 := (hG1.below hB2 (Nat.lt_succ_self _)).cell
  obtain ⟨ie, hie, _, hsz, _⟩ := info_parts info_ent
  have hG2g := (hG.below hB1 hgl).below hB2 (by omega)
  have hcl : ((cur.toList.take (n * 2)).drop ((i + 1) * 2)).length = (n - 1 - i) * 2 := by rw [List.length_drop, List.length_take, Array.length_toList]; omega
  have hcn : ((cur.toList.take (n * 2)).drop ((i + 1) * 2)).length = Nat.min (n - (i + 1)) (n - i) * 2 := by
    have hmin : Nat.min (n - (i + 1)) (n - i) = n - (i + 1) := Nat.min_eq_left (by omega)
    rw [hcl, hmin]; omega
  replace hcn := Lib.hid hcn
  have hfit : i * 2 + ((cur.toList.take (n * 2)).drop ((i + 1) * 2)).length ≤ cur.toList.length := by rw [hcl]; simp; omega
  replace hfit := Lib.hid hfit
  have hone : ∀ v ∈ (cur.toList.take (n * 2)).drop ((i + 1) * 2), v.oneCell' = true := fun v hv => by
    rw [htake.out] at hv
    refine entCells_one (es := es) (us := us) (fun u hu => ?_) v (List.mem_of_mem_drop hv)
    obtain ⟨j, hj⟩ := List.mem_iff_getElem?.1 hu
    have hjl : j < es.length := by rw [hn.out, ← hus.out]; exact (List.getElem?_eq_some_iff.1 hj).1
    obtain ⟨A, c', rfl, _⟩ := (hO.val j _ u (List.getElem?_eq_getElem hjl) hj).1.reads
    rfl
  replace hone := Lib.hid hone
  have hpos : 0 < ((cur.toList.take (n * 2)).drop ((i + 1) * 2)).length → cutA (some ⟨g, 0, none⟩) c i 2 = some ⟨g, i * 2, none⟩ ∧ ∃ ad, cutA (some ⟨g, 0, none⟩) c (i + 1) 2 = some ad ∧ ∀ (j : Nat) (v : Value), ((cur.toList.take (n * 2)).drop ((i + 1) * 2))[j]? = some v → W2.drew.cell? (ad.add j) = some v := by
    intro hp
    rw [hcl] at hp
    refine ⟨by rw [cutA_lt (by omega), add_lit0], _, cutA_lt (by omega), fun j v hv => ?_⟩
    rw [add_add, add_lit0]
    rw [List.getElem?_drop, List.getElem?_take] at hv
    split at hv
    · exact (hG2g.cell _).trans (by simpa using hv)
    · cases hv
  replace hpos := Lib.hid hpos
  have hi1 : ((i : Int) + 1) = ((i + 1 : Nat) : Int) := by omega
  have hsl1 := run_cut (P := prog) 24 41 2 underlying24 (by kernel_rfl) (some ⟨g, 0, none⟩) n c i (i : Int) rfl (by omega)
  have hsl2 := run_cut (P := prog) 24 41 2 underlying24 (by kernel_rfl) (some ⟨g, 0, none⟩) n c (i + 1) ((i : Int) + 1) hi1 (by omega)
  replace hi1 := Lib.hid hi1
  have hic : (i : Int) < (n : Int) := by omega
  have hnn : ((n : Int) - 1).toNat = n - 1 := by omega
  have hn1 : (1 : Int) ≤ (n : Int) := by omega
  have hwr : IntKind.i64.wrap ((i : Int) + 1) = (i : Int) + 1 := IntWalk.i64_in _ (by omega)
  go_enter func54, ntmps54
  go_wp2_with fail
  go_still_tail 9, (by kernel_rfl)
  change wpList _ _ _ _ _ W2.drew
  refine wpList_copyS rfl _ _ _ _ rfl 41 ie 2 underlying24 hie hsz (by omega) _ _ _ _ _ _ rfl rfl g (i * 2) cur.toList 41 (show Blk W2.drew _ _ _ from hG2g) ((cur.toList.take (n * 2)).drop ((i + 1) * 2)) hcn.out hpos.out hfit.out hone.out ?_
  intro w3 hG3 ho3 hs3
  replace ho3 := ho3.of_drew
  have hs3' : w3.heap.size = w.heap.size + 1 + 1 := hs3.trans hS2
  have hC13 := ((hG1.below hB2 (Nat.lt_succ_self _)).grown ho3 (by simp; omega)).cell
  have hC23 := (hG2.grown ho3 (by simp; omega)).cell
  have hlen3 : (splice cur.toList (i * 2) ((cur.toList.take (n * 2)).drop ((i + 1) * 2))).length = cur.size := by rw [length_splice _ _ _ hfit.out]; simp
  obtain ⟨va, hva⟩ : ∃ va, w3.cell? ⟨g, (n - 1) * 2, none⟩ = some va := ⟨_, by rw [hG3.cell]; exact Array.getElem?_eq_getElem (by simp only [List.size_toArray, hlen3]; omega)⟩
  obtain ⟨vb, hvb⟩ : ∃ vb, w3.cell? ⟨g, (n - 1) * 2 + 1, none⟩ = some vb := ⟨_, by rw [hG3.cell]; exact Array.getElem?_eq_getElem (by simp only [List.size_toArray, hlen3]; omega)⟩
  have hf3 := hG3.frozen
  obtain ⟨W4, hW4, ho4, hs4, hG4, hO4, hP4⟩ := storedB hG3 ((n - 1) * 2) (.int .u32 (e.key : Int))
  have hvb4 : W4.cell? ⟨g, (n - 1) * 2 + 1, none⟩ = some vb := by rw [← hW4, World.cell?_setCell_other _ _ _ _ (by simp)]; exact hvb
  obtain ⟨W5, hW5, ho5, hs5, hG5, hO5, hP5⟩ := storedB hG4 ((n - 1) * 2 + 1) (.slice Au e.v.length cu)
  have hC15 : ∀ j, W5.cell? ⟨w.heap.size, j, none⟩ = #[.int .i64 s.kind, .int .i64 s.cap, .int .i64 s.words, .int .i64 s.ver, .slice (some ⟨g, 0, none⟩) n c, .int .u32 (nx : Int)][j]? := fun j => ((hO5 _ j (by omega)).trans (hO4 _ j (by omega))).trans (hC13 j)
  clear hO4 hO5
  go_wp2_with fail
  go_ret
  have hO5 : Only g w W5 := (Only.of_below (hB1.trans (hB2.mono (Nat.le_succ _)))).trans (ho3.trans (ho4.trans ho5))
  have hn' := hn.out
  have hus' := hus.out
  refine ⟨rfl, hO5, by rw [toLast_length (by omega), toLast_length (by omega)]; exact hO.len, ⟨?_, .inr ⟨g, c, _, by rw [toLast_length (by omega), hn'], hbg, hG5, by rw [toLast_length (by omega), hn']; exact hnc, hcm, by simp [hlen3, hcs], ?_⟩⟩, fun j e' u' he' hu' => ?_, toLast_lone (by omega) hO.lone⟩
  · rw [entCells_length (by rw [toLast_length (by omega), toLast_length (by omega)]; exact hO.len)]
  · rw [toLast_length (by omega), hn']
    simpa using hfin.out
  · obtain ⟨p, hp, ep⟩ := toLast_at (by omega) he'
    obtain ⟨q, hq, eq⟩ := toLast_at (by omega) hu'
    rw [hn'] at ep
    rw [hus'] at eq
    obtain rfl : p = q := by rw [ep, eq]
    obtain ⟨h1, h2⟩ := hO.val p e' u' hp hq
    exact ⟨h1.only hO5 (h1.blk_ne hO.row rfl), h2⟩
theorem last_any (s : Sch) (g n c nx i : Nat) (es : List Ent) (us : List Value) (w : World) (base : Nat) (hO : OwnEs w base (.slice (some ⟨g, 0, none⟩) n c) es us) (hn : es.length = n) (hi : i < n) :
    Calls prog 54 #[tabV s (some ⟨g, 0, none⟩) n c nx, .int .i64 (i : Int)] w fun e w' => e = .returned (.int .i64 ((tpos s.kind n i : Nat) : Int)) ∧ Only g w w' ∧ OwnEs w' base (.slice (some ⟨g, 0, none⟩) n c) (touch s.kind es i) (touch s.kind us i) := by
  rcases hk : (s.kind != 2) with _ | _
  · have hk2 : s.kind = 2 := by simpa using hk
    refine (last_lru s hk g n c nx i es us w base hO hn hi).mono ?_
    rintro e w' ⟨rfl, ho, hO'⟩
    unfold touch tpos
    rw [if_pos hk2, if_pos hk2, if_pos hk2]
    exact ⟨by rw [show ((n : Int) - 1) = ((n - 1 : Nat) : Int) by omega], ho, hO'⟩
  · have hk2 : s.kind ≠ 2 := by simpa using hk
    refine (last_other s hk _ n c nx i w).mono ?_
    rintro e w' ⟨rfl, hb⟩
    unfold touch tpos
    rw [if_neg hk2, if_neg hk2, if_neg hk2]
    exact ⟨rfl, Only.of_below hb, hO.below hb⟩
set_option maxHeartbeats 1000000 in
theorem refSchMay_any (k c n v : Int) (w : World) : Calls prog 61 #[.agg #[.int .i64 k, .int .i64 c, .int .i64 n, .int .i64 v]] w fun e w' => e = .returned (.bool (Sch.may ⟨k, c, n, v⟩)) ∧ Below w.heap.size w w' := by
  obtain ⟨W1, hW1, hB1, hS1, hC1, hF1, hO1⟩ := boxed w _ rfl #[.int .i64 k, .int .i64 c, .int .i64 n, .int .i64 v] 23
  go_enter func61, ntmps61
  go_wp2_with fail
  all_goals
    go_ret
    refine ⟨ret_bool ?_, hB1⟩
    rw [eq_comm, Bool.eq_iff_iff]
    simp only [Sch.may, inB, Bool.and_eq_true, decide_eq_true_eq]
    by_cases h3 : k = 3
    · rw [if_pos h3]; simp [h3] at * <;> omega
    · rw [if_neg h3]; simp [h3] at * <;> omega
theorem fidx_found {key : Nat} : ∀ {es : List Ent} {j k : Nat} {e : Ent}, es[k]? = some e → e.key = key → (∀ (i : Nat) (x : Ent), i < k → es[i]? = some x → x.key ≠ key) → fidx key es j = ((j + k : Nat) : Int)
  | [], j, k, e, h, _, _ => by simp at h
  | x :: es, j, 0, e, h, hk, _ => by
    simp at h
    subst h
    simp [fidx, hk]
  | x :: es, j, k + 1, e, h, hk, hn => by
    have hx : x.key ≠ key := hn 0 x (by omega) rfl
    have ih := fidx_found (es := es) (j := j + 1) (k := k) (by simpa using h) hk (fun i y hi hy => hn (i + 1) y (by omega) (by simpa using hy))
    simp only [fidx, if_neg hx]
    rw [ih]
    omega
theorem fidx_none {key : Nat} : ∀ {es : List Ent} {j : Nat}, (∀ (i : Nat) (x : Ent), es[i]? = some x → x.key ≠ key) → fidx key es j = -1
  | [], j, _ => rfl
  | x :: es, j, hn => by
    have hx : x.key ≠ key := hn 0 x rfl
    simp only [fidx, if_neg hx]
    exact fidx_none (fun i y hy => hn (i + 1) y (by simpa using hy))
set_option maxHeartbeats 1000000 in
theorem at_any (s : Sch) (A : Option Addr) (n c nx key : Nat) (es : List Ent) (w : World) (B : Nat) (hB : B ≤ w.heap.size) (hE : kEnt.At w B A n c es) :
    Calls prog 57 #[tabV s A n c nx, .int .u32 (key : Int)] w fun e w' => e = .returned (.int .i64 (fidx key es 0)) ∧ Below w.heap.size w w' := by
  have hn := hE.nle
  unfold tabV
  obtain ⟨W1, hW1, hB1, hS1, hC1, hF1, hO1⟩ := boxed w _ rfl #[.int .i64 s.kind, .int .i64 s.cap, .int .i64 s.words, .int .i64 s.ver, .slice A n c, .int .u32 (nx : Int)] 27
  go_enter func57, ntmps57
  go_wp2_with fail
  go_loop [5] (fun i => ∃ k : Nat, k ≤ n ∧ i = .int .i64 k ∧ (∀ (i : Nat) (x : Ent), i < k → es[i]? = some x → x.key ≠ key)) (fun i => n - (intOf i).toNat)
  case atStart => exact ⟨0, Nat.zero_le _, rfl, fun i x h => absurd h (by omega)⟩
  case round =>
    obtain ⟨k, hk, rfl, hno⟩ := hrel
    replace hno := Lib.hid hno
    by_cases hlt : k < n
    · obtain ⟨e, ad, A', n', c', he, rfl, hadB, h0, h1, hkey, hv⟩ := kEnt.get (hE.below (hB1.mono hB)) hlt
      replace he := Lib.hid he
      have hki : (k : Int) < (n : Int) := by omega
      by_cases hkk : e.key = key
      · have hd : ((e.key : Int) == (key : Int)) = true := by simp [hkk]
        have hfin := Lib.hid (fidx_found (j := 0) he.out hkk hno.out)
        replace hkk := Lib.hid hkk
        go_wp2_with fail
        go_ret
        exact ⟨ret_int (by rw [hfin.out]; simp), hB1⟩
      · have hd : ((e.key : Int) == (key : Int)) = false := by simp; omega
        replace hkk := Lib.hid hkk
        go_wp2_with fail
        go_round
        case rel =>
          refine ⟨k + 1, by omega, by go_num, fun i x hi hx => ?_⟩
          rcases Nat.lt_or_ge i k with h | h
          · exact hno.out i x h hx
          · obtain rfl : i = k := by omega
            rw [he.out] at hx
            cases hx
            exact hkk.out
        case measure => simp [intOf]; omega
    · obtain rfl : k = n := by omega
      have hfin := Lib.hid (fidx_none (key := key) (es := es) (j := 0) (fun i x hx => hno.out i x (by rw [← hE.len]; exact (List.getElem?_eq_some_iff.1 hx).1) hx))
      go_wp2_with fail
      go_ret
      exact ⟨ret_int (by rw [hfin.out]), hB1⟩
theorem in_any (n lo hi : Int) (w : World) : Calls prog 80 #[.int .i64 n, .int .i64 lo, .int .i64 hi] w fun e w' => e = .returned (.bool (inB n lo hi)) ∧ w = w' := by
  unfold inB
  go_enter func80, ntmps80
  go_wp2
  all_goals (go_ret; simp_all; try omega)
theorem schMay_any (k c n v : Int) (w : World) : Calls prog 50 #[.agg #[.int .i64 k, .int .i64 c, .int .i64 n, .int .i64 v]] w fun e w' => e = .returned (.bool (Sch.may ⟨k, c, n, v⟩)) ∧ Below w.heap.size w w' := by
  go_enter func50, ntmps50
  go_wp2_with ((go_at_call 80; refine (in_any _ _ _ _).mono ?_; rintro e w' ⟨rfl, rfl⟩))
  all_goals
    go_ret
    refine ⟨ret_bool ?_, (Below.refl _ _).alloc (Nat.le_refl _) _⟩
    simp_all [Sch.may]
set_option maxHeartbeats 400000 in
theorem find_any (s : Sch) (A : Option Addr) (n c nx key : Nat) (es : List Ent) (w : World) (B : Nat) (hB : B ≤ w.heap.size) (hE : kEnt.At w B A n c es) :
    Calls prog 51 #[tabV s A n c nx, .int .u32 (key : Int)] w fun e w' => e = .returned (.int .i64 (fidx key es 0)) ∧ Below w.heap.size w w' := by
  have hn := hE.nle
  unfold tabV
  go_enter func51, ntmps51
  go_wp2
  go_step3
  go_wp2
  go_step3
  go_wp2
  go_loopw [5, 11] (fun a i wr => ∃ k : Nat, k ≤ n ∧ a = .int .i64 (-1) ∧ i = .int .i64 k ∧ Below w.heap.size w wr ∧ (∀ (i : Nat) (x : Ent), i < k → es[i]? = some x → x.key ≠ key)) (fun _ i _ => n - (intOf i).toNat)
  case atStart => exact ⟨0, Nat.zero_le _, rfl, rfl, (Below.refl _ _).alloc (Nat.le_refl _) _, fun i x h => absurd h (by omega)⟩
  case round =>
    obtain ⟨k, hk, rfl, rfl, hb, hno⟩ := hrel
    replace hno := Lib.hid hno
    by_cases hlt : k < n
    · obtain ⟨e, ad, A', n', c', he, rfl, hadB, h0, h1, hkey, hv⟩ := kEnt.get (hE.below (hb.mono hB)) hlt
      replace he := Lib.hid he
      have hbs := hb.size
      by_cases hkk : e.key = key
      · have hd : ((e.key : Int) == (key : Int)) = true := by simp [hkk]
        have hfin := Lib.hid (fidx_found (j := 0) he.out hkk hno.out)
        go_wp2
        rw [Exit.noGoto_ret]
        go_ret
        exact ⟨ret_int (by rw [hfin.out]; simp), hb.alloc hbs _⟩
      · have hd : ((e.key : Int) == (key : Int)) = false := by simp; omega
        go_wp2
        go_roundw
        case rel =>
          refine ⟨k + 1, by omega, rfl, by go_num, hb.alloc hbs _, fun i x hi hx => ?_⟩
          rcases Nat.lt_or_ge i k with h | h
          · exact hno.out i x h hx
          · obtain rfl : i = k := by omega
            rw [he.out] at hx
            cases hx
            exact hkk
        case measure => simp [intOf]; omega
    · obtain rfl : k = n := by omega
      have hfin := Lib.hid (fidx_none (key := key) (es := es) (j := 0) (fun i x hx => hno.out i x (by rw [← hE.len]; exact (List.getElem?_eq_some_iff.1 hx).1) hx))
      go_wp2
      rw [Exit.noGoto_ret]
      go_ret
      exact ⟨ret_int (by rw [hfin.out]), hb⟩
theorem allOk_succ {t : Tab} {k : Nat} {e : Ent} (h : ∀ (i : Nat) (x : Ent), i < k → t.e[i]? = some x → t.elOk i x = true) (he : t.e[k]? = some e) (hok : t.elOk k e = true) :
    ∀ (i : Nat) (x : Ent), i < k + 1 → t.e[i]? = some x → t.elOk i x = true := by
  intro i x hi hx
  rcases Nat.lt_or_ge i k with h' | h'
  · exact h i x h' hx
  · obtain rfl : i = k := by omega
    rw [he] at hx
    cases hx
    exact hok
theorem Tab.may_yes {t : Tab} (hh : t.headOk = true) (h : ∀ (i : Nat) (x : Ent), i < t.e.length → t.e[i]? = some x → t.elOk i x = true) : t.may = true :=
  (t.may_iff).2 ⟨hh, fun i e hi => h i e (List.getElem?_eq_some_iff.1 hi).1 hi⟩
set_option maxRecDepth 100000 in
set_option maxHeartbeats 4000000 in
theorem tabMay_any (s : Sch) (A : Option Addr) (n c nx : Nat) (es : List Ent) (w : World) (hx : nx < 4294967296) (hE : kEnt.At w w.heap.size A n c es) :
    Calls prog 15 #[tabV s A n c nx] w fun e w' => e = .returned (.bool (Tab.may ⟨s, es, nx⟩)) ∧ Below w.heap.size w w' := by
  have hn := hE.nle
  have hl := Lib.hid hE.len
  rcases h3 : (s.kind == 3) with _ | _ <;> rcases h0 : (s.kind == 0) with _ | _
  case true.true => simp at h3 h0; omega
  all_goals
    unfold tabV
    go_enter func15, ntmps15
    go_wp2_with fail
    go_quiet (fail)
    go_wp2_with fail
    refine (schMay_any _ _ _ _ _).mono ?_
    rintro e w1 ⟨rfl, hb1⟩
    have hw1 := below_of (below_drewN (below_box _ _) _) hb1
    obtain ⟨hc1, hf1⟩ := bcell hb1
    rcases hm : Sch.may s with _ | _
    · go_wp2_with fail
      go_ret
      exact ⟨ret_bool (Tab.may_head _ (by simp [Tab.headOk, hm])).symm, hw1⟩
    by_cases hcap : s.cap < (n : Int)
    · go_wp2_with fail
      go_ret
      exact ⟨ret_bool (Tab.may_head _ (by simp [Tab.headOk, hl.out]; omega)).symm, hw1⟩
  · by_cases hnx : nx = 0
    · subst hnx
      go_wp2_with fail
      go_loopw [61] (fun i wr => ∃ k : Nat, k ≤ n ∧ i = .int .i64 k ∧ Below (w.heap.size + 1) w1 wr ∧ (∀ (i : Nat) (x : Ent), i < k → es[i]? = some x → Tab.elOk ⟨s, es, 0⟩ i x = true)) (fun i _ => n - (intOf i).toNat)
      case atStart => exact ⟨0, Nat.zero_le _, rfl, Below.refl _ _, fun i x h => absurd h (by omega)⟩
      case round =>
        obtain ⟨k, hk, rfl, hb, hno⟩ := hrel
        replace hno := Lib.hid hno
        have hbr := hw1.trans (hb.mono (Nat.le_succ _))
        have hsz := hb.size
        have hsz1 := hb1.size
        simp only [World.size_alloc, World.heap_drewN] at hsz1
        have hszr : w.heap.size < wr.heap.size := by omega
        obtain ⟨hc2, hf2⟩ := bcell hb
        by_cases hlt : k < n
        · obtain ⟨e, ad, A', n', c', he, rfl, hadB, hk0, hk1, hkey, hv⟩ := kEnt.get (hE.below hbr) hlt
          replace he := Lib.hid he
          replace hv := Lib.hid hv.len
          by_cases q2 : (n' : Int) = s.words
          case neg =>
            have q2b : ((n' : Int) != s.words) = true := by simp [q2]
            replace q2 := Lib.hid q2
            go_wp2_with fail
            go_ret
            exact ⟨ret_bool (Tab.may_no _ he.out (Tab.elOk_no (by rintro ⟨r1, _⟩; rw [hv.out] at r1; exact q2.out r1))).symm, hbr.alloc (by omega) _⟩
          have q2b : ((n' : Int) != s.words) = false := by simp [q2]
          replace q2 := Lib.hid q2
          rcases q3 : (fidx e.key es 0 != (k : Int)) with _ | _
          · go_wp2_with (go_at_call 51; refine (find_any _ _ _ _ _ _ es _ w.heap.size (by simp; omega) (by exact hE.below (hbr.alloc (by omega) _))).mono ?_; rintro e1 w2 ⟨rfl, hb2⟩)
            refine ⟨⟨k + 1, by omega, by go_num, (hb.alloc (by omega) _).trans (hb2.mono (by simp; omega)), ?_⟩, by simp [intOf]; omega⟩
            refine allOk_succ (t := ⟨s, es, 0⟩) hno.out he.out ((Tab.elOk_iff _ _ _).2 ⟨by rw [hv.out]; exact q2.out, by simpa using q3, fun q => by simp at h0; exact absurd q h0, fun q => by simp at h3; exact absurd q h3⟩)
          · go_wp2_with (go_at_call 51; refine (find_any _ _ _ _ _ _ es _ w.heap.size (by simp; omega) (by exact hE.below (hbr.alloc (by omega) _))).mono ?_; rintro e1 w2 ⟨rfl, hb2⟩)
            go_ret
            exact ⟨ret_bool (Tab.may_no _ he.out (Tab.elOk_no (by rintro ⟨_, r2, _⟩; simp [r2] at q3))).symm, (hbr.alloc (by omega) _).trans (hb2.mono (by simp; omega))⟩
        · go_wp2_with fail
          go_ret
          obtain rfl : k = n := by omega
          refine ⟨ret_bool (Tab.may_yes ?_ (by rw [hl.out]; exact hno.out)).symm, hbr⟩
          simp [Tab.headOk, hl.out, hm] at h3 h0 ⊢
          omega
    · go_wp2_with fail
      go_ret
      exact ⟨ret_bool (Tab.may_head _ (by simp at h3; simp [Tab.headOk, h3, hnx])).symm, hw1⟩
  · by_cases hnx : nx = 0
    · subst hnx
      by_cases hnc : (n : Int) = s.cap
      case neg =>
        have hnc' : ((n : Int) != s.cap) = true := by simp [hnc]
        go_wp2_with fail
        go_ret
        exact ⟨ret_bool (Tab.may_head _ (by simp at h0; simp [Tab.headOk, h0, hl.out, hnc])).symm, hw1⟩
      have hb16 := (Sch.may_bounds hm).2.2.2.1
      have hnc' : ((n : Int) != s.cap) = false := by simp [hnc]
      replace hnc := Lib.hid hnc
      go_wp2_with fail
      go_loopw [61] (fun i wr => ∃ k : Nat, k ≤ n ∧ i = .int .i64 k ∧ Below (w.heap.size + 1) w1 wr ∧ (∀ (i : Nat) (x : Ent), i < k → es[i]? = some x → Tab.elOk ⟨s, es, 0⟩ i x = true)) (fun i _ => n - (intOf i).toNat)
      case atStart => exact ⟨0, Nat.zero_le _, rfl, Below.refl _ _, fun i x h => absurd h (by omega)⟩
      case round =>
        obtain ⟨k, hk, rfl, hb, hno⟩ := hrel
        replace hno := Lib.hid hno
        have hbr := hw1.trans (hb.mono (Nat.le_succ _))
        have hsz := hb.size
        have hsz1 := hb1.size
        simp only [World.size_alloc, World.heap_drewN] at hsz1
        have hszr : w.heap.size < wr.heap.size := by omega
        obtain ⟨hc2, hf2⟩ := bcell hb
        by_cases hlt : k < n
        · obtain ⟨e, ad, A', n', c', he, rfl, hadB, hk0, hk1, hkey, hv⟩ := kEnt.get (hE.below hbr) hlt
          replace he := Lib.hid he
          replace hv := Lib.hid hv.len
          have hk16 : k < 4294967296 := by omega
          by_cases q1 : e.key = k
          case neg =>
            have q1b : ((e.key : Int) != (k : Int)) = true := by simp; omega
            replace q1 := Lib.hid q1
            go_wp2_with fail
            go_ret
            exact ⟨ret_bool (Tab.may_no _ he.out (Tab.elOk_no (by rintro ⟨_, _, r3, _⟩; simp at h0; exact q1.out (r3 h0)))).symm, hbr.alloc (by omega) _⟩
          have q1b : ((e.key : Int) != (k : Int)) = false := by simp [q1]
          replace q1 := Lib.hid q1
          by_cases q2 : (n' : Int) = s.words
          case neg =>
            have q2b : ((n' : Int) != s.words) = true := by simp [q2]
            replace q2 := Lib.hid q2
            go_wp2_with fail
            go_ret
            exact ⟨ret_bool (Tab.may_no _ he.out (Tab.elOk_no (by rintro ⟨r1, _⟩; rw [hv.out] at r1; exact q2.out r1))).symm, hbr.alloc (by omega) _⟩
          have q2b : ((n' : Int) != s.words) = false := by simp [q2]
          replace q2 := Lib.hid q2
          rcases q3 : (fidx e.key es 0 != (k : Int)) with _ | _
          · go_wp2_with (go_at_call 51; refine (find_any _ _ _ _ _ _ es _ w.heap.size (by simp; omega) (by exact hE.below (hbr.alloc (by omega) _))).mono ?_; rintro e1 w2 ⟨rfl, hb2⟩)
            refine ⟨⟨k + 1, by omega, by go_num, (hb.alloc (by omega) _).trans (hb2.mono (by simp; omega)), ?_⟩, by simp [intOf]; omega⟩
            refine allOk_succ (t := ⟨s, es, 0⟩) hno.out he.out ((Tab.elOk_iff _ _ _).2 ⟨by rw [hv.out]; exact q2.out, by simpa using q3, fun _ => q1.out, fun q => by simp at h3; exact absurd q h3⟩)
          · go_wp2_with (go_at_call 51; refine (find_any _ _ _ _ _ _ es _ w.heap.size (by simp; omega) (by exact hE.below (hbr.alloc (by omega) _))).mono ?_; rintro e1 w2 ⟨rfl, hb2⟩)
            go_ret
            exact ⟨ret_bool (Tab.may_no _ he.out (Tab.elOk_no (by rintro ⟨_, r2, _⟩; simp [r2] at q3))).symm, (hbr.alloc (by omega) _).trans (hb2.mono (by simp; omega))⟩
        · go_wp2_with fail
          go_ret
          obtain rfl : k = n := by omega
          refine ⟨ret_bool (Tab.may_yes ?_ (by rw [hl.out]; exact hno.out)).symm, hbr⟩
          have := hnc.out
          simp [Tab.headOk, hl.out, hm] at h3 h0 ⊢
          omega
    · go_wp2_with fail
      go_ret
      exact ⟨ret_bool (Tab.may_head _ (by simp at h3; simp [Tab.headOk, h3, hnx])).symm, hw1⟩
  · · have hb16 := (Sch.may_bounds hm).2.2.2.1
      go_wp2_with fail
      go_loopw [61] (fun i wr => ∃ k : Nat, k ≤ n ∧ i = .int .i64 k ∧ Below (w.heap.size + 1) w1 wr ∧ (∀ (i : Nat) (x : Ent), i < k → es[i]? = some x → Tab.elOk ⟨s, es, nx⟩ i x = true)) (fun i _ => n - (intOf i).toNat)
      case atStart => exact ⟨0, Nat.zero_le _, rfl, Below.refl _ _, fun i x h => absurd h (by omega)⟩
      case round =>
        obtain ⟨k, hk, rfl, hb, hno⟩ := hrel
        replace hno := Lib.hid hno
        have hbr := hw1.trans (hb.mono (Nat.le_succ _))
        have hsz := hb.size
        have hsz1 := hb1.size
        simp only [World.size_alloc, World.heap_drewN] at hsz1
        have hszr : w.heap.size < wr.heap.size := by omega
        obtain ⟨hc2, hf2⟩ := bcell hb
        by_cases hlt : k < n
        · obtain ⟨e, ad, A', n', c', he, rfl, hadB, hk0, hk1, hkey, hv⟩ := kEnt.get (hE.below hbr) hlt
          replace he := Lib.hid he
          replace hv := Lib.hid hv.len
          have hkx : (((nx + (4294967296 - es.length) + k) % 4294967296 : Nat) : Int) = ((nx : Int) - n + k) % 4294967296 := by rw [hl.out]; omega
          replace hkx := Lib.hid hkx
          rcases q1 : ((e.key : Int) != ((nx : Int) - n + k) % 4294967296) with _ | _
          case true =>
            go_wp2_with fail
            go_ret
            exact ⟨ret_bool (Tab.may_no _ he.out (Tab.elOk_no (by rintro ⟨_, _, _, r4⟩; simp at h3; have r5 := r4 h3; have := hkx.out; simp only at r5; rw [← r5] at this; simp [this] at q1))).symm, hbr.alloc (by omega) _⟩
          by_cases q2 : (n' : Int) = s.words
          case neg =>
            have q2b : ((n' : Int) != s.words) = true := by simp [q2]
            replace q2 := Lib.hid q2
            go_wp2_with fail
            go_ret
            exact ⟨ret_bool (Tab.may_no _ he.out (Tab.elOk_no (by rintro ⟨r1, _⟩; rw [hv.out] at r1; exact q2.out r1))).symm, hbr.alloc (by omega) _⟩
          have q2b : ((n' : Int) != s.words) = false := by simp [q2]
          replace q2 := Lib.hid q2
          rcases q3 : (fidx e.key es 0 != (k : Int)) with _ | _
          · go_wp2_with (go_at_call 51; refine (find_any _ _ _ _ _ _ es _ w.heap.size (by simp; omega) (by exact hE.below (hbr.alloc (by omega) _))).mono ?_; rintro e1 w2 ⟨rfl, hb2⟩)
            refine ⟨⟨k + 1, by omega, by go_num, (hb.alloc (by omega) _).trans (hb2.mono (by simp; omega)), ?_⟩, by simp [intOf]; omega⟩
            refine allOk_succ (t := ⟨s, es, nx⟩) hno.out he.out ((Tab.elOk_iff _ _ _).2 ⟨by rw [hv.out]; exact q2.out, by simpa using q3, fun q => by simp at h0; exact absurd q h0, fun _ => by have := hkx.out; simp at q1; simp only; omega⟩)
          · go_wp2_with (go_at_call 51; refine (find_any _ _ _ _ _ _ es _ w.heap.size (by simp; omega) (by exact hE.below (hbr.alloc (by omega) _))).mono ?_; rintro e1 w2 ⟨rfl, hb2⟩)
            go_ret
            exact ⟨ret_bool (Tab.may_no _ he.out (Tab.elOk_no (by rintro ⟨_, r2, _⟩; simp [r2] at q3))).symm, (hbr.alloc (by omega) _).trans (hb2.mono (by simp; omega))⟩
        · go_wp2_with fail
          go_ret
          obtain rfl : k = n := by omega
          refine ⟨ret_bool (Tab.may_yes ?_ (by rw [hl.out]; exact hno.out)).symm, hbr⟩
          simp [Tab.headOk, hl.out, hm] at h3 h0 ⊢
          omega
set_option maxRecDepth 100000 in
set_option maxHeartbeats 4000000 in
theorem refMay_any (s : Sch) (A : Option Addr) (n c nx : Nat) (es : List Ent) (w : World) (hx : nx < 4294967296) (hE : kEnt.At w w.heap.size A n c es) :
    Calls prog 30 #[tabV s A n c nx] w fun e w' => e = .returned (.bool (Tab.may ⟨s, es, nx⟩)) ∧ Below w.heap.size w w' := by
  have hn := hE.nle
  have hl := Lib.hid hE.len
  unfold tabV
  obtain ⟨W1, hW1, hB1, hS1, hC1, hF1, hO1⟩ := boxed w _ rfl #[.int .i64 s.kind, .int .i64 s.cap, .int .i64 s.words, .int .i64 s.ver, .slice A n c, .int .u32 (nx : Int)] 27
  rcases h3 : (s.kind == 3) with _ | _ <;> rcases h0 : (s.kind == 0) with _ | _
  case true.true => simp at h3 h0; omega
  all_goals
    have h3' : (s.kind != 3) = !(s.kind == 3) := rfl
    rw [h3] at h3'
    simp only [Bool.not_false, Bool.not_true] at h3'
    go_enter func30, ntmps30
    go_wp2_with fail
    refine (refSchMay_any _ _ _ _ _).mono ?_
    rintro e w1 ⟨rfl, hb1⟩
    have hw1 := hB1.trans (hb1.mono hB1.size)
    have hC2 := boxAt hb1 (by omega) hC1
    have hsz1 := hb1.size
    rcases hm : Sch.may s with _ | _
    · go_wp2_with fail
      go_ret
      exact ⟨ret_bool (Tab.may_head _ (by simp [Tab.headOk, hm])).symm, hw1⟩
    have hb16 := (Sch.may_bounds hm).2.2.2.1
    by_cases hcap : s.cap < (n : Int)
    · go_wp2_with fail
      go_ret
      exact ⟨ret_bool (Tab.may_head _ (by simp [Tab.headOk, hl.out]; omega)).symm, hw1⟩
  · by_cases hnx : nx = 0
    case neg =>
      have hnxb : ((nx : Int) != 0) = true := by simp; omega
      replace hnx := Lib.hid hnx
      go_wp2_with fail
      go_ret
      exact ⟨ret_bool (Tab.may_head _ (by have := hnx.out; simp at h3; simp [Tab.headOk, h3, this])).symm, hw1⟩
    have hnxb : ((nx : Int) != 0) = false := by simp; omega
    replace hnx := Lib.hid hnx
    go_wp2_with fail
    go_loopw [5] (fun i wr => ∃ k : Nat, k ≤ n ∧ i = .int .i64 k ∧ Below (w.heap.size + 1) w1 wr ∧ (∀ (i : Nat) (x : Ent), i < k → es[i]? = some x → Tab.elOk ⟨s, es, nx⟩ i x = true)) (fun i _ => n - (intOf i).toNat)
    case atStart => exact ⟨0, Nat.zero_le _, rfl, Below.refl _ _, fun i x h => absurd h (by omega)⟩
    case round =>
      obtain ⟨k, hk, rfl, hb, hno⟩ := hrel
      replace hno := Lib.hid hno
      have hbr := hw1.trans (hb.mono (Nat.le_succ _))
      have hsz := hb.size
      have hszr : w.heap.size < wr.heap.size := by omega
      have hCr := boxAt hb (Nat.lt_succ_self _) hC2
      by_cases hlt : k < n
      · obtain ⟨e, ad, A', n', c', he, rfl, hadB, hk0, hk1, hkey, hv⟩ := kEnt.get (hE.below hbr) hlt
        replace he := Lib.hid he
        replace hv := Lib.hid hv.len
        have hki : (k : Int) < (n : Int) := by omega
        have hadB2 : (ad.add (k * 2)).block < w.heap.size + 1 := by rw [add_block]; omega
        by_cases q2 : (n' : Int) = s.words
        case neg =>
          have q2b : ((n' : Int) != s.words) = true := by simp [q2]
          replace q2 := Lib.hid q2
          go_wp2_with fail
          go_quiet (fail)
          go_wp2_with fail
          go_ret
          exact ⟨ret_bool (Tab.may_no _ he.out (Tab.elOk_no (by rintro ⟨r1, _⟩; rw [hv.out] at r1; exact q2.out r1))).symm, below_drewN hbr _⟩
        have q2b : ((n' : Int) != s.words) = false := by simp [q2]
        replace q2 := Lib.hid q2
        rcases q3 : (fidx e.key es 0 != (k : Int)) with _ | _
        case true =>
          go_wp2_with fail
          go_region_held3 (fun w' => ∀ b o, b < w.heap.size + 1 → w'.cell? ⟨b, o, none⟩ = wr.cell? ⟨b, o, none⟩)
              (first | exact fun _ _ _ => rfl | exact fun b o h => (hb2.cell (p := ⟨b, o, none⟩) (by simp; omega)))
            (first | (go_at_call 57; refine (at_any _ _ _ _ _ _ es _ w.heap.size ?_ ?_).mono ?_; (simp; omega); (exact hE.below (below_drewN hbr _)); rintro e1 w2 ⟨rfl, hb2⟩))
          have hbx : Below (w.heap.size + 1) w1 w2 := hb.trans ((below_drewN (Below.refl _ _) 1).trans (hb2.mono (by simp; omega)))
          have hC3 := boxAt hbx (Nat.lt_succ_self _) hC2
          have hbz := hw1.trans (hbx.mono (Nat.le_succ _))
          go_wp2_with fail
          go_ret
          exact ⟨ret_bool (Tab.may_no _ he.out (Tab.elOk_no (by rintro ⟨_, r2, _⟩; simp [r2] at q3))).symm, hbz⟩
        have q1 : True := trivial
        · go_wp2_with fail
          go_region_held3 (fun w' => ∀ b o, b < w.heap.size + 1 → w'.cell? ⟨b, o, none⟩ = wr.cell? ⟨b, o, none⟩)
              (first | exact fun _ _ _ => rfl | exact fun b o h => (hb2.cell (p := ⟨b, o, none⟩) (by simp; omega)))
            (first | (go_at_call 57; refine (at_any _ _ _ _ _ _ es _ w.heap.size ?_ ?_).mono ?_; (simp; omega); (exact hE.below (below_drewN hbr _)); rintro e1 w2 ⟨rfl, hb2⟩))
          have hbx : Below (w.heap.size + 1) w1 w2 := hb.trans ((below_drewN (Below.refl _ _) 1).trans (hb2.mono (by simp; omega)))
          have hC3 := boxAt hbx (Nat.lt_succ_self _) hC2
          have hbz := hw1.trans (hbx.mono (Nat.le_succ _))
          go_wp2_with fail
          refine ⟨⟨k + 1, by omega, by go_num, hbx, ?_⟩, by simp [intOf]; omega⟩
          refine allOk_succ (t := ⟨s, es, nx⟩) hno.out he.out ((Tab.elOk_iff _ _ _).2 ⟨by rw [hv.out]; exact q2.out, by simpa using q3, fun q => by simp at h0; exact absurd q h0, fun q => by simp at h3; exact absurd q h3⟩)
      · go_wp2_with fail
        go_ret
        obtain rfl : k = n := by omega
        refine ⟨ret_bool (Tab.may_yes ?_ (by rw [hl.out]; exact hno.out)).symm, hbr⟩
        have := hnx.out
        simp [Tab.headOk, hl.out, hm] at h3 h0 ⊢
        omega
  · by_cases hnx : nx = 0
    case neg =>
      have hnxb : ((nx : Int) != 0) = true := by simp; omega
      replace hnx := Lib.hid hnx
      go_wp2_with fail
      go_ret
      exact ⟨ret_bool (Tab.may_head _ (by have := hnx.out; simp at h3; simp [Tab.headOk, h3, this])).symm, hw1⟩
    have hnxb : ((nx : Int) != 0) = false := by simp; omega
    replace hnx := Lib.hid hnx
    by_cases hnc : (n : Int) < s.cap
    case pos =>
      go_wp2_with fail
      go_ret
      exact ⟨ret_bool (Tab.may_head _ (by simp at h0; simp [Tab.headOk, h0, hl.out]; omega)).symm, hw1⟩
    go_wp2_with fail
    go_loopw [5] (fun i wr => ∃ k : Nat, k ≤ n ∧ i = .int .i64 k ∧ Below (w.heap.size + 1) w1 wr ∧ (∀ (i : Nat) (x : Ent), i < k → es[i]? = some x → Tab.elOk ⟨s, es, nx⟩ i x = true)) (fun i _ => n - (intOf i).toNat)
    case atStart => exact ⟨0, Nat.zero_le _, rfl, Below.refl _ _, fun i x h => absurd h (by omega)⟩
    case round =>
      obtain ⟨k, hk, rfl, hb, hno⟩ := hrel
      replace hno := Lib.hid hno
      have hbr := hw1.trans (hb.mono (Nat.le_succ _))
      have hsz := hb.size
      have hszr : w.heap.size < wr.heap.size := by omega
      have hCr := boxAt hb (Nat.lt_succ_self _) hC2
      by_cases hlt : k < n
      · obtain ⟨e, ad, A', n', c', he, rfl, hadB, hk0, hk1, hkey, hv⟩ := kEnt.get (hE.below hbr) hlt
        replace he := Lib.hid he
        replace hv := Lib.hid hv.len
        have hki : (k : Int) < (n : Int) := by omega
        have hadB2 : (ad.add (k * 2)).block < w.heap.size + 1 := by rw [add_block]; omega
        by_cases q2 : (n' : Int) = s.words
        case neg =>
          have q2b : ((n' : Int) != s.words) = true := by simp [q2]
          replace q2 := Lib.hid q2
          go_wp2_with fail
          go_quiet (fail)
          go_wp2_with fail
          go_ret
          exact ⟨ret_bool (Tab.may_no _ he.out (Tab.elOk_no (by rintro ⟨r1, _⟩; rw [hv.out] at r1; exact q2.out r1))).symm, below_drewN hbr _⟩
        have q2b : ((n' : Int) != s.words) = false := by simp [q2]
        replace q2 := Lib.hid q2
        rcases q3 : (fidx e.key es 0 != (k : Int)) with _ | _
        case true =>
          go_wp2_with fail
          go_region_held3 (fun w' => ∀ b o, b < w.heap.size + 1 → w'.cell? ⟨b, o, none⟩ = wr.cell? ⟨b, o, none⟩)
              (first | exact fun _ _ _ => rfl | exact fun b o h => (hb2.cell (p := ⟨b, o, none⟩) (by simp; omega)))
            (first | (go_at_call 57; refine (at_any _ _ _ _ _ _ es _ w.heap.size ?_ ?_).mono ?_; (simp; omega); (exact hE.below (below_drewN hbr _)); rintro e1 w2 ⟨rfl, hb2⟩))
          have hbx : Below (w.heap.size + 1) w1 w2 := hb.trans ((below_drewN (Below.refl _ _) 1).trans (hb2.mono (by simp; omega)))
          have hC3 := boxAt hbx (Nat.lt_succ_self _) hC2
          have hbz := hw1.trans (hbx.mono (Nat.le_succ _))
          go_wp2_with fail
          go_ret
          exact ⟨ret_bool (Tab.may_no _ he.out (Tab.elOk_no (by rintro ⟨_, r2, _⟩; simp [r2] at q3))).symm, hbz⟩
        rcases q1 : ((e.key : Int) != (k : Int)) with _ | _
        case true =>
          go_wp2_with fail
          go_region_held3 (fun w' => ∀ b o, b < w.heap.size + 1 → w'.cell? ⟨b, o, none⟩ = wr.cell? ⟨b, o, none⟩)
              (first | exact fun _ _ _ => rfl | exact fun b o h => (hb2.cell (p := ⟨b, o, none⟩) (by simp; omega)))
            (first | (go_at_call 57; refine (at_any _ _ _ _ _ _ es _ w.heap.size ?_ ?_).mono ?_; (simp; omega); (exact hE.below (below_drewN hbr _)); rintro e1 w2 ⟨rfl, hb2⟩))
          have hbx : Below (w.heap.size + 1) w1 w2 := hb.trans ((below_drewN (Below.refl _ _) 1).trans (hb2.mono (by simp; omega)))
          have hC3 := boxAt hbx (Nat.lt_succ_self _) hC2
          have hbz := hw1.trans (hbx.mono (Nat.le_succ _))
          go_wp2_with fail
          go_ret
          exact ⟨ret_bool (Tab.may_no _ he.out (Tab.elOk_no (by rintro ⟨_, _, r3, _⟩; simp at h0; have := r3 h0; simp [this] at q1))).symm, hbz⟩
        · go_wp2_with fail
          go_region_held3 (fun w' => ∀ b o, b < w.heap.size + 1 → w'.cell? ⟨b, o, none⟩ = wr.cell? ⟨b, o, none⟩)
              (first | exact fun _ _ _ => rfl | exact fun b o h => (hb2.cell (p := ⟨b, o, none⟩) (by simp; omega)))
            (first | (go_at_call 57; refine (at_any _ _ _ _ _ _ es _ w.heap.size ?_ ?_).mono ?_; (simp; omega); (exact hE.below (below_drewN hbr _)); rintro e1 w2 ⟨rfl, hb2⟩))
          have hbx : Below (w.heap.size + 1) w1 w2 := hb.trans ((below_drewN (Below.refl _ _) 1).trans (hb2.mono (by simp; omega)))
          have hC3 := boxAt hbx (Nat.lt_succ_self _) hC2
          have hbz := hw1.trans (hbx.mono (Nat.le_succ _))
          go_wp2_with fail
          refine ⟨⟨k + 1, by omega, by go_num, hbx, ?_⟩, by simp [intOf]; omega⟩
          refine allOk_succ (t := ⟨s, es, nx⟩) hno.out he.out ((Tab.elOk_iff _ _ _).2 ⟨by rw [hv.out]; exact q2.out, by simpa using q3, fun _ => by simp at q1; (try simp only); omega, fun q => by simp at h3; exact absurd q h3⟩)
      · go_wp2_with fail
        go_ret
        obtain rfl : k = n := by omega
        refine ⟨ret_bool (Tab.may_yes ?_ (by rw [hl.out]; exact hno.out)).symm, hbr⟩
        have := hnx.out
        simp [Tab.headOk, hl.out, hm] at h3 h0 ⊢
        omega
  · have hnx : True := trivial
    go_wp2_with fail
    go_loopw [5] (fun i wr => ∃ k : Nat, k ≤ n ∧ i = .int .i64 k ∧ Below (w.heap.size + 1) w1 wr ∧ (∀ (i : Nat) (x : Ent), i < k → es[i]? = some x → Tab.elOk ⟨s, es, nx⟩ i x = true)) (fun i _ => n - (intOf i).toNat)
    case atStart => exact ⟨0, Nat.zero_le _, rfl, Below.refl _ _, fun i x h => absurd h (by omega)⟩
    case round =>
      obtain ⟨k, hk, rfl, hb, hno⟩ := hrel
      replace hno := Lib.hid hno
      have hbr := hw1.trans (hb.mono (Nat.le_succ _))
      have hsz := hb.size
      have hszr : w.heap.size < wr.heap.size := by omega
      have hCr := boxAt hb (Nat.lt_succ_self _) hC2
      by_cases hlt : k < n
      · obtain ⟨e, ad, A', n', c', he, rfl, hadB, hk0, hk1, hkey, hv⟩ := kEnt.get (hE.below hbr) hlt
        replace he := Lib.hid he
        replace hv := Lib.hid hv.len
        have hki : (k : Int) < (n : Int) := by omega
        have hadB2 : (ad.add (k * 2)).block < w.heap.size + 1 := by rw [add_block]; omega
        by_cases q2 : (n' : Int) = s.words
        case neg =>
          have q2b : ((n' : Int) != s.words) = true := by simp [q2]
          replace q2 := Lib.hid q2
          go_wp2_with fail
          go_quiet (fail)
          go_wp2_with fail
          go_ret
          exact ⟨ret_bool (Tab.may_no _ he.out (Tab.elOk_no (by rintro ⟨r1, _⟩; rw [hv.out] at r1; exact q2.out r1))).symm, below_drewN hbr _⟩
        have q2b : ((n' : Int) != s.words) = false := by simp [q2]
        replace q2 := Lib.hid q2
        rcases q3 : (fidx e.key es 0 != (k : Int)) with _ | _
        case true =>
          go_wp2_with fail
          go_region_held3 (fun w' => ∀ b o, b < w.heap.size + 1 → w'.cell? ⟨b, o, none⟩ = wr.cell? ⟨b, o, none⟩)
              (first | exact fun _ _ _ => rfl | exact fun b o h => (hb2.cell (p := ⟨b, o, none⟩) (by simp; omega)))
            (first | (go_at_call 57; refine (at_any _ _ _ _ _ _ es _ w.heap.size ?_ ?_).mono ?_; (simp; omega); (exact hE.below (below_drewN hbr _)); rintro e1 w2 ⟨rfl, hb2⟩))
          have hbx : Below (w.heap.size + 1) w1 w2 := hb.trans ((below_drewN (Below.refl _ _) 1).trans (hb2.mono (by simp; omega)))
          have hC3 := boxAt hbx (Nat.lt_succ_self _) hC2
          have hbz := hw1.trans (hbx.mono (Nat.le_succ _))
          go_wp2_with fail
          go_ret
          exact ⟨ret_bool (Tab.may_no _ he.out (Tab.elOk_no (by rintro ⟨_, r2, _⟩; simp [r2] at q3))).symm, hbz⟩
        have hkx : (((nx + (4294967296 - es.length) + k) % 4294967296 : Nat) : Int) = ((nx : Int) - n + k) % 4294967296 := by rw [hl.out]; omega
        replace hkx := Lib.hid hkx
        rcases q1 : (((e.key : Int) + ((n : Int) - k)) % 4294967296 != (nx : Int)) with _ | _
        case true =>
          go_wp2_with fail
          go_region_held3 (fun w' => ∀ b o, b < w.heap.size + 1 → w'.cell? ⟨b, o, none⟩ = wr.cell? ⟨b, o, none⟩)
              (first | exact fun _ _ _ => rfl | exact fun b o h => (hb2.cell (p := ⟨b, o, none⟩) (by simp; omega)))
            (first | (go_at_call 57; refine (at_any _ _ _ _ _ _ es _ w.heap.size ?_ ?_).mono ?_; (simp; omega); (exact hE.below (below_drewN hbr _)); rintro e1 w2 ⟨rfl, hb2⟩))
          have hbx : Below (w.heap.size + 1) w1 w2 := hb.trans ((below_drewN (Below.refl _ _) 1).trans (hb2.mono (by simp; omega)))
          have hC3 := boxAt hbx (Nat.lt_succ_self _) hC2
          have hbz := hw1.trans (hbx.mono (Nat.le_succ _))
          go_wp2_with fail
          go_ret
          exact ⟨ret_bool (Tab.may_no _ he.out (Tab.elOk_no (by rintro ⟨_, _, _, r4⟩; simp at h3; have r5 := r4 h3; have := hkx.out; simp only at r5; rw [← r5] at this; rw [this] at q1; simp at q1; omega))).symm, hbz⟩
        · go_wp2_with fail
          go_region_held3 (fun w' => ∀ b o, b < w.heap.size + 1 → w'.cell? ⟨b, o, none⟩ = wr.cell? ⟨b, o, none⟩)
              (first | exact fun _ _ _ => rfl | exact fun b o h => (hb2.cell (p := ⟨b, o, none⟩) (by simp; omega)))
            (first | (go_at_call 57; refine (at_any _ _ _ _ _ _ es _ w.heap.size ?_ ?_).mono ?_; (simp; omega); (exact hE.below (below_drewN hbr _)); rintro e1 w2 ⟨rfl, hb2⟩))
          have hbx : Below (w.heap.size + 1) w1 w2 := hb.trans ((below_drewN (Below.refl _ _) 1).trans (hb2.mono (by simp; omega)))
          have hC3 := boxAt hbx (Nat.lt_succ_self _) hC2
          have hbz := hw1.trans (hbx.mono (Nat.le_succ _))
          go_wp2_with fail
          refine ⟨⟨k + 1, by omega, by go_num, hbx, ?_⟩, by simp [intOf]; omega⟩
          refine allOk_succ (t := ⟨s, es, nx⟩) hno.out he.out ((Tab.elOk_iff _ _ _).2 ⟨by rw [hv.out]; exact q2.out, by simpa using q3, fun q => by simp at h0; exact absurd q h0, fun _ => by have := hkx.out; simp at q1; simp only; omega⟩)
      · go_wp2_with fail
        go_ret
        obtain rfl : k = n := by omega
        refine ⟨ret_bool (Tab.may_yes ?_ (by rw [hl.out]; exact hno.out)).symm, hbr⟩
        simp [Tab.headOk, hl.out, hm] at h3 h0 ⊢
        omega
def Tab.keyed (t : Tab) (field : Nat) : Bool := t.may && !decide (t.s.kind = 3) && decide ((field : Int) < t.s.words)
theorem Tab.may_sch {t : Tab} (h : t.may = true) : t.s.may = true := by
  have h1 := (t.may_iff.1 h).1
  simp only [Tab.headOk, Bool.and_eq_true] at h1
  exact h1.1.1.1
theorem Tab.may_len {t : Tab} (h : t.may = true) : (t.e.length : Int) ≤ t.s.cap := by
  have h1 := (t.may_iff.1 h).1
  simp only [Tab.headOk, Bool.and_eq_true, decide_eq_true_eq] at h1
  exact h1.1.1.2
set_option maxHeartbeats 2000000 in
theorem words_tab (s : Sch) (A : Option Addr) (n c nx f : Nat) (es : List Ent) (w : World) (hx : nx < 4294967296) (_hf : f < 4294967296) (hE : kEnt.At w w.heap.size A n c es) :
    Calls prog 53 #[tabV s A n c nx, .int .u32 (f : Int)] w fun e w' => e = .returned (.bool (Tab.keyed ⟨s, es, nx⟩ f)) ∧ Below w.heap.size w w' := by
  unfold tabV
  obtain ⟨W1, hW1, hB1, hS1, hC1, hF1, hO1⟩ := boxed w _ rfl #[.int .i64 s.kind, .int .i64 s.cap, .int .i64 s.words, .int .i64 s.ver, .slice A n c, .int .u32 (nx : Int)] 27
  rcases hm : Tab.may ⟨s, es, nx⟩ with _ | _
  · go_enter func53, ntmps53
    go_wp2_with (go_at_call 15; refine (tabMay_any _ _ _ _ _ es _ hx (by exact (hE.below hB1).mono (by omega))).mono ?_; rintro e1 w2 ⟨rfl, hb2⟩)
    go_ret
    exact ⟨ret_bool (by simp [Tab.keyed, hm]), hB1.trans (hb2.mono (by omega))⟩
  · have hb := Sch.may_bounds (Tab.may_sch hm)
    simp only at hb
    obtain ⟨hb1, hb2, hb3, hb4, hb5, hb6, hb7, hb8⟩ := hb
    clear hb7 hb8
    rcases h3 : (s.kind != 3) with _ | _
    all_goals
      go_enter func53, ntmps53
      go_wp2_with (go_at_call 15; refine (tabMay_any _ _ _ _ _ es _ hx (by exact (hE.below hB1).mono (by omega))).mono ?_; rintro e1 w2 ⟨rfl, hb2⟩; have hC2 := boxAt hb2 (by omega) hC1)
      go_ret
      refine ⟨ret_bool ?_, hB1.trans (hb2.mono (by omega))⟩
    · simp at h3
      simp [Tab.keyed, h3]
    · simp at h3
      simp [Tab.keyed, hm, h3]
set_option maxHeartbeats 2000000 in
theorem keyed_any (s : Sch) (A : Option Addr) (n c nx f : Nat) (es : List Ent) (w : World) (hx : nx < 4294967296) (_hf : f < 4294967296) (hE : kEnt.At w w.heap.size A n c es) :
    Calls prog 58 #[tabV s A n c nx, .int .u32 (f : Int)] w fun e w' => e = .returned (.bool (Tab.keyed ⟨s, es, nx⟩ f)) ∧ Below w.heap.size w w' := by
  unfold tabV
  obtain ⟨W1, hW1, hB1, hS1, hC1, hF1, hO1⟩ := boxed w _ rfl #[.int .i64 s.kind, .int .i64 s.cap, .int .i64 s.words, .int .i64 s.ver, .slice A n c, .int .u32 (nx : Int)] 27
  rcases hm : Tab.may ⟨s, es, nx⟩ with _ | _
  · go_enter func58, ntmps58
    go_wp2_with (go_at_call 30; refine (refMay_any _ _ _ _ _ es _ hx (by exact (hE.below hB1).mono (by omega))).mono ?_; rintro e1 w2 ⟨rfl, hb2⟩)
    go_ret
    exact ⟨ret_bool (by simp [Tab.keyed, hm]), hB1.trans (hb2.mono (by omega))⟩
  · have hb := Sch.may_bounds (Tab.may_sch hm)
    simp only at hb
    obtain ⟨hb1, hb2, hb3, hb4, hb5, hb6, hb7, hb8⟩ := hb
    clear hb7 hb8
    rcases h3 : (s.kind != 3) with _ | _
    all_goals
      go_enter func58, ntmps58
      go_wp2_with (go_at_call 30; refine (refMay_any _ _ _ _ _ es _ hx (by exact (hE.below hB1).mono (by omega))).mono ?_; rintro e1 w2 ⟨rfl, hb2⟩; have hC2 := boxAt hb2 (by omega) hC1)
      go_ret
      refine ⟨ret_bool ?_, hB1.trans (hb2.mono (by omega))⟩
    · simp at h3
      simp [Tab.keyed, h3]
    · simp at h3
      simp [Tab.keyed, hm, h3]
def Tab.has (t : Tab) (key f : Nat) : Bool := t.keyed f && decide (0 ≤ fidx key t.e 0)
def Tab.idx (t : Tab) (key : Nat) : Nat := (fidx key t.e 0).toNat
def Tab.word (t : Tab) (i f : Nat) : Nat := (((t.e[i]?).elim [] Ent.v)[f]?).getD 0
def Tab.get (t : Tab) (key f : Nat) : Tab × Nat × Bool :=
  if t.has key f then ({ t with e := touch t.s.kind t.e (t.idx key) }, t.word (t.idx key) f, true) else (t, 0, false)
theorem fidx_nat {key : Nat} {es : List Ent} (h : 0 ≤ fidx key es 0) : fidx key es 0 = (((fidx key es 0).toNat : Nat) : Int) ∧ (fidx key es 0).toNat < es.length := by
  have := fidx_lt key es 0
  omega
theorem Tab.keyed_may {t : Tab} {f : Nat} (h : t.keyed f = true) : t.may = true ∧ t.s.kind ≠ 3 ∧ (f : Int) < t.s.words := by
  simpa [Tab.keyed, and_assoc] using h
set_option maxRecDepth 100000 in
set_option maxHeartbeats 2000000 in
theorem get_any (s : Sch) (A : Option Addr) (n c nx key f : Nat) (es : List Ent) (w : World) (hx : nx < 4294967296) (hf : f < 4294967296) (hfit : fits es) (hE : kEnt.At w w.heap.size A n c es) :
    Calls prog 17 #[tabV s A n c nx, .int .u32 (key : Int), .int .u32 (f : Int)] w fun e w' => ∃ A' c' us, e = .returned (.tuple #[tabV s A' n c' nx, .int .u32 ((Tab.get ⟨s, es, nx⟩ key f).2.1 : Int), .bool (Tab.get ⟨s, es, nx⟩ key f).2.2]) ∧ OwnEs w' w.heap.size (.slice A' n c') (Tab.get ⟨s, es, nx⟩ key f).1.e us ∧ Below w.heap.size w w' := by
  have hl := Lib.hid hE.len
  unfold tabV
  obtain ⟨W1, hW1, hB1, hS1, hG1, hO1, hP1⟩ := boxedB w _ rfl #[.int .i64 s.kind, .int .i64 s.cap, .int .i64 s.words, .int .i64 s.ver, .slice A n c, .int .u32 (nx : Int)] 27
  obtain ⟨W2, hW2, hB2, hS2, hG2, hO2, hP2⟩ := boxedB W1 _ hS1 #[.int .i64 0, .int .i64 0, .int .i64 0, .int .i64 0, .slice none 0 0, .int .u32 0] 27
  have hC1 := (hG1.below hB2 (Nat.lt_succ_self _)).cell
  have hb2 := hB1.trans (hB2.mono (Nat.le_succ _))
  clear hO1 hP1 hO2 hP2
  rcases hkd : Tab.keyed ⟨s, es, nx⟩ f with _ | _ <;> rcases hpos : decide (0 ≤ fidx key es 0) with _ | _
  all_goals
    obtain ⟨x, hfi, hx1⟩ : ∃ x : Int, fidx key es 0 = x ∧ Hid (x = fidx key es 0) := ⟨_, rfl, rfl⟩
    replace hfi := Lib.hid hfi
    go_enter func17, ntmps17
    go_wp2_with fail
    refine (own_any s A n c nx es _ hfit (by exact (hE.below hb2).mono (by omega))).mono ?_
    rintro e1 w3 ⟨A', us, rfl, hown, hb3⟩
    rw [hS2] at hown hb3
    have hs3 := hb3.size
    have hb03 := hb2.trans (hb3.mono (by omega))
    have hC13 := ((hG1.below hB2 (Nat.lt_succ_self _)).below hb3 (by omega)).cell
    obtain ⟨W4, hW4, hB4, hS4, hG4, hO4, hP4⟩ := boxedB w3 _ rfl #[.int .i64 s.kind, .int .i64 s.cap, .int .i64 s.words, .int .i64 s.ver, .slice A' n n, .int .u32 (nx : Int)] 27
    have hC4 := hG4.cell
    have hb04 := hb03.trans (hB4.mono (by omega))
    clear hO4 hP4
    unfold tabV
    have hE3 := hown.at_
    have hE4 := (hE3.below hB4).mono (B' := W4.heap.size) (by omega)
    go_wp2_with fail
    refine (find_any s A' n n nx key es _ W4.heap.size (by omega) hE4).mono ?_
    rintro e1 w5 ⟨rfl, hb5⟩
    rw [hfi.out]
    have hs5 := hb5.size
    have hC15 := (((hG1.below hB2 (Nat.lt_succ_self _)).below hb3 (by omega)).below hB4 (by omega)).below hb5 (by omega)
    have hC15' := hC15.cell
    have hG45 := hG4.below hb5 (by omega)
    have hC45 := hG45.cell
    have hb05 := hb04.trans (hb5.mono (by omega))
    go_wp2_with fail
    refine (words_tab s A n c nx f es _ hx hf (by exact (hE.below hb05).mono (by omega))).mono ?_
    rintro e1 w6 ⟨rfl, hb6⟩
    have hs6 := hb6.size
    have hG46 := hG45.below hb6 (by omega)
    have hC46 := hG46.cell
    have hG26 := (((hG2.below hb3 (by omega)).below hB4 (by omega)).below hb5 (by omega)).below hb6 (by omega)
    have hC26 := hG26.cell
    have hF26 := hG26.frozen
    have hb06 := hb05.trans (hb6.mono (by omega))
    have hO6 := ((hown.below hB4).below (hb5.mono (by omega))).below (hb6.mono (by omega))
  · have hg : Tab.get ⟨s, es, nx⟩ key f = (⟨s, es, nx⟩, 0, false) := by simp [Tab.get, Tab.has, hkd]
    replace hg := Lib.hid hg
    have hres := hG26.setBox [.int .i64 s.kind, .int .i64 s.cap, .int .i64 s.words, .int .i64 s.ver, .slice A' n n, .int .u32 (nx : Int)] rfl
    have ho7 := setAll_only (w.heap.size + 1) [.int .i64 s.kind, .int .i64 s.cap, .int .i64 s.words, .int .i64 s.ver, .slice A' n n, .int .u32 (nx : Int)] 0 w6
    go_wp2_with fail
    refine bodyPost_ret (results_ctt results17 rfl hres underlying27 rfl (by kernel_rfl)) rfl ?_
    rw [hg.out]
    exact ⟨A', n, us, rfl, (hO6.far ho7 (by omega)).mono (by omega), Only.below hb06 ho7 (by omega) (by omega)⟩
  · have hg : Tab.get ⟨s, es, nx⟩ key f = (⟨s, es, nx⟩, 0, false) := by simp [Tab.get, Tab.has, hkd]
    replace hg := Lib.hid hg
    have hres := hG26.setBox [.int .i64 s.kind, .int .i64 s.cap, .int .i64 s.words, .int .i64 s.ver, .slice A' n n, .int .u32 (nx : Int)] rfl
    have ho7 := setAll_only (w.heap.size + 1) [.int .i64 s.kind, .int .i64 s.cap, .int .i64 s.words, .int .i64 s.ver, .slice A' n n, .int .u32 (nx : Int)] 0 w6
    go_wp2_with fail
    refine bodyPost_ret (results_ctt results17 rfl hres underlying27 rfl (by kernel_rfl)) rfl ?_
    rw [hg.out]
    exact ⟨A', n, us, rfl, (hO6.far ho7 (by omega)).mono (by omega), Only.below hb06 ho7 (by omega) (by omega)⟩
  · have hxm : (x == -1) = true := by
      have := fidx_lt key es 0
      have := hx1.out
      simp at hpos ⊢
      omega
    have hg : Tab.get ⟨s, es, nx⟩ key f = (⟨s, es, nx⟩, 0, false) := by simp [Tab.get, Tab.has, hkd, hpos]
    replace hg := Lib.hid hg
    have hres := hG26.setBox [.int .i64 s.kind, .int .i64 s.cap, .int .i64 s.words, .int .i64 s.ver, .slice A' n n, .int .u32 (nx : Int)] rfl
    have ho7 := setAll_only (w.heap.size + 1) [.int .i64 s.kind, .int .i64 s.cap, .int .i64 s.words, .int .i64 s.ver, .slice A' n n, .int .u32 (nx : Int)] 0 w6
    go_wp2_with fail
    refine bodyPost_ret (results_ctt results17 rfl hres underlying27 rfl (by kernel_rfl)) rfl ?_
    rw [hg.out]
    exact ⟨A', n, us, rfl, (hO6.far ho7 (by omega)).mono (by omega), Only.below hb06 ho7 (by omega) (by omega)⟩
  · simp only [decide_eq_true_eq] at hpos
    obtain ⟨hxi, hil⟩ := fidx_nat hpos
    obtain ⟨i, hii⟩ : ∃ i, i = (fidx key es 0).toNat := ⟨_, rfl⟩
    rw [← hii] at hxi hil
    have hxi' : x = (i : Int) := hx1.out.trans hxi
    subst hxi'
    have hin : i < n := by rw [← hl.out]; exact hil
    have hxm : ((i : Int) == -1) = false := by simp
    have hg : Tab.get ⟨s, es, nx⟩ key f = (⟨s, touch s.kind es i, nx⟩, Tab.word ⟨s, es, nx⟩ i f, true) := by
      simp [Tab.get, Tab.has, hkd, hpos, Tab.idx, ← hii]
    obtain ⟨g, rfl, hg1, hg2, _⟩ := hown.block (by omega)
    obtain ⟨e, he⟩ : ∃ e, es[i]? = some e := ⟨_, List.getElem?_eq_getElem hil⟩
    obtain ⟨u, hu⟩ : ∃ u, us[i]? = some u := ⟨_, List.getElem?_eq_getElem (by rw [hO6.len]; exact hil)⟩
    obtain ⟨hmay, hk3, hfw⟩ := Tab.keyed_may hkd
    have hew := ((Tab.elOk_iff _ _ _).1 ((Tab.may_iff _).1 hmay |>.2 i e he)).1
    simp only at hew hfw
    obtain ⟨y, hy⟩ : ∃ y, e.v[f]? = some y := ⟨_, List.getElem?_eq_getElem (by omega)⟩
    have hword : Tab.word ⟨s, es, nx⟩ i f = y := by simp [Tab.word, he, hy]
    rw [hword] at hg
    replace hg := Lib.hid hg
    have hfl : (f : Int) < (e.v.length : Int) := by omega
    replace hew := Lib.hid hew
    clear hfi hword hpos hxi hii hx1 hmay
    go_wp2_with fail
    refine (last_any s g n n nx i es us _ (w.heap.size + 1 + 1) hO6 hl.out hin).mono ?_
    rintro e1 w7 ⟨rfl, ho7, hO7⟩
    obtain ⟨us', hus'⟩ : ∃ us', us' = touch s.kind us i := ⟨_, rfl⟩
    obtain ⟨j, hj2⟩ : ∃ j, j = tpos s.kind n i := ⟨_, rfl⟩
    have hj : j < n := by rw [hj2]; exact tpos_lt hin
    have he7 : (touch s.kind es i)[j]? = es[i]? := by rw [hj2, ← hl.out]; exact touch_get hil
    have hu7 : us'[j]? = us[i]? := by rw [hj2, hus', ← hl.out, ← hO6.len]; exact touch_get (by rw [hO6.len]; exact hil)
    rw [← hus'] at hO7
    rw [← hj2]
    clear hus' hj2
    have hs7 := ho7.size
    have hG47 := (hG46.grown ho7 (by simp; omega)).cell
    have hG27 := hG26.grown ho7 (by simp; omega)
    have hC27 := hG27.cell
    have hF27 := hG27.frozen
    have hb07 := Only.below hb06 ho7 (by omega) (by omega)
    obtain ⟨c0, c1⟩ := hO7.cells_ (he7.trans he) (hu7.trans hu)
    obtain ⟨hval, _⟩ := hO7.val j e u (he7.trans he) (hu7.trans hu)
    obtain ⟨gu, cu, rfl, hgu1, hgu2, hcu, hcw, hfz⟩ := hval.cells_ hy
    have hji : (j : Int) < (n : Int) := by omega
    replace hu := Lib.hid hu
    replace he := Lib.hid he
    replace hu7 := Lib.hid hu7
    replace he7 := Lib.hid he7
    replace hy := Lib.hid hy
    go_wp2_with fail
    have hne1 : ¬ w3.heap.size = w.heap.size + 1 := by omega
    have hne2 : ¬ g = w.heap.size + 1 := by omega
    have hne3 : ¬ gu = w.heap.size + 1 := by omega
    go_region_held3 (fun w' => ∀ b o, b ≠ w.heap.size + 1 → w'.cell? ⟨b, o, none⟩ = w7.cell? ⟨b, o, none⟩)
      ((intro b o hb; simp only [World.cell?_drew, cell_set_ne hb]))
      (fail)
    have hres := hG27.setBox [.int .i64 s.kind, .int .i64 s.cap, .int .i64 s.words, .int .i64 s.ver, .slice (some ⟨g, 0, none⟩) n n, .int .u32 (nx : Int)] rfl
    have hres' := hres.drew
    have ho8 := setAll_only (w.heap.size + 1) [.int .i64 s.kind, .int .i64 s.cap, .int .i64 s.words, .int .i64 s.ver, .slice (some ⟨g, 0, none⟩) n n, .int .u32 (nx : Int)] 0 w7
    have hb8 := Only.below hb07 ho8 (by omega) (by omega)
    have hO8 := (hO7.far ho8 (by omega)).mono (show w.heap.size ≤ w.heap.size + 1 + 1 by omega)
    go_wp2_with fail
    refine bodyPost_ret (results_ctt results17 rfl hres' underlying27 rfl (by kernel_rfl)) rfl ?_
    rw [hg.out]
    exact ⟨some ⟨g, 0, none⟩, n, us', rfl, hO8.below (below_drewN (Below.refl _ _) 1), below_drewN hb8 1⟩
section
variable {P : Program} {ops : Array Oper} {rest : List Oper} {o : Oper} {a : Act} {w w' : World} {K : Act → World → Prop} {Q : Exit → Act → World → Prop} {E : Prop}
theorem wp_runApp (s x : Operand) (t u : TypeId) (ho : o.op = .call { callee := .builtin .append, args := #[s, x], argTypes := #[t, u] }) {vs vx v' : Value} (hs : a.eval s = vs) (hx : a.eval x = vx)
    (hrun : (Builtin.append_ #[t, u] o.type #[vs, vx]).run P w = .ok v' w') (h : K (a.put o.dst v') w') : o.wp P a w K Q := by
  unfold Oper.wp execOp
  simp only [ho, resolve, invoke, builtin, Sem.run_bind, Sem.run_pure, Result.andThen_ok, List.map_toArray, List.map_cons, List.map_nil, hs, hx, hrun]
  exact h
theorem wpList_runApp (hgd : o.guard = none) (s x : Operand) (t u : TypeId) (ho : o.op = .call { callee := .builtin .append, args := #[s, x], argTypes := #[t, u] }) {vs vx v' : Value} (hs : a.eval s = vs) (hx : a.eval x = vx)
    (hrun : (Builtin.append_ #[t, u] o.type #[vs, vx]).run P w = .ok v' w') (h : wpList P ops Q rest (a.put o.dst v') w') : wpList P ops Q (o :: rest) a w :=
  wpList_plain hgd fun _ hK => wp_runApp s x t u ho hs hx hrun (hK _ _ h)
theorem step_runApp (hgd : o.guard = none) (s x : Operand) (t u : TypeId) (ho : o.op = .call { callee := .builtin .append, args := #[s, x], argTypes := #[t, u] }) {vs vx v' : Value} (hs : a.eval s = vs) (hx : a.eval x = vx)
    (hrun : (Builtin.append_ #[t, u] o.type #[vs, vx]).run P w = .ok v' w') (h : K (a.put o.dst v') w') : if Region.wanted o (yielded ops a.tmps) = true then Oper.wp P o a w K Q else E := by
  have hw : Region.wanted o (yielded ops a.tmps) = true := by simp [Region.wanted, hgd]
  rw [if_pos hw]
  exact wp_runApp s x t u ho hs hx hrun h
end
theorem OwnW.kept {w w' : World} {base : Nat} {u : Value} {xs : List Nat} {row : Option Nat} (h : OwnW w base u xs) (hg : w.grownBy w' row) (hne : u.ownBlock = none ∨ u.ownBlock ≠ row) : OwnW w' base u xs := ⟨h.row.kept hg hne, h.lt⟩
theorem OwnW.not_row {w : World} {base base' : Nat} {u v : Value} {xs : List Nat} {n : Nat} {cs : List Value} (h : OwnW w base u xs) (hr : w.ownsRow base' 41 2 v n cs) : u.ownBlock = none ∨ u.ownBlock ≠ v.ownBlock := by
  cases hv : v.ownBlock with
  | none => cases hu : u.ownBlock <;> simp
  | some b => exact .inr (h.blk_ne hr hv)
theorem OwnEs.snoc {w w' : World} {base base' : Nat} {v' u : Value} {es : List Ent} {us : List Value} {e : Ent} {row : Option Nat} (hlen : us.length = es.length)
    (hval : ∀ (i : Nat) (e : Ent) (u : Value), es[i]? = some e → us[i]? = some u → OwnW w base u e.v ∧ e.key < 4294967296) (hl : Lone us)
    (hrow : w'.ownsRow base' 41 2 v' (es.length + 1) (entCells es us ++ [.int .u32 (e.key : Int), u])) (hb : base ≤ base') (hg : w.grownBy w' row) (hne : ∀ u' ∈ us ++ [u], u'.ownBlock = none ∨ u'.ownBlock ≠ row)
    (hu : OwnW w base u e.v) (hk : e.key < 4294967296) (hlone : ∀ (i : Nat) (u' : Value) (b : Nat), us[i]? = some u' → u.ownBlock = some b → u'.ownBlock ≠ some b) : OwnEs w' base v' (es ++ [e]) (us ++ [u]) := by
  refine ⟨by simp [hlen], ?_, fun i e' u' he hu' => ?_, fun i j x y b hij hx hy hb' => ?_⟩
  · rw [entCells_append hlen, List.length_append]
    exact own_mono hrow hb
  · rcases Nat.lt_or_ge i es.length with hi | hi
    · rw [List.getElem?_append_left hi] at he
      rw [List.getElem?_append_left (by omega)] at hu'
      obtain ⟨h1, h2⟩ := hval i e' u' he hu'
      exact ⟨h1.kept hg (hne u' (List.mem_append_left _ (List.mem_of_getElem? hu'))), h2⟩
    · have h1 := (List.getElem?_eq_some_iff.1 he).1
      simp at h1
      obtain rfl : i = es.length := by omega
      rw [List.getElem?_append_right (by omega)] at he hu'
      simp [hlen] at he hu'
      subst he
      subst hu'
      exact ⟨hu.kept hg (hne u (by simp)), hk⟩
  · have hi := (List.getElem?_eq_some_iff.1 hx).1
    have hj := (List.getElem?_eq_some_iff.1 hy).1
    simp at hi hj
    rcases Nat.lt_or_ge i us.length with h1 | h1
    · rw [List.getElem?_append_left h1] at hx
      rcases Nat.lt_or_ge j us.length with h2 | h2
      · rw [List.getElem?_append_left h2] at hy
        exact hl i j x y b hij hx hy hb'
      · obtain rfl : j = us.length := by omega
        rw [List.getElem?_append_right (by omega)] at hy
        simp at hy
        subst hy
        intro hyb
        exact hlone i x b hx hyb hb'
    · obtain rfl : i = us.length := by omega
      rw [List.getElem?_append_right (by omega)] at hx
      simp at hx
      subst hx
      rw [List.getElem?_append_left (by omega)] at hy
      exact hlone j y b hy hb'
theorem pair_cells {w : World} {ad : Addr} {x y : Value} (h0 : w.cell? ad = some x) (h1 : w.cell? (ad.add 1) = some y) : ∀ (j : Nat) (u : Value), [x, y][j]? = some u → w.cell? (ad.add j) = some u := by
  intro j u hu
  match j with
  | 0 => cases hu; rw [show ad.add 0 = ad from rfl]; exact h0
  | 1 => cases hu; exact h1
  | j + 2 => simp at hu
theorem run_appEnt {w : World} {base : Nat} {v u : Value} {es : List Ent} {us : List Value} {e : Ent} (hO : OwnEs w base v es us) (ad : Addr) (h0 : w.cell? ad = some (.int .u32 (e.key : Int))) (h1 : w.cell? (ad.add 1) = some u)
    (hu : OwnW w base u e.v) (hk : e.key < 4294967296) (hlone : ∀ (i : Nat) (u' : Value) (b : Nat), us[i]? = some u' → u.ownBlock = some b → u'.ownBlock ≠ some b) (hl : es.length ≤ 1048576) (hbase : base ≤ w.heap.size) :
    ∃ v' w', (Builtin.append_ #[24, 24] 24 #[v, .slice (some ad) 1 1]).run prog w = .ok v' w' ∧ OwnEs w' base v' (es ++ [e]) (us ++ [u]) ∧ w.grownBy w' v.ownBlock ∧ (v'.ownBlock = v.ownBlock ∨ v'.ownBlock = some w.heap.size) := by
  obtain ⟨i, hi, hz, hs, hb⟩ := info_parts info_ent
  obtain ⟨_, c, rfl, _⟩ := hu.reads
  obtain ⟨v', w', hrun, hrow, hg, _, hat⟩ := run_append_own_at (P := prog) w base 24 24 41 i _ 2 32 underlying24 hi hz hs hb rfl (by omega) v es.length (entCells es us) hO.row ad 1 1
    [.int .u32 (e.key : Int), _] rfl (pair_cells h0 h1) (by intro x hx; simp at hx; rcases hx with rfl | rfl <;> rfl) (by simp only [maxLen]; omega) (by omega) hbase
  refine ⟨v', w', hrun, OwnEs.snoc hO.len hO.val hO.lone hrow (Nat.le_refl _) hg ?_ hu hk hlone, hg, hat⟩
  intro u' hm
  rcases List.mem_append.1 hm with hm | hm
  · obtain ⟨i, hi⟩ := List.mem_iff_getElem?.1 hm
    have hil : i < es.length := by rw [← hO.len]; exact (List.getElem?_eq_some_iff.1 hi).1
    exact (hO.val i _ u' (List.getElem?_eq_getElem hil) hi).1.not_row hO.row
  · simp at hm
    subst hm
    exact hu.not_row hO.row
theorem entCells_drop1 {es : List Ent} {us : List Value} (h : us.length = es.length) : (entCells es us).drop 2 = entCells (es.drop 1) (us.drop 1) := by
  cases es <;> cases us <;> simp [entCells] at h ⊢
theorem run_appCut {w : World} {base g n : Nat} {u : Value} {es : List Ent} {us : List Value} {e : Ent} (hO : OwnEs w base (.slice (some ⟨g, 0, none⟩) n n) es us) (hn : es.length = n) (hn0 : 0 < n) (ad : Addr) (h0 : w.cell? ad = some (.int .u32 (e.key : Int))) (h1 : w.cell? (ad.add 1) = some u)
    (hu : OwnW w base u e.v) (hk : e.key < 4294967296) (hlone : ∀ (i : Nat) (u' : Value) (b : Nat), us[i]? = some u' → u.ownBlock = some b → u'.ownBlock ≠ some b) (hl : n ≤ 1048576) (hbase : base ≤ w.heap.size) :
    ∃ v' w', (Builtin.append_ #[24, 24] 24 #[.slice (cutA (some ⟨g, 0, none⟩) n 1 2) (n - 1) (n - 1), .slice (some ad) 1 1]).run prog w = .ok v' w' ∧ OwnEs w' base v' (es.drop 1 ++ [e]) (us.drop 1 ++ [u]) ∧ w.grownBy w' none := by
  obtain ⟨i, hi, hz, hs, hb⟩ := info_parts info_ent
  obtain ⟨_, c, rfl, _⟩ := hu.reads
  have hus := hO.len
  rw [hn] at hus
  obtain ⟨b, hcut, holds⟩ : ∃ b, cutA (some ⟨g, 0, none⟩) n 1 2 = some b ∧ ∀ (j : Nat) (u : Value), (entCells (es.drop 1) (us.drop 1))[j]? = some u → w.cell? (b.add j) = some u := by
    rcases Nat.lt_or_ge 1 n with h1n | h1n
    · refine ⟨_, cutA_lt h1n, fun j x hx => ?_⟩
      rw [← entCells_drop1 hO.len, List.getElem?_drop] at hx
      rw [add_add, show 1 * 2 + j = 2 + j by omega]
      exact hO.row.cells (g := g) rfl _ _ hx
    · obtain rfl : n = 1 := by omega
      refine ⟨⟨g, 0, none⟩, by simp [cutA], fun j x hx => ?_⟩
      rw [List.drop_eq_nil_of_le (by omega)] at hx
      simp [entCells] at hx
  rw [hcut]
  have hlen : (entCells (es.drop 1) (us.drop 1)).length = (n - 1) * 2 := by rw [entCells_length (by simp [hO.len]), List.length_drop, hn]
  obtain ⟨v', w', hrun, hrow, hg⟩ := run_append_arg_grows (P := prog) w 24 24 41 i _ 2 32 underlying24 hi hz hs hb rfl (by omega) b (n - 1) (n - 1) (entCells (es.drop 1) (us.drop 1)) hlen holds ad 1 1
    [.int .u32 (e.key : Int), _] rfl (pair_cells h0 h1) (by omega) (by simp only [maxLen]; omega) (by omega)
  refine ⟨v', w', hrun, OwnEs.snoc (by simp [hO.len]) (fun i e' u' he hu' => ?_) ?_ (by rw [List.length_drop, hn]; exact hrow) hbase hg ?_ hu hk ?_, hg⟩
  · rw [List.getElem?_drop] at he hu'
    exact hO.val _ e' u' he hu'
  · intro p q x y b hpq hx hy hb
    rw [List.getElem?_drop] at hx hy
    exact hO.lone _ _ x y b (by omega) hx hy hb
  · intro u' _
    cases u'.ownBlock <;> simp
  · intro i u' b' hu' hb'
    rw [List.getElem?_drop] at hu'
    exact hlone _ u' b' hu' hb'
def updE (l : List Ent) (i f x : Nat) : List Ent :=
  match l[i]? with
  | some e => l.set i { e with v := e.v.set f x }
  | none => l
def Tab.zero : Tab := ⟨⟨0, 0, 0, 0⟩, [], 0⟩
def Tab.grow (t : Tab) (key : Nat) : List Ent :=
  (if (t.e.length : Int) = t.s.cap then t.e.drop 1 else t.e) ++ [⟨key, List.replicate t.s.words.toNat 0⟩]
def Tab.set (t : Tab) (key f x : Nat) : Tab × Int :=
  if t.keyed f = false then (Tab.zero, 1)
  else if 0 ≤ fidx key t.e 0 then ({ t with e := touch t.s.kind (updE t.e (t.idx key) f x) (t.idx key) }, 0)
  else if t.s.kind = 0 then (Tab.zero, 3)
  else if t.s.kind = 1 ∧ (t.e.length : Int) = t.s.cap then (Tab.zero, 4)
  else ({ t with e := touch t.s.kind (updE (t.grow key) ((t.grow key).length - 1) f x) ((t.grow key).length - 1) }, 0)
structure SetMid (s : Sch) (b0 b10 : Nat) (w : World) (nx f x : Nat) (T : Tab × Int) (i g n c : Nat) (es : List Ent) (us : List Value) (wx : World) : Prop where
  lt : i < n
  len : es.length = n
  small : n ≤ 1048577
  own : OwnEs wx (b0 + 1 + 1) (.slice (some ⟨g, 0, none⟩) n c) es us
  box : Blk wx b10 27 #[.int .i64 s.kind, .int .i64 s.cap, .int .i64 s.words, .int .i64 s.ver, .slice (some ⟨g, 0, none⟩) n c, .int .u32 (nx : Int)]
  res : Blk wx (b0 + 1) 27 #[.int .i64 0, .int .i64 0, .int .i64 0, .int .i64 0, .slice none 0 0, .int .u32 0]
  below : Below b0 w wx
  ne : g ≠ b10
  spec : T = (⟨s, touch s.kind (updE es i f x) i, nx⟩, 0)
  word : ∀ e, es[i]? = some e → f < e.v.length
set_option maxRecDepth 100000 in
set_option maxHeartbeats 4000000 in
theorem set_any (s : Sch) (A : Option Addr) (n c nx key f x : Nat) (es : List Ent) (w : World) (hx : nx < 4294967296) (hf : f < 4294967296) (hk : key < 4294967296) (hxx : x < 4294967296) (hfit : fits es) (hE : kEnt.At w w.heap.size A n c es) :
    Calls prog 18 #[tabV s A n c nx, .int .u32 (key : Int), .int .u32 (f : Int), .int .u32 (x : Int)] w fun e w' => ∃ A' n' c' us, e = .returned (.tuple #[tabV (Tab.set ⟨s, es, nx⟩ key f x).1.s A' n' c' (Tab.set ⟨s, es, nx⟩ key f x).1.next, .int .i64 (Tab.set ⟨s, es, nx⟩ key f x).2]) ∧ OwnEs w' w.heap.size (.slice A' n' c') (Tab.set ⟨s, es, nx⟩ key f x).1.e us ∧ Below w.heap.size w w' := by
  have hl := Lib.hid hE.len
  obtain ⟨T, hT⟩ : ∃ T, T = Tab.set ⟨s, es, nx⟩ key f x := ⟨_, rfl⟩
  rw [← hT]
  replace hT := Lib.hid hT
  unfold tabV
  obtain ⟨W1, hW1, hB1, hS1, hG1, hO1, hP1⟩ := boxedB w _ rfl #[.int .i64 s.kind, .int .i64 s.cap, .int .i64 s.words, .int .i64 s.ver, .slice A n c, .int .u32 (nx : Int)] 27
  obtain ⟨W2, hW2, hB2, hS2, hG2, hO2, hP2⟩ := boxedB W1 _ hS1 #[.int .i64 0, .int .i64 0, .int .i64 0, .int .i64 0, .slice none 0 0, .int .u32 0] 27
  have hC1 := (hG1.below hB2 (Nat.lt_succ_self _)).cell
  have hb2 := hB1.trans (hB2.mono (Nat.le_succ _))
  clear hO1 hP1 hO2 hP2
  obtain ⟨xx, hfi, hx1⟩ : ∃ xx : Int, fidx key es 0 = xx ∧ Hid (xx = fidx key es 0) := ⟨_, rfl, rfl⟩
  replace hfi := Lib.hid hfi
  go_enter func18, ntmps18
  go_wp2_with fail
  refine (own_any s A n c nx es _ hfit (by exact (hE.below hb2).mono (by omega))).mono ?_
  rintro e1 w3 ⟨A', us, rfl, hown, hb3⟩
  rw [hS2] at hown hb3
  have hs3 := hb3.size
  have hb03 := hb2.trans (hb3.mono (by omega))
  obtain ⟨W4, hW4, hB4, hS4, hG4, hO4, hP4⟩ := boxedB w3 _ rfl #[.int .i64 s.kind, .int .i64 s.cap, .int .i64 s.words, .int .i64 s.ver, .slice A' n n, .int .u32 (nx : Int)] 27
  have hC4 := hG4.cell
  have hb04 := hb03.trans (hB4.mono (by omega))
  clear hO4 hP4
  unfold tabV
  have hE3 := hown.at_
  have hE4 := (hE3.below hB4).mono (B' := W4.heap.size) (by omega)
  go_wp2_with fail
  refine (find_any s A' n n nx key es _ W4.heap.size (by omega) hE4).mono ?_
  rintro e1 w5 ⟨rfl, hb5⟩
  rw [hfi.out]
  have hs5 := hb5.size
  have hG15 := (((hG1.below hB2 (Nat.lt_succ_self _)).below hb3 (by omega)).below hB4 (by omega)).below hb5 (by omega)
  have hC15 := hG15.cell
  have hG45 := hG4.below hb5 (by omega)
  have hC45 := hG45.cell
  have hb05 := hb04.trans (hb5.mono (by omega))
  go_upto_block 0 with fail
  go_cut [11, 12] (fun s11 s12 wx => ∃ (i g n1 c1 : Nat) (es1 : List Ent) (us1 : List Value), s11 = .int .i64 (i : Int) ∧ SetMid s w.heap.size w3.heap.size w nx f x T i g n1 c1 es1 us1 wx)
  case first =>
    go_wp2_with fail
    refine (words_tab s A n c nx f es _ hx hf (by exact (hE.below hb05).mono (by omega))).mono ?_
    rintro e1 w6 ⟨rfl, hb6⟩
    have hs6 := hb6.size
    have hG46 := hG45.below hb6 (by omega)
    have hC46 := hG46.cell
    have hG26 := (((hG2.below hb3 (by omega)).below hB4 (by omega)).below hb5 (by omega)).below hb6 (by omega)
    have hC26 := hG26.cell
    have hF26 := hG26.frozen
    have hb06 := hb05.trans (hb6.mono (by omega))
    have hO6 := ((hown.below hB4).below (hb5.mono (by omega))).below (hb6.mono (by omega))
    rcases hkd : Tab.keyed ⟨s, es, nx⟩ f with _ | _
    · have hTv : T = (Tab.zero, 1) := by rw [hT.out]; simp [Tab.set, hkd]
      replace hTv := Lib.hid hTv
      have hr7 := hG26.setBox [.int .i64 0, .int .i64 0, .int .i64 0, .int .i64 0, .slice none 0 0, .int .u32 0] rfl
      have ho7 := setAll_only (w.heap.size + 1) [.int .i64 0, .int .i64 0, .int .i64 0, .int .i64 0, .slice none 0 0, .int .u32 0] 0 w6
      have hb7 := Only.below hb06 ho7 (by omega) (by omega)
      go_wp2_with fail
      refine bodyPost_ret (results_ct results18 rfl hr7 underlying27 rfl (by kernel_rfl)) rfl ?_
      rw [hTv.out]
      exact ⟨none, 0, 0, [], rfl, OwnEs.nil_ _ _, hb7⟩
    obtain ⟨hmay, hk3, hfw⟩ := Tab.keyed_may hkd
    simp only at hk3 hfw
    have hsch := Sch.may_bounds (Tab.may_sch hmay)
    simp only at hsch
    have hlen := Tab.may_len hmay
    simp only [hl.out] at hlen
    by_cases hpos : 0 ≤ fidx key es 0
    · obtain ⟨hxi, hil⟩ := fidx_nat hpos
      obtain ⟨i, hii⟩ : ∃ i, i = (fidx key es 0).toNat := ⟨_, rfl⟩
      rw [← hii] at hxi hil
      have hxi' : xx = (i : Int) := hx1.out.trans hxi
      subst hxi'
      have hin : i < n := by rw [← hl.out]; exact hil
      have hxm : ((i : Int) != -1) = true := by simp
      have hTv : T = (⟨s, touch s.kind (updE es i f x) i, nx⟩, 0) := by rw [hT.out]; simp [Tab.set, hkd, hpos, Tab.idx, ← hii]
      replace hTv := Lib.hid hTv
      obtain ⟨g, rfl, hg1, hg2, _⟩ := hown.block (by omega)
      have hwd : ∀ e, es[i]? = some e → f < e.v.length := by
        intro e he
        have := ((Tab.elOk_iff _ _ _).1 ((Tab.may_iff _).1 hmay |>.2 i e he)).1
        simp only at this
        omega
      replace hwd := Lib.hid hwd
      have hn16 : n ≤ 1048577 := by omega
      clear hpos hxi hii hx1 hmay hfi
      go_wp2_with fail
      go_meet
      exact ⟨i, g, n, n, es, us, rfl, hin, hl.out, hn16, hO6, hG46, hG26, hb06, by omega, hTv.out, hwd.out⟩
    have hxm : (xx != -1) = false := by
      have := fidx_lt key es 0
      have := hx1.out
      simp
      omega
    by_cases hk0 : s.kind = 0
    · have hTv : T = (Tab.zero, 3) := by rw [hT.out]; simp [Tab.set, hkd, hpos, hk0]
      replace hTv := Lib.hid hTv
      have hk0' : (s.kind == 0) = true := by simp [hk0]
      clear hk0 hpos
      have hr7 := hG26.setBox [.int .i64 0, .int .i64 0, .int .i64 0, .int .i64 0, .slice none 0 0, .int .u32 0] rfl
      have ho7 := setAll_only (w.heap.size + 1) [.int .i64 0, .int .i64 0, .int .i64 0, .int .i64 0, .slice none 0 0, .int .u32 0] 0 w6
      have hb7 := Only.below hb06 ho7 (by omega) (by omega)
      go_wp2_with fail
      refine bodyPost_ret (results_ct results18 rfl hr7 underlying27 rfl (by kernel_rfl)) rfl ?_
      rw [hTv.out]
      exact ⟨none, 0, 0, [], rfl, OwnEs.nil_ _ _, hb7⟩
    have hk0' : (s.kind == 0) = false := by simp [hk0]
    by_cases hk1 : s.kind = 1 ∧ (n : Int) = s.cap
    · have hTv : T = (Tab.zero, 4) := by rw [hT.out]; simp [Tab.set, hkd, hpos, hk1.1, hl.out, hk1.2]
      replace hTv := Lib.hid hTv
      have hk1' : (s.kind == 1) = true := by simp [hk1.1]
      have hf1' : ((n : Int) == s.cap) = true := by simp [hk1.2]
      clear hk0 hpos hk1
      have hr7 := hG26.setBox [.int .i64 0, .int .i64 0, .int .i64 0, .int .i64 0, .slice none 0 0, .int .u32 0] rfl
      have ho7 := setAll_only (w.heap.size + 1) [.int .i64 0, .int .i64 0, .int .i64 0, .int .i64 0, .slice none 0 0, .int .u32 0] 0 w6
      have hb7 := Only.below hb06 ho7 (by omega) (by omega)
      go_wp2_with fail
      refine bodyPost_ret (results_ct results18 rfl hr7 underlying27 rfl (by kernel_rfl)) rfl ?_
      rw [hTv.out]
      exact ⟨none, 0, 0, [], rfl, OwnEs.nil_ _ _, hb7⟩
    obtain ⟨m, hm⟩ : ∃ m : Nat, s.words = (m : Int) := ⟨s.words.toNat, by omega⟩
    have hm4 : m ≤ 4 := by omega
    have hmk : ∀ W : World, (Instr.makeSlice 39 (.int .i64 s.words) (.int .i64 s.words)).run prog W = .ok (.slice (some ⟨W.heap.size, 0, none⟩) m m) (W.alloc (.cells (madeCells #[.int .u32 0] m) 25)) := by
      intro W
      rw [hm]
      have := run_makeN (P := prog) 39 25 _ 1 4 underlying39 info_u32 m (by omega) (by omega) W
      rw [Nat.mul_one] at this
      exact this
    have hmt : s.words.toNat = m := by omega
    have hgrow := Lib.hid (show Tab.grow ⟨s, es, nx⟩ key = (if (es.length : Int) = s.cap then es.drop 1 else es) ++ [⟨key, List.replicate s.words.toNat 0⟩] from rfl)
    have hTg : T = (⟨s, touch s.kind (updE (Tab.grow ⟨s, es, nx⟩ key) ((Tab.grow ⟨s, es, nx⟩ key).length - 1) f x) ((Tab.grow ⟨s, es, nx⟩ key).length - 1), nx⟩, 0) := by
      rw [hT.out]
      unfold Tab.set
      rw [if_neg (by simp [hkd]), if_neg (by simpa using hpos), if_neg (by simpa using hk0), if_neg (by simpa [hl.out] using hk1)]
    replace hTg := Lib.hid hTg
    have hfm : f < m := by omega
    have hcap1 := hsch.2.2.1
    replace hm := Lib.hid hm
    by_cases hfull : (n : Int) = s.cap
    case neg =>
      have hf1' : ((n : Int) == s.cap) = false := by simp [hfull]
      have hn15 : n ≤ 15 := by omega
      obtain ⟨W7, hW7, hB7, hS7, hG7, hO7, hP7⟩ := boxedB w6 _ rfl (madeCells #[.int .u32 0] m) 25
      obtain ⟨W8, hW8, hB8, hS8, hG8, hO8, hP8⟩ := boxedB W7 _ hS7 #[.int .u32 (key : Int), .slice (some ⟨w6.heap.size, 0, none⟩) m m] 41
      have hB68 := hB7.trans (hB8.mono (Nat.le_succ _))
      have hown8 := hO6.below hB68
      have hG78 := hG7.below hB8 (Nat.lt_succ_self _)
      have hu8 := OwnW.made (base := w.heap.size + 1 + 1) hG78 (by omega) (by simp only [maxLen]; omega)
      have hC8 := hG8.cell
      obtain ⟨v9, w9, hrun, hO9, hg9, hat9⟩ := run_appEnt (w := W8.drew) (e := ⟨key, List.replicate m 0⟩) (hown8.below (below_drewN (Below.refl _ _) 1)) ⟨w6.heap.size + 1, 0, none⟩ ((hC8 0).trans rfl) (by rw [add_lit0]; exact (hC8 1).trans rfl)
        (hu8.below (below_drewN (Below.refl _ _) 1)) hk (fun i u' b hu' hb hb' => by
          have hil : i < es.length := by rw [← hO6.len]; exact (List.getElem?_eq_some_iff.1 hu').1
          have := ((hO6.val i _ u' (List.getElem?_eq_getElem hil) hu').1.row.lt b hb').2
          simp only [Value.ownBlock, Option.some.injEq] at hb
          omega) (by rw [hl.out]; omega) (show w.heap.size + 1 + 1 ≤ W8.heap.size by omega)
      have hE9 := hO9.reads
      obtain ⟨A9, c9, rfl, _⟩ := hE9
      obtain ⟨g9, rfl, hg9b, hg9l, _⟩ := hO9.block (by simp)
      have hln : (es ++ [Ent.mk key (List.replicate m 0)]).length = n + 1 := by simp [hl.out]
      rw [hln] at hrun hO9 hat9
      have hb4 : w3.heap.size < W8.heap.size := by omega
      have hne9 : ∀ b, b < w3.heap.size + 1 → w3.heap.size ≤ b ∨ b = w.heap.size + 1 ∨ b < w.heap.size → some b ≠ (Value.slice A' n n).ownBlock := by
        intro b hb hb' he
        have := (hown.row.lt b (by rw [he])).2
        have := (hown.row.lt b (by rw [he])).1
        omega
      have hG49 : Blk w9 w3.heap.size _ _ := ((hG46.below hB68 (by omega)).drew).grown hg9 (hne9 _ (by omega) (by omega))
      have hG29 : Blk w9 (w.heap.size + 1) _ _ := ((hG26.below hB68 (by omega)).drew).grown hg9 (hne9 _ (by omega) (by omega))
      have hC49 := hG49.cell
      have hF49 := hG49.frozen
      have hb09 : Below w.heap.size w w9 := (Below.drew (hb06.trans (hB68.mono (by omega)))).grown hg9 (show w.heap.size ≤ W8.heap.size by omega) (fun b hb => by have := (hown.row.lt b hb).1; omega)
      obtain ⟨W10, hW10, ho10, hs10, hG10, hO10, hP10⟩ := storedB hG49 4 (.slice (some ⟨g9, 0, none⟩) (n + 1) c9)
      have hC10 := hG10.cell
      have hb010 := Only.below hb09 ho10 (by omega) (by have := hg9.size; simp at this; omega)
      have hgrn : Tab.grow ⟨s, es, nx⟩ key = es ++ [⟨key, List.replicate m 0⟩] := by rw [hgrow.out, if_neg (by rw [hl.out]; exact hfull), hmt]
      replace hgrn := Lib.hid hgrn
      have hCb := ((hG46.below hB68 (by omega))).cell
      have hCa := ((hG46.below hB7 (by omega))).cell
      have hwd : ∀ e, (es ++ [Ent.mk key (List.replicate m 0)])[n]? = some e → f < e.v.length := by
        intro e he
        rw [List.getElem?_append_right (by rw [hl.out]; exact Nat.le_refl _), hl.out] at he
        simp at he
        subst he
        simp
        exact hfm
      have hTv : T = (⟨s, touch s.kind (updE (es ++ [Ent.mk key (List.replicate m 0)]) n f x) n, nx⟩, 0) := by
        rw [hTg.out, hgrn.out, hln]
        rfl
      replace hTv := Lib.hid hTv
      replace hwd := Lib.hid hwd
      have hmid : SetMid s w.heap.size w3.heap.size w nx f x T n g9 (n + 1) c9 (es ++ [Ent.mk key (List.replicate m 0)]) (us ++ [Value.slice (some ⟨w6.heap.size, 0, none⟩) m m]) W10 :=
        ⟨by omega, hln, by omega, hO9.box hG49 ho10 (by decide) (by decide), hG10, hG29.grown ho10 (by simp; omega), hb010, hO9.ne_box hG49 (by decide), hTv.out, hwd.out⟩
      replace hmid := Lib.hid hmid
      rcases hk1b : (s.kind == 1) with _ | _
      all_goals
        clear hO10 hP10 hO7 hP7 hO8 hP8
        go_wp2_with fail
        go_region_law (refine step_runApp rfl _ _ _ _ rfl rfl rfl hrun ?_)
        all_goals
          go_wp2_with fail
          go_meet
          exact ⟨n, g9, n + 1, c9, _, _, rfl, hmid⟩
    obtain ⟨g, rfl, hg1, hg2, _⟩ := hown.block (by omega)
    have hf1' : ((n : Int) == s.cap) = true := by simp [hfull]
    have hk1b : (s.kind == 1) = false := by simp; omega
    have hn16 : n ≤ 16 := by omega
    have hn1 : 1 ≤ n := by omega
    replace hfull := Lib.hid hfull
    have hsl := run_cut (P := prog) 24 41 2 underlying24 (by kernel_rfl) (some ⟨g, 0, none⟩) n n 1 1 rfl hn1
    obtain ⟨W61, hW61, ho61, hs61, hG461, hO1_, hP1_⟩ := storedB hG46 4 (.slice (cutA (some ⟨g, 0, none⟩) n 1 2) (n - 1) (n - 1))
    have hO61 := hO6.box hG46 ho61 (by decide) (by decide)
    have hG261 := hG26.grown ho61 (by simp; omega)
    have hC461 := hG461.cell
    have hF46 := hG46.frozen
    have hb061 := Only.below hb06 ho61 (by omega) (by omega)
    obtain ⟨W7, hW7, hB7, hS7, hG7, hO7, hP7⟩ := boxedB W61 _ hs61 (madeCells #[.int .u32 0] m) 25
    obtain ⟨W8, hW8, hB8, hS8, hG8, hO8, hP8⟩ := boxedB W7 _ hS7 #[.int .u32 (key : Int), .slice (some ⟨w6.heap.size, 0, none⟩) m m] 41
    have hB68 := hB7.trans (hB8.mono (Nat.le_succ _))
    have hown8 := hO61.below (hs61 ▸ hB68)
    have hG78 := hG7.below hB8 (Nat.lt_succ_self _)
    have hu8 := OwnW.made (base := w.heap.size + 1 + 1) hG78 (by omega) (by simp only [maxLen]; omega)
    have hC8 := hG8.cell
    obtain ⟨v9, w9, hrun, hO9, hg9⟩ := run_appCut (w := W8.drew) (e := ⟨key, List.replicate m 0⟩) (hown8.below (below_drewN (Below.refl _ _) 1)) hl.out (by omega) ⟨w6.heap.size + 1, 0, none⟩ ((hC8 0).trans rfl) (by rw [add_lit0]; exact (hC8 1).trans rfl)
      (hu8.below (below_drewN (Below.refl _ _) 1)) hk (fun i u' b hu' hb hb' => by
        have hil : i < es.length := by rw [← hO6.len]; exact (List.getElem?_eq_some_iff.1 hu').1
        have := ((hO6.val i _ u' (List.getElem?_eq_getElem hil) hu').1.row.lt b hb').2
        simp only [Value.ownBlock, Option.some.injEq] at hb
        omega) (by omega) (show w.heap.size + 1 + 1 ≤ W8.heap.size by omega)
    have hE9 := hO9.reads
    obtain ⟨A9, c9, rfl, _⟩ := hE9
    obtain ⟨g9, rfl, hg9b, hg9l, _⟩ := hO9.block (by simp)
    have hln : (es.drop 1 ++ [Ent.mk key (List.replicate m 0)]).length = n := by simp [hl.out]; omega
    rw [hln] at hrun hO9
    have hb4 : w3.heap.size < W8.heap.size := by omega
    have hG49 := ((hG461.below hB68 (by omega)).drew).grown hg9 (by simp)
    have hG29 := ((hG261.below hB68 (by omega)).drew).grown hg9 (by simp)
    have hC49 := hG49.cell
    have hF49 := hG49.frozen
    have hb09 : Below w.heap.size w w9 := (Below.drew (hb061.trans (hB68.mono (by omega)))).grown hg9 (show w.heap.size ≤ W8.heap.size by omega) (fun b hb => by cases hb)
    obtain ⟨W10, hW10, ho10, hs10, hG10, hO10, hP10⟩ := storedB hG49 4 (.slice (some ⟨g9, 0, none⟩) n c9)
    have hC10 := hG10.cell
    have hb010 := Only.below hb09 ho10 (by omega) (by have := hg9.size; simp at this; omega)
    have hgrn : Tab.grow ⟨s, es, nx⟩ key = es.drop 1 ++ [⟨key, List.replicate m 0⟩] := by rw [hgrow.out, if_pos (by rw [hl.out]; exact hfull.out), hmt]
    replace hgrn := Lib.hid hgrn
    have hCb := ((hG461.below hB68 (by omega))).cell
    have hCa := ((hG461.below hB7 (by omega))).cell
    have hwd : ∀ e, (es.drop 1 ++ [Ent.mk key (List.replicate m 0)])[n - 1]? = some e → f < e.v.length := by
      intro e he
      have hdl : (es.drop 1).length = n - 1 := by rw [List.length_drop, hl.out]
      rw [List.getElem?_append_right (by rw [hdl]; exact Nat.le_refl _), hdl, Nat.sub_self] at he
      simp at he
      subst he
      simp
      exact hfm
    have hTv : T = (⟨s, touch s.kind (updE (es.drop 1 ++ [Ent.mk key (List.replicate m 0)]) (n - 1) f x) (n - 1), nx⟩, 0) := by
      rw [hTg.out, hgrn.out, hln]
    replace hTv := Lib.hid hTv
    replace hwd := Lib.hid hwd
    have hmid : SetMid s w.heap.size w3.heap.size w nx f x T (n - 1) g9 n c9 (es.drop 1 ++ [Ent.mk key (List.replicate m 0)]) (us.drop 1 ++ [Value.slice (some ⟨w6.heap.size, 0, none⟩) m m]) W10 :=
      ⟨by omega, hln, by omega, hO9.box hG49 ho10 (by decide) (by decide), hG10, hG29.grown ho10 (by simp; omega), hb010, hO9.ne_box hG49 (by decide), hTv.out, hwd.out⟩
    replace hmid := Lib.hid hmid
    clear hO10 hP10 hO7 hP7 hO8 hP8 hO1_ hP1_
    go_wp2_with fail
    go_region_law (refine step_runApp rfl _ _ _ _ rfl rfl rfl hrun ?_)
    all_goals
      go_wp2_with fail
      go_meet
      exact ⟨n - 1, g9, n, c9, _, _, by rw [show ((n : Int) - 1) = ((n - 1 : Nat) : Int) by omega], hmid⟩
  case rest =>
    obtain ⟨i, g, n1, c1, es1, us1, rfl, hm⟩ := hcut
    have hC4c := hm.box.cell
    have hwc := hm.below
    have hgl : g < wc.heap.size := by
      obtain ⟨g', hg', _, hlt, _⟩ := hm.own.block (by have := hm.lt; omega)
      cases hg'
      exact hlt
    have hgb : w.heap.size + 1 + 1 ≤ g := by
      obtain ⟨g', hg', hlt, _⟩ := hm.own.block (by have := hm.lt; omega)
      cases hg'
      exact hlt
    have hbox := hm.box.lt
    have hres := hm.res
    have hne := hm.ne
    have hmO := Lib.hid hm.own
    have hil : i < es1.length := by rw [hm.len]; exact hm.lt
    have hiu : i < us1.length := by rw [hm.own.len]; exact hil
    obtain ⟨e, he⟩ : ∃ e, es1[i]? = some e := ⟨_, List.getElem?_eq_getElem hil⟩
    obtain ⟨u, hu⟩ : ∃ u, us1[i]? = some u := ⟨_, List.getElem?_eq_getElem hiu⟩
    have hfe := hm.word e he
    obtain ⟨y, hy⟩ : ∃ y, e.v[f]? = some y := ⟨_, List.getElem?_eq_getElem hfe⟩
    have hfl : (f : Int) < (e.v.length : Int) := by omega
    go_wp2_with fail
    refine (last_any s g n1 c1 nx i es1 us1 _ (w.heap.size + 1 + 1) hm.own hm.len hm.lt).mono ?_
    rintro e1 w7 ⟨rfl, ho7, hO7⟩
    have hs7 := ho7.size
    have hj0 := tpos_lt (kind := s.kind) hm.lt
    have he7 : (touch s.kind es1 i)[tpos s.kind n1 i]? = some e := by rw [← hm.len, touch_get hil, he]
    have hu7 : (touch s.kind us1 i)[tpos s.kind n1 i]? = some u := by rw [← hm.len, ← hm.own.len, touch_get hiu, hu]
    have hspec : touch s.kind (updE es1 i f x) i = (touch s.kind es1 i).set (tpos s.kind n1 i) { e with v := e.v.set f x } := by
      rw [← hm.len, touch_set hil]
      simp [updE, he]
    replace hspec := Lib.hid hspec
    obtain ⟨j, hj⟩ : ∃ j, tpos s.kind n1 i = j := ⟨_, rfl⟩
    rw [hj] at he7 hu7 hspec hj0 ⊢
    clear hj
    obtain ⟨c0, c1'⟩ := hO7.cells_ he7 hu7
    obtain ⟨hval, _⟩ := hO7.val j e u he7 hu7
    obtain ⟨gu, cu, rfl, hgu1, hgu2, hcu, hcw, hfz⟩ := hval.cells_ hy
    have hG47 := hm.box.grown ho7 (by simp; omega)
    have hG27 := hm.res.grown ho7 (by simp; omega)
    have hgu4 := hval.ne_blk hG47 (by decide)
    have hC47 := hG47.cell
    have hji : (j : Int) < (n1 : Int) := by omega
    have hO8 := hO7.setWord he7 hu7 hxx (f := f)
    obtain ⟨W8, hW8⟩ : ∃ W, w7.setCell ⟨gu, f, none⟩ (.int .u32 (x : Int)) = W := ⟨_, rfl⟩
    rw [hW8] at hO8
    have ho8 : Only gu w7 W8 := by rw [← hW8]; exact Only.setCell _ _ _ _
    have hs8 := ho8.size
    have hG48 := hG47.grown ho8 (by simp; omega)
    have hG28 := hG27.grown ho8 (by simp; omega)
    have hC48 := hG48.cell
    have hC28 := hG28.cell
    have hF28 := hG28.frozen
    have hr9 := hG28.setBox [.int .i64 s.kind, .int .i64 s.cap, .int .i64 s.words, .int .i64 s.ver, .slice (some ⟨g, 0, none⟩) n1 c1, .int .u32 (nx : Int)] rfl
    have ho9 := setAll_only (w.heap.size + 1) [.int .i64 s.kind, .int .i64 s.cap, .int .i64 s.words, .int .i64 s.ver, .slice (some ⟨g, 0, none⟩) n1 c1, .int .u32 (nx : Int)] 0 W8
    have hb9 := Only.below (Only.below (Only.below hm.below ho7 (by omega) (by have := hm.below.size; omega)) ho8 (by omega) (by have := hm.below.size; omega)) ho9 (by omega) (by have := hm.below.size; omega)
    have hO9 := (hO8.far ho9 (by omega)).mono (show w.heap.size ≤ w.heap.size + 1 + 1 by omega)
    have hsp := Lib.hid hm.spec
    clear he hu he7 hu7 hy hC4c c0
    clear hm
    go_wp2_with fail
    refine bodyPost_ret (results_ct results18 rfl hr9 underlying27 rfl (by kernel_rfl)) rfl ?_
    rw [hsp.out]
    refine ⟨some ⟨g, 0, none⟩, n1, c1, touch s.kind us1 i, rfl, ?_, hb9⟩
    simp only
    rw [hspec.out]
    exact hO9
def newEs (k m : Nat) : List Ent := (List.range k).map fun i => ⟨i, List.replicate m 0⟩
theorem newEs_succ (k m : Nat) : newEs (k + 1) m = newEs k m ++ [⟨k, List.replicate m 0⟩] := by simp [newEs, List.range_succ]
theorem newEs_length (k m : Nat) : (newEs k m).length = k := by simp [newEs]
theorem newEs_zero (m : Nat) : newEs 0 m = [] := rfl
def Tab.new (s : Sch) : Tab × Int :=
  if s.may = false then (Tab.zero, 1) else (⟨s, if s.kind = 0 then newEs s.cap.toNat s.words.toNat else [], 0⟩, 0)
structure NewRel (s : Sch) (b0 b4 m : Nat) (w : World) (k : Nat) (A : Option Addr) (c : Nat) (us : List Value) (wr : World) : Prop where
  own : OwnEs wr (b0 + 1 + 1) (.slice A k c) (newEs k m) us
  box : Blk wr b4 27 #[.int .i64 s.kind, .int .i64 s.cap, .int .i64 s.words, .int .i64 s.ver, .slice A k c, .int .u32 0]
  res : Blk wr (b0 + 1) 27 #[.int .i64 0, .int .i64 0, .int .i64 0, .int .i64 0, .slice none 0 0, .int .u32 0]
  par : Blk wr b0 23 #[.int .i64 s.kind, .int .i64 s.cap, .int .i64 s.words, .int .i64 s.ver]
  below : Below b0 w wr
set_option maxRecDepth 100000 in
set_option maxHeartbeats 4000000 in
theorem new_any (s : Sch) (w : World) :
    Calls prog 28 #[.agg #[.int .i64 s.kind, .int .i64 s.cap, .int .i64 s.words, .int .i64 s.ver]] w fun e w' => ∃ A' n' c' us, e = .returned (.tuple #[tabV (Tab.new s).1.s A' n' c' (Tab.new s).1.next, .int .i64 (Tab.new s).2]) ∧ OwnEs w' w.heap.size (.slice A' n' c') (Tab.new s).1.e us ∧ Below w.heap.size w w' := by
  obtain ⟨T, hT⟩ : ∃ T, T = Tab.new s := ⟨_, rfl⟩
  rw [← hT]
  replace hT := Lib.hid hT
  obtain ⟨W1, hW1, hB1, hS1, hG1, hO1, hP1⟩ := boxedB w _ rfl #[.int .i64 s.kind, .int .i64 s.cap, .int .i64 s.words, .int .i64 s.ver] 23
  obtain ⟨W2, hW2, hB2, hS2, hG2, hO2, hP2⟩ := boxedB W1 _ hS1 #[.int .i64 0, .int .i64 0, .int .i64 0, .int .i64 0, .slice none 0 0, .int .u32 0] 27
  have hC1 := (hG1.below hB2 (Nat.lt_succ_self _)).cell
  have hb2 := hB1.trans (hB2.mono (Nat.le_succ _))
  clear hO1 hP1 hO2 hP2
  go_enter func28, ntmps28
  go_wp2_with fail
  refine (schMay_any _ _ _ _ _).mono ?_
  rintro e1 w3 ⟨rfl, hb3⟩
  rw [hS2] at hb3
  have hs3 := hb3.size
  have hG13 := (hG1.below hB2 (Nat.lt_succ_self _)).below hb3 (by omega)
  have hC13 := hG13.cell
  have hG23 := hG2.below hb3 (by omega)
  have hC23 := hG23.cell
  have hF23 := hG23.frozen
  have hb03 := hb2.trans (hb3.mono (by omega))
  rcases hm : Sch.may ⟨s.kind, s.cap, s.words, s.ver⟩ with _ | _
  · have hTv : T = (Tab.zero, 1) := by
      rw [hT.out]
      unfold Tab.new
      rw [if_pos (by exact hm)]
    replace hTv := Lib.hid hTv
    have hr7 := hG23.setBox [.int .i64 0, .int .i64 0, .int .i64 0, .int .i64 0, .slice none 0 0, .int .u32 0] rfl
    have ho7 := setAll_only (w.heap.size + 1) [.int .i64 0, .int .i64 0, .int .i64 0, .int .i64 0, .slice none 0 0, .int .u32 0] 0 w3
    have hb7 := Only.below hb03 ho7 (by omega) (by omega)
    go_wp2_with fail
    refine bodyPost_ret (results_ct results28 rfl hr7 underlying27 rfl (by kernel_rfl)) rfl ?_
    rw [hTv.out]
    exact ⟨none, 0, 0, [], rfl, OwnEs.nil_ _ _, hb7⟩
  have hsch := Sch.may_bounds hm
  simp only at hsch
  obtain ⟨m, hmw⟩ : ∃ m : Nat, s.words = (m : Int) := ⟨s.words.toNat, by omega⟩
  obtain ⟨cp, hcp⟩ : ∃ cp : Nat, s.cap = (cp : Int) := ⟨s.cap.toNat, by omega⟩
  have hm4 : m ≤ 4 := by omega
  have hc16 : cp ≤ 16 := by omega
  have hTg : T = (⟨s, if s.kind = 0 then newEs cp m else [], 0⟩, 0) := by
    rw [hT.out]
    unfold Tab.new
    rw [if_neg (by rw [show s.may = true from hm]; simp), show s.cap.toNat = cp by omega, show s.words.toNat = m by omega]
  replace hTg := Lib.hid hTg
  have hmk : ∀ W : World, (Instr.makeSlice 39 (.int .i64 s.words) (.int .i64 s.words)).run prog W = .ok (.slice (some ⟨W.heap.size, 0, none⟩) m m) (W.alloc (.cells (madeCells #[.int .u32 0] m) 25)) := by
    intro W
    rw [hmw]
    have := run_makeN (P := prog) 39 25 _ 1 4 underlying39 info_u32 m (by omega) (by omega) W
    rw [Nat.mul_one] at this
    exact this
  obtain ⟨W4, hW4, hB4, hS4, hG4, hO4, hP4⟩ := boxedB w3 _ rfl #[.int .i64 s.kind, .int .i64 s.cap, .int .i64 s.words, .int .i64 s.ver, .slice none 0 0, .int .u32 0] 27
  obtain ⟨W5, hW5, ho5, hs5, hG5, hO5, hP5⟩ := storedB hG4 4 (.slice none 0 0)
  obtain ⟨W6, hW6, ho6, hs6, hG6, hO6, hP6⟩ := storedB hG5 5 (.int .u32 0)
  have hG6 : Blk W6 w3.heap.size 27 #[.int .i64 s.kind, .int .i64 s.cap, .int .i64 s.words, .int .i64 s.ver, .slice none 0 0, .int .u32 0] := hG6
  have hb04 := Only.below (Only.below (hb03.trans (hB4.mono (by omega))) ho5 (by omega) (by omega)) ho6 (by omega) (by omega)
  have hG14 := ((hG13.below hB4 (by omega)).grown ho5 (by simp; omega)).grown ho6 (by simp; omega)
  have hG24 := ((hG23.below hB4 (by omega)).grown ho5 (by simp; omega)).grown ho6 (by simp; omega)
  have hC4 := hG4.cell
  have hF4 := hG4.frozen
  have hC5 := hG5.cell
  have hF5 := hG5.frozen
  have hC6 := hG6.cell
  have hF6 := hG6.frozen
  clear hO5 hP5 hO6 hP6
  replace hmw := Lib.hid hmw
  replace hcp := Lib.hid hcp
  clear hO4 hP4
  rcases hk0 : (s.kind == 0) with _ | _
  · have hTv : T = (⟨s, [], 0⟩, 0) := by
      rw [hTg.out, if_neg (by simpa using hk0)]
    replace hTv := Lib.hid hTv
    have hC14 := hG14.cell
    have hC24 := hG24.cell
    have hF24 := hG24.frozen
    have hr7 := hG24.setBox [.int .i64 s.kind, .int .i64 s.cap, .int .i64 s.words, .int .i64 s.ver, .slice none 0 0, .int .u32 0] rfl
    have ho7 := setAll_only (w.heap.size + 1) [.int .i64 s.kind, .int .i64 s.cap, .int .i64 s.words, .int .i64 s.ver, .slice none 0 0, .int .u32 0] 0 W6
    have hb7 := Only.below hb04 ho7 (by omega) (by omega)
    go_wp2_with fail
    go_loopw [5] (fun i wr => i = .int .i64 0 ∧ wr = W6) (fun i _ => 0)
    case atStart => exact ⟨rfl, rfl⟩
    case round =>
      obtain ⟨rfl, rfl⟩ := hrel
      go_wp2_with fail
      refine bodyPost_ret (results_ct results28 rfl hr7 underlying27 rfl (by kernel_rfl)) rfl ?_
      rw [hTv.out]
      exact ⟨none, 0, 0, [], rfl, OwnEs.nil_ _ _, hb7⟩
  have hTv : T = (⟨s, newEs cp m, 0⟩, 0) := by
    rw [hTg.out, if_pos (by simpa using hk0)]
  replace hTv := Lib.hid hTv
  have hC14 := hG14.cell
  go_wp2_with fail
  go_loopw [5] (fun i wr => ∃ k : Nat, k ≤ cp ∧ i = .int .i64 k ∧ w3.heap.size < wr.heap.size ∧ ∃ A c us, NewRel s w.heap.size w3.heap.size m w k A c us wr) (fun i _ => cp - (intOf i).toNat)
  case atStart =>
    exact ⟨0, Nat.zero_le _, rfl, by omega, none, 0, [], OwnEs.nil_ _ _, hG6, hG24, hG14, hb04⟩
  case round =>
    obtain ⟨k, hk, rfl, hsz, A, c, us, hrel⟩ := hrel
    have hb0r := hrel.below
    have hown := hrel.own
    have hboxr := hrel.box
    have hresr := hrel.res
    have hparr := hrel.par
    have hCb := hboxr.cell
    have hFb := hboxr.frozen
    have hCp := hparr.cell
    have hnl := Lib.hid (newEs_length k m)
    clear hrel
    by_cases hlt : k < cp
    · have hki : (k : Int) < s.cap := by rw [hcp.out]; omega
      have hk32 : IntKind.u32.wrap (k : Int) = (k : Int) := IntWalk.u32_in _ (by omega)
      obtain ⟨W7, hW7, hB7, hS7, hG7, hO7, hP7⟩ := boxedB wr _ rfl (madeCells #[.int .u32 0] m) 25
      obtain ⟨W8, hW8, hB8, hS8, hG8, hO8, hP8⟩ := boxedB W7 _ hS7 #[.int .u32 (k : Int), .slice (some ⟨wr.heap.size, 0, none⟩) m m] 41
      have hB68 := hB7.trans (hB8.mono (Nat.le_succ _))
      have hown8 := hown.below hB68
      have hG78 := hG7.below hB8 (Nat.lt_succ_self _)
      have hs0 : w.heap.size + 1 + 1 ≤ wr.heap.size := by omega
      have hu8 := OwnW.made (base := w.heap.size + 1 + 1) hG78 hs0 (by simp only [maxLen]; omega)
      have hC8 := hG8.cell
      obtain ⟨v9, w9, hrun, hO9, hg9, hat9⟩ := run_appEnt (w := W8.drew) (e := ⟨k, List.replicate m 0⟩) (hown8.below (below_drewN (Below.refl _ _) 1)) ⟨wr.heap.size + 1, 0, none⟩ ((hC8 0).trans rfl) (by rw [add_lit0]; exact (hC8 1).trans rfl)
        (hu8.below (below_drewN (Below.refl _ _) 1)) (show k < 4294967296 by omega) (fun i u' b hu' hb hb' => by
          have hil : i < (newEs k m).length := by rw [← hown.len]; exact (List.getElem?_eq_some_iff.1 hu').1
          have := ((hown.val i _ u' (List.getElem?_eq_getElem hil) hu').1.row.lt b hb').2
          simp only [Value.ownBlock, Option.some.injEq] at hb
          omega) (by rw [hnl.out]; omega) (show w.heap.size + 1 + 1 ≤ W8.heap.size by omega)
      rw [← newEs_succ] at hO9
      have hE9 := hO9.reads
      obtain ⟨A9, c9, rfl, _⟩ := hE9
      have hln : (newEs (k + 1) m).length = k + 1 := newEs_length _ _
      rw [hln] at hrun hO9 hat9
      have hne9 : ∀ {b t cs}, Blk wr b t cs → t ≠ 41 → some b ≠ (Value.slice A k c).ownBlock := fun hb ht he => row_ne_box hown.row hb ht he.symm
      have hG49 : Blk w9 w3.heap.size _ _ := ((hboxr.below hB68 (by omega)).drew).grown hg9 (hne9 hboxr (by decide))
      have hG29 : Blk w9 (w.heap.size + 1) _ _ := ((hresr.below hB68 (by omega)).drew).grown hg9 (hne9 hresr (by decide))
      have hG19 : Blk w9 w.heap.size _ _ := ((hparr.below hB68 (by omega)).drew).grown hg9 (hne9 hparr (by decide))
      have hC49 := hG49.cell
      have hF49 := hG49.frozen
      have hb09 : Below w.heap.size w w9 := (Below.drew (hb0r.trans (hB68.mono (by omega)))).grown hg9 (show w.heap.size ≤ W8.heap.size by omega) (fun b hb => by have := (hown.row.lt b hb).1; omega)
      have hs9 : W8.heap.size ≤ w9.heap.size := hg9.size
      obtain ⟨W10, hW10, ho10, hs10, hG10, hO10, hP10⟩ := storedB hG49 4 (.slice A9 (k + 1) c9)
      have hb010 := Only.below hb09 ho10 (by omega) (by omega)
      have hCbb := (hboxr.below hB68 (by omega)).cell
      have hCba := (hboxr.below hB7 (by omega)).cell
      have hCpb := (hparr.below hB68 (by omega)).cell
      have hCpa := (hparr.below hB7 (by omega)).cell
      have hfin : NewRel s w.heap.size w3.heap.size m w (k + 1) A9 c9 (us ++ [.slice (some ⟨wr.heap.size, 0, none⟩) m m]) W10 :=
        ⟨hO9.box hG49 ho10 (by decide) (by decide), hG10, hG29.grown ho10 (by simp; omega), hG19.grown ho10 (by simp; omega), hb010⟩
      replace hfin := Lib.hid hfin
      clear hO10 hP10 hO7 hP7 hO8 hP8
      go_wp2_with fail
      go_region_law (refine step_runApp rfl _ _ _ _ rfl rfl rfl hrun ?_)
      all_goals
        go_wp2_with fail
        exact ⟨⟨k + 1, by omega, by go_num, by omega, A9, c9, _, hfin.out⟩, by simp [intOf]; omega⟩
    · obtain rfl : k = cp := by omega
      have hki : ¬ (k : Int) < s.cap := by rw [hcp.out]; omega
      have hC2r := hresr.cell
      have hF2r := hresr.frozen
      have hr7 := hresr.setBox [.int .i64 s.kind, .int .i64 s.cap, .int .i64 s.words, .int .i64 s.ver, .slice A k c, .int .u32 0] rfl
      have ho7 := setAll_only (w.heap.size + 1) [.int .i64 s.kind, .int .i64 s.cap, .int .i64 s.words, .int .i64 s.ver, .slice A k c, .int .u32 0] 0 wr
      have hb7 := Only.below hb0r ho7 (by omega) (by omega)
      have hO7 := (hown.far ho7 (by omega)).mono (show w.heap.size ≤ w.heap.size + 1 + 1 by omega)
      go_wp2_with fail
      refine bodyPost_ret (results_ct results28 rfl hr7 underlying27 rfl (by kernel_rfl)) rfl ?_
      rw [hTv.out]
      exact ⟨A, k, c, rfl, ⟨us, hO7⟩, hb7⟩
section
variable {P : Program}
theorem run_clearN (w : World) (t e ty : TypeId) (i : TypeInfo) (z : Value) (ht : P.underlying t = some (.slice e)) (hi : P.info? e = some i) (hz : i.zero = some z) (g o n c : Nat) (hn : 0 < n) (tt : TypeId) (cur : List Value) (hg : Blk w g tt cur.toArray)
    (hfit : o + (Builtin.zeroCells z.cells n).toList.length ≤ cur.length) (h1 : ∀ v ∈ (Builtin.zeroCells z.cells n).toList, v.oneCell' = true) :
    (Builtin.clear_ #[t] ty #[.slice (some ⟨g, o, none⟩) n c]).run P w = .ok (.tuple #[]) (w.setRow g (splice cur o (Builtin.zeroCells z.cells n).toList).toArray) := by
  have hst := run_storeCells_at P g o tt (Builtin.zeroCells z.cells n).toList 0 cur.toArray w hg (by simpa using hfit) h1
  have hv : ∀ w, (zeroValue e).run P w = .ok z w := by intro w; simp [zeroValue, typeInfo, hi, hz]
  obtain ⟨m, rfl⟩ : ∃ m, n = m + 1 := ⟨n - 1, by omega⟩
  simp only [Nat.add_zero] at hst
  simp [Builtin.clear_, run_underlying ht, hv, hst, splice]
variable {w : World} {ops : Array Oper} {rest : List Oper} {o : Oper} {a : Act} {K : Act → World → Prop} {Q : Exit → Act → World → Prop}
theorem wpList_clear (hgd : o.guard = none) (s : Operand) (t : TypeId) (ho : o.op = .call { callee := .builtin .clear, args := #[s], argTypes := #[t] }) {vs v' : Value} {w' : World} (hs : a.eval s = vs)
    (hrun : (Builtin.clear_ #[t] o.type #[vs]).run P w = .ok v' w') (h : wpList P ops Q rest (a.put o.dst v') w') : wpList P ops Q (o :: rest) a w := by
  refine wpList_plain hgd fun _ hK => ?_
  unfold Oper.wp
  simp only [execOp, ho, resolve, invoke, builtin, Sem.run_bind, Sem.run_pure, Result.andThen_ok, List.map_toArray, List.map_cons, List.map_nil, hs, hrun]
  exact hK _ _ h
theorem run_append_roomS (t ty e : TypeId) (i : TypeInfo) (size : Nat) (ht : P.underlying t = some (.slice e)) (hi : P.info? e = some i) (hsz : i.size = size)
    (g off sLen sCap : Nat) (A : Option Addr) (m c : Nat) (news : List Value) (hl : news.length = m * size) (tt : TypeId) (cur : List Value) (hg : Blk w g tt cur.toArray)
    (hnews : 0 < m → ∃ ad, A = some ad ∧ ∀ j u, news[j]? = some u → w.cell? (ad.add j) = some u) (hA : ∃ ad, A = some ad) (h1 : ∀ u ∈ news, u.oneCell' = true)
    (hroom : sLen + m ≤ sCap) (hfit : off + sLen * size + news.length ≤ cur.length) :
    (Builtin.append_ #[t, t] ty #[.slice (some ⟨g, off, none⟩) sLen sCap, .slice A m c]).run P w = .ok (.slice (some ⟨g, off, none⟩) (sLen + m) sCap) (w.setRow g (splice cur (off + sLen * size) news).toArray) := by
  obtain ⟨ad, rfl⟩ := hA
  have hn : ∀ j u, news[j]? = some u → w.cell? (ad.add j) = some u := by
    intro j u hu
    rcases Nat.eq_zero_or_pos m with rfl | hm
    · have : news = [] := List.eq_nil_of_length_eq_zero (by omega)
      subst this
      simp at hu
    · obtain ⟨ad', h, hh⟩ := hnews hm
      cases h
      exact hh j u hu
  subst hsz
  have hfc := run_firstCells_some (P := P) w i.size m ad m c news hl hn
  have hst := run_storeCells_at P g (off + sLen * i.size) tt news 0 cur.toArray w hg (by simpa using hfit) h1
  simp only [Nat.add_zero] at hst
  simp [Builtin.append_, run_underlying ht, sizeOf, typeInfo, hi, Builtin.lenOf, hroom, hfc, Addr.add_lit, hst, splice]
end
theorem OwnEs.setV {w w' : World} {base gu m cu j : Nat} {v : Value} {es : List Ent} {us : List Value} {e : Ent} {xs : List Nat} (h : OwnEs w base v es us) (he : es[j]? = some e) (hu : us[j]? = some (.slice (some ⟨gu, 0, none⟩) m cu)) (ho : Only gu w w')
    (hn : OwnW w' base (.slice (some ⟨gu, 0, none⟩) m cu) xs) : OwnEs w' base v (es.set j { e with v := xs }) us := by
  have hj := (List.getElem?_eq_some_iff.1 he).1
  obtain ⟨hval, hkey⟩ := h.val j e _ he hu
  have hne := hval.not_row' h.row
  refine ⟨by rw [List.length_set]; exact h.len, ?_, fun i e' u' he' hu' => ?_, h.lone⟩
  · rw [List.length_set, entCells_same_key (e' := { e with v := xs }) he rfl]
    exact h.row.kept ho (.inr hne)
  · by_cases hij : j = i
    · subst hij
      rw [List.getElem?_set_self hj] at he'
      cases he'
      rw [hu] at hu'
      cases hu'
      exact ⟨hn, hkey⟩
    · rw [List.getElem?_set_ne hij] at he'
      obtain ⟨h1, h2⟩ := h.val i e' u' he' hu'
      exact ⟨h1.only ho (h.lone j i _ u' gu hij hu hu' rfl), h2⟩
theorem zeroCells_u32 (m : Nat) : (Builtin.zeroCells (Value.int .u32 0).cells m).toList = List.replicate m (.int .u32 0) := by
  simp [Builtin.zeroCells, Value.cells]
  apply List.ext_getElem
  · simp
  · intro i h1 h2
    simp [Nat.mod_one]
end Go.Proofs.Ytkhanhhingicpaa
