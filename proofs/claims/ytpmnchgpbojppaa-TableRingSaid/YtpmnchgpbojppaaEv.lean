/- The abstract machine: what is reckoned by rewriting; kinds of data as abstract values. -/
import Derived.Test.YtpmnchgpbojppaaTy
import Derived.Test.YtpmnchgpbojppaaTabLib
set_option linter.unusedVariables false
namespace Go.Proofs.Ytpmnchgpbojppaa
open Go Go.RowKit Go.Proofs.Try

attribute [push_cast] runOps evOp opd opd0 opds optQ strip ofV AV.cells AV.one AV.lies normQ normL splC takeV loadQ storeQ addP fieldAddrQ fieldQ indexAddrQ indexQ fillA buildQ fillE AV.loose normP intQ eqCells kindsOf eqAgg binQ unQ convQ makeQ bnd sliceQ lenQ elsQ appNewQ appTightQ appRowQ appendQ copyQ builtinQ callQ partsQ pickR guardQ
attribute [push_cast] look setA delA applyW callW St.put St.wr St.keep TI.agg TI.known runD wrKeys
attribute [push_cast] updL List.getElem?_cons_zero List.getElem?_cons_succ List.getElem?_nil List.forall_mem_cons List.not_mem_nil false_implies
attribute [push_cast] true_and and_true implies_true forall_const eq_self false_and and_false ne_eq not_false_eq_true not_true_eq_false or_false false_or true_or or_true Bool.true_and Bool.and_true Bool.false_and Bool.and_false Bool.not_true Bool.not_false beq_self_eq_true Bool.false_eq_true if_true if_false
attribute [push_cast] enumA List.toList_toArray List.length_cons List.length_nil Value.oneCell' List.append_nil List.nil_append List.cons_append List.drop_zero List.drop_succ_cons List.take_succ_cons List.take_zero List.all_cons List.all_nil AV.in0 AV.in1 AV.in2 AV.in3
attribute [push_cast] List.map_cons List.map_nil List.getD_cons_zero List.getD_cons_succ List.getD_nil Option.some.injEq Nat.add_zero Nat.zero_add
attribute [push_cast] resL resV resAV Option.map_some Option.map_none List.length_map Int.toNat_natCast List.getD_eq_getElem?_getD List.getElem?_map Option.getD_some Option.getD_none Int.ofNat_lt Int.ofNat_le Int.natCast_nonneg decide_eq_true_eq decide_eq_false_iff_not
attribute [push_cast] List.replicate_succ List.replicate_zero List.length_replicate List.length_append Nat.min_self List.drop_nil List.take_nil
attribute [push_cast] List.reverse_cons List.reverse_nil imp_self beq_true beq_false Bool.not_not Bool.and_self
attribute [push_cast] cond_true cond_false decide_true decide_false bne_self_eq_false
attribute [push_cast] AV.short AV.shorts AObj.shorts List.set_cons_zero List.set_cons_succ List.set_nil List.length_set
/-- What is done with what is found. -/
def wpS {α : Type} (f : α → Prop) : Option α → Prop
  | some v => f v
  | none => False
@[push_cast] theorem wpS_some {α : Type} (f : α → Prop) (v : α) : wpS f (some v) = f v := rfl
@[push_cast] theorem wpS_none {α : Type} (f : α → Prop) : wpS f none = False := rfl
@[congr] theorem wpS_congr {α : Type} {f : α → Prop} {o o' : Option α} (h : o = o') : wpS f o = wpS f o' := by rw [h]
def keepS (t : Nat) (r : List (Nat × AV)) : Option AV → List (Nat × AV)
  | some v => (t, v) :: r
  | none => r
@[push_cast] theorem keepS_some (t : Nat) (r : List (Nat × AV)) (v : AV) : keepS t r (some v) = (t, v) :: r := rfl
@[push_cast] theorem keepS_none (t : Nat) (r : List (Nat × AV)) : keepS t r none = r := rfl
@[congr] theorem keepS_congr {t : Nat} {r : List (Nat × AV)} {o o' : Option AV} (h : o = o') : keepS t r o = keepS t r o' := by rw [h]
@[push_cast] theorem keepL_nil (m : List (Nat × AV)) : keepL m [] = [] := rfl
@[push_cast] theorem keepL_cons (m : List (Nat × AV)) (t : Nat) (r : List Nat) : keepL m (t :: r) = keepS t (keepL m r) (look m t) := by
  simp only [keepL]
  cases look m t <;> rfl
section
variable {P : Program} {T : Nat → TI} {nid : Nat} {s : St} {K : AV → Wr → Prop} {K2 : List Ky → AV → Wr → Prop} {rs : List Ky}
@[push_cast] theorem wpQ_done (v : AV) (wr : Wr) : wpQ P nid s (.done v wr) K = K v wr := rfl
@[push_cast high] theorem wpQ_needT {p : Prop} {k : Q} (h : p) : wpQ P nid s (.need p k) K = wpQ P nid s k K := by rw [eq_iff_iff]; exact ⟨fun h => h.2, fun h2 => ⟨h, h2⟩⟩
@[push_cast] theorem wpQ_need (p : Prop) (k : Q) : wpQ P nid s (.need p k) K = (p ∧ wpQ P nid s k K) := rfl
@[push_cast] theorem wpQ_slot (t : Nat) (k : AV → Q) : wpQ P nid s (.slot t k) K = wpS (fun v => wpQ P nid s (k v) K) (look s.tm t) := by
  simp only [wpQ]
  cases look s.tm t <;> rfl
@[push_cast] theorem wpQ_obj (id : Nat) (k : AObj → Q) : wpQ P nid s (.obj id k) K = wpS (fun v => wpQ P nid s (k v) K) (look s.hp id) := by
  simp only [wpQ]
  cases look s.hp id <;> rfl
@[push_cast] theorem wpQ_bad : wpQ P nid s .bad K = False := rfl
@[push_cast] theorem wpQD_done (v : AV) (wr : Wr) : wpQD P nid s (.done v wr) rs K2 = K2 rs v wr := rfl
@[push_cast high] theorem wpQD_needT {p : Prop} {k : Q} (h : p) : wpQD P nid s (.need p k) rs K2 = wpQD P nid s k rs K2 := by rw [eq_iff_iff]; exact ⟨fun h => h.2, fun h2 => ⟨h, h2⟩⟩
@[push_cast] theorem wpQD_need (p : Prop) (k : Q) : wpQD P nid s (.need p k) rs K2 = (p ∧ wpQD P nid s k rs K2) := rfl
@[push_cast] theorem wpQD_slot (t : Nat) (k : AV → Q) : wpQD P nid s (.slot t k) rs K2 = wpS (fun v => wpQD P nid s (k v) (.t t :: rs) K2) (look s.tm t) := by
  simp only [wpQD]
  cases look s.tm t <;> rfl
@[push_cast] theorem wpQD_obj (id : Nat) (k : AObj → Q) : wpQD P nid s (.obj id k) rs K2 = wpS (fun v => wpQD P nid s (k v) (.o id :: rs) K2) (look s.hp id) := by
  simp only [wpQD]
  cases look s.hp id <;> rfl
@[push_cast] theorem wpQD_bad : wpQD P nid s .bad rs K2 = False := rfl
@[congr] theorem wpQ_congr {q q' : Q} (h : q = q') : wpQ P nid s q K = wpQ P nid s q' K := by rw [h]
@[congr] theorem wpQD_congr {q q' : Q} (h : q = q') : wpQD P nid s q rs K2 = wpQD P nid s q' rs K2 := by rw [h]
@[congr] theorem runOps_congr {d : List (Option Nat)} {l : List Oper} {i i' : Nat} {s s' : St} {K : St → Prop} (h : i = i') (h2 : s = s') : runOps P T d l i s K = runOps P T d l i' s' K := by rw [h, h2]
@[congr] theorem runD_congr {d : List (Option Nat)} {l : List Oper} {i i' : Nat} {s s' : St} {acc acc' : List (List Ky × List Ky)} {K : List (List Ky × List Ky) → St → Prop} (h : i = i') (h2 : s = s') (h3 : acc = acc') : runD P T d l i s acc K = runD P T d l i' s' acc' K := by rw [h, h2, h3]
@[congr] theorem slot_congr {t : Nat} {k : AV → Q} : Q.slot t k = Q.slot t k := rfl
@[congr] theorem obj_congr {t : Nat} {k : AObj → Q} : Q.obj t k = Q.obj t k := rfl
@[congr] theorem need_congr {p : Prop} {k : Q} : Q.need p k = Q.need p k := rfl
def guardD (T : Nat → TI) (nid : Nat) (want : Bool) (op : Op) : Option Nat → Q
  | none => .bad
  | some d => .slot d fun g => match g with
      | .raw (.bool b) => guardQ (b == want) (evOp T nid (b == want) op)
      | .ifb g (.raw (.bool b)) => guardQ (g && (b == want)) (evOp T nid (g && (b == want)) op)
      | _ => .bad
@[congr] theorem VC_congr {B : Base} {c : Code} {Q : Exit → St → Prop} {s s' : St} (h : s = s') : VC P B c Q s = VC P B c Q s' := by rw [h]
@[congr] theorem evOper_congr {T : Nat → TI} {d : List (Option Nat)} {o : Oper} : evOper T nid d o = evOper T nid d o := rfl
@[congr] theorem evOp_congr {T : Nat → TI} {n n' : Nat} {c c' : Bool} {o : Op} (h : n = n') (h2 : c = c') : evOp T n c o = evOp T n' c' o := by rw [h, h2]
@[congr] theorem guardD_congr {T : Nat → TI} {n n' : Nat} {w : Bool} {o : Op} {d d' : Option Nat} (h : n = n') (h2 : d = d') : guardD T n w o d = guardD T n' w o d' := by rw [h, h2]
@[push_cast] theorem evOper_none {T : Nat → TI} {ds : List (Option Nat)} {op : Op} {d : Option Nat} {ty : TypeId} {ps : String} {af : Array Edge} : evOper T nid ds { dst := d, op := op, type := ty, pos := ps, after := af, guard := none } = evOp T nid true op := rfl
@[push_cast] theorem evOper_some {T : Nat → TI} {ds : List (Option Nat)} {op : Op} {d : Option Nat} {ty : TypeId} {ps : String} {af : Array Edge} {j : Nat} {w : Bool} : evOper T nid ds { dst := d, op := op, type := ty, pos := ps, after := af, guard := some (j, w) } = guardD T nid w op (ds.getD j none) := by
  simp only [evOper]
  cases ds.getD j none <;> rfl
attribute [push_cast] guardD
@[congr] theorem strip_congr {c c' : Bool} {v v' : AV} {k : AV → Q} (h : c = c') (h2 : v = v') : strip c v k = strip c' v' k := by rw [h, h2]
@[congr] theorem opd0_congr {x : Operand} {k : AV → Q} : opd0 x k = opd0 x k := rfl
@[congr] theorem opd_congr {c c' : Bool} {x : Operand} {k : AV → Q} (h : c = c') : opd c x k = opd c' x k := by rw [h]
@[congr] theorem opds_congr {c c' : Bool} {x : List Operand} {k : List AV → Q} (h : c = c') : opds c x k = opds c' x k := by rw [h]
@[congr] theorem optQ_congr {c c' : Bool} {x : Option Operand} {k : Option AV → Q} (h : c = c') : optQ c x k = optQ c' x k := by rw [h]
@[congr] theorem normQ_congr {v v' : AV} {k : AV → Wr → Q} (h : v = v') : normQ v k = normQ v' k := by rw [h]
@[congr] theorem normL_congr {v v' : List AV} {k : List AV → Wr → Q} (h : v = v') : normL v k = normL v' k := by rw [h]
@[congr] theorem normP_congr {v v' : List (Nat × AV)} {k : List (Nat × List AV) → Wr → Q} (h : v = v') : normP v k = normP v' k := by rw [h]
@[congr] theorem addP_congr {p p' : AV} {n n' : Nat} {k : AV → Q} (h : p = p') (h2 : n = n') : addP p n k = addP p' n' k := by rw [h, h2]
@[congr] theorem bnd_congr {x x' : Option AV} {d d' : Int} {k : Int → Q} (h : x = x') (h2 : d = d') : bnd x d k = bnd x' d' k := by rw [h, h2]
@[congr] theorem lenQ_congr {x x' : AV} {k : Int → Q} (h : x = x') : lenQ x k = lenQ x' k := by rw [h]
@[congr] theorem elsQ_congr {n n' : Nat} {x x' : AV} {k : List (List AV) → Q} (h : n = n') (h2 : x = x') : elsQ n x k = elsQ n' x' k := by rw [h, h2]
@[congr] theorem partsQ_congr {c c' : Bool} {l : List (Nat × Operand)} {k : List (Nat × AV) → Q} (h : c = c') : partsQ c l k = partsQ c' l k := by rw [h]
theorem callP {f : FuncId} {args : List AV} {r : AV} (hc : Ctr P f args [] r []) (ha : (args.all (AV.in3 (Hp.has []))) = true) (h : K r []) : wpQ P nid s (.call none f args) K := ⟨[], r, [], (fun p hp => by cases hp), hc, ha, rfl, rfl, h⟩
theorem callG {c : Bool} {f : FuncId} {args : List AV} {r : AV} (hc : c = true → Ctr P f args [] r []) (ha : (args.all (AV.in3 fun _ => false)) = true) (h : K (.ifb c r) []) : wpQ P nid s (.call (some c) f args) K := ⟨r, hc, ha, h⟩
theorem callPD {f : FuncId} {args : List AV} {r : AV} (hc : Ctr P f args [] r []) (ha : (args.all (AV.in3 (Hp.has []))) = true) (h : K2 rs r []) : wpQD P nid s (.call none f args) rs K2 := ⟨[], r, [], (fun p hp => by cases hp), hc, ha, rfl, rfl, h⟩
theorem callGD {c : Bool} {f : FuncId} {args : List AV} {r : AV} (hc : c = true → Ctr P f args [] r []) (ha : (args.all (AV.in3 fun _ => false)) = true) (h : K2 rs (.ifb c r) []) : wpQD P nid s (.call (some c) f args) rs K2 := ⟨r, hc, ha, h⟩
theorem callH {f : FuncId} {args : List AV} {H H' : Hp} {r : AV} (hc : Ctr P f args H r H') (hl : ∀ p ∈ H, look s.hp p.1 = some p.2) (ha : (args.all (AV.in3 H.has)) = true) (hi : (H.all fun p => p.2.inD H.has) = true) (hh : (H'.all fun p => H.has p.1 || p.1 == nid) = true) (h : K r (callW H H')) : wpQ P nid s (.call none f args) K := ⟨H, r, H', hl, hc, ha, hi, hh, h⟩
end
theorem look_cons_eq {α : Type} (n : Nat) (v : α) (r : List (Nat × α)) : look ((n, v) :: r) n = some v := by simp [look]
theorem VC.weak {P : Program} {B : Base} {c : Code} {Q : Exit → St → Prop} {s : St} (h : VC P B c (fun e s' => ∃ s'', Sub s' s'' ∧ Q e s'') s) : VC P B c Q s :=
  fun a w hs => wp_mono (h a w hs) fun e a' w' ⟨s', ⟨s'', hsub, hq⟩, hr⟩ => ⟨s'', hq, hsub B a' w' hr⟩
theorem VRel.loose {w : World} {x : Cx} {hp : Hp} {els : List (List AV)} {v : Value} (h : VRel w x hp (.sl true els) v) : VRel w x hp (.sl false els) v := by
  cases h with
  | dat h =>
    cases h with
    | sl _ _ A c sz vals hc hm ht hsz hA hcell hd => exact .dat (.sl false els A c sz vals hc hm (by intro h; cases h) hsz hA hcell hd)
theorem Sub.looseT {s : St} {k : Nat} {els : List (List AV)} (hj : look s.tm k = some (.sl true els)) : Sub s { s with tm := setA k (.sl false els) s.tm } := fun B a w ⟨x, hC⟩ => by
  refine ⟨x, hC.h, fun t u ht => ?_, hC.n, hC.d, hC.tr, hC.mo, hC.lo, hC.ln, hC.dom⟩
  rw [look_setA] at ht
  split at ht
  · rename_i e1
    subst e1
    injection ht with ht
    subst ht
    exact (hC.t _ _ hj).loose
  · exact hC.t t u ht
theorem Sub.looseB {s : St} {b j : Nat} {els : List (List AV)} {t : TypeId} {cs : List AV} (hb : look s.hp b = some (.box t cs)) (hj : cs[j]? = some (.sl true els)) : Sub s { s with hp := setA b (.box t (cs.set j (.sl false els))) s.hp } := fun B a w ⟨x, hC⟩ => by
  obtain ⟨bb, vs, h1, h2, h3, h4, h5⟩ := hC.h.obj b _ hb
  have st2 := Stp.boxSet hC.h hb h1 h2 (cs' := cs.set j (.sl false els)) (vs' := vs) (by simpa using h3) h4 (fun i u hu => by
    rw [List.getElem?_set] at hu
    split at hu
    · rename_i e2
      subst e2
      split at hu
      · injection hu with hu
        subst hu
        exact (h5 j _ hj).loose
      · cases hu
    · exact h5 i u hu)
  rw [setRow_self w bb vs t (0, 0) h2] at st2
  exact ⟨_, st2.h, fun t u ht => (hC.t t u ht).mono st2.mo, hC.n, hC.d, hC.tr.trans st2.tr, hC.mo.trans st2.mo, hC.lo, hC.ln, hC.dom⟩
/-! ### Kinds of data -/
def encW (n : Nat) : List AV := [.raw (.int .u32 (n : Int))]
def encEnt (e : Ent) : List AV := [.raw (.int .u32 (e.key : Int)), .sl false (e.v.map encW)]
def cellsSch (s : Sch) : List AV := [.raw (.int .i64 s.kind), .raw (.int .i64 s.cap), .raw (.int .i64 s.words), .raw (.int .i64 s.ver)]
def cellsTab (f : Bool) (t : Tab) : List AV := [.raw (.int .i64 t.s.kind), .raw (.int .i64 t.s.cap), .raw (.int .i64 t.s.words), .raw (.int .i64 t.s.ver), .sl f (t.e.map encEnt), .raw (.int .u32 (t.next : Int))]
def avTab (f : Bool) (t : Tab) : AV := .agg (cellsTab f t)
def avSch (s : Sch) : AV := .agg (cellsSch s)
attribute [push_cast] avTab cellsTab avSch cellsSch
theorem uni_ent (l : List Ent) : Uni 2 (l.map encEnt) := by
  intro cs h
  obtain ⟨e, _, rfl⟩ := List.mem_map.1 h
  rfl
theorem uni_w (l : List Nat) : Uni 1 (l.map encW) := by
  intro cs h
  obtain ⟨e, _, rfl⟩ := List.mem_map.1 h
  rfl
attribute [push_cast] uni_ent uni_w encEnt encW
end Go.Proofs.Ytpmnchgpbojppaa
