/- Packed texts: Fz, Gn, Qhelpercalldel, Qhelpercallget, Qhelpercallhas, Qhelpercallpush, Qhelpercallset, QhelperArgs, QhelperDraw, Qschemain, QschemaMay, QhelperFits, QslicesCloneapiEntryapiEntry, QslicesCloneapiTableapiTable, QslicesCloneuint32uint32, Qhelperown, QhelperCall, Qdrydockref05Few, Sk0, Ge, Qinstin, Qinstrules, QinstMay, Qprogfine1, QslicesIndexFuncapiInstapiInstprogfine1, QslicesContainsFuncapiInstapiInstprogfine1, Qprogfine, QprogMay1, QslicesIndexFuncapiFnapiFnprogMay1, QslicesContainsFuncapiFnapiFnprogMay1, QprogMay, Sk1, Qinterprunfail, Qinterpframeget, Qinterpframeput, Qinterpframeword, Qaludeeds1, Qaludeeds10, Qaludeeds11, Qaludeeds2, Qaludeeds3, Qaludeeds4, Qaludeeds5, Qaludeeds6, Qaludeeds7, Qaludeeds8, Qaludeeds9, Qaludeeds, QaluDo, Qinterpframealu, QaluHolds, Qinterpframejump, Qinterpframewords, Qinterpframeback, Qinterpframehanded, Qinterpframehelp, Qinterpframecall, Qinterpframeexit, Sk2. -/
import Derived.Test.YtcffmheeofjifaaGreatSf3
set_option linter.unusedVariables false
set_option linter.unusedSimpArgs false
set_option maxHeartbeats 4000000
set_option maxRecDepth 100000
namespace Go.Proofs.YtcffmheeofjifaaGreat
open Go Go.RowKit
def AV.isDat : AV → Bool
  | .raw _=>true
  | .sl _ _=>true
  | _=>false
theorem VRel.toDat {w : World} {x : Cx} {hp : Hp} {u : AV} {v : Value} (hu : u.isDat = true) (h : VRel w x hp u v) : Dat w x.ok u v:=by
  cases h with
  | dat h=>exact h
  | _=>cases hu
theorem Sub.freezeP {s : St} {k b : Nat} {t : TypeId} {cs : List AV} (hk : look s.tm k = some (.ref b 0)) (hb : look s.hp b = some (.box t cs)) (hd : (cs.all AV.isDat) = true) :
    Sub s { s with tm:=Ca k (.dat cs.length [cs] 0 0) s.tm,hp:=delA b s.hp }:=fun B a w ⟨x,hC⟩=>by
  obtain ⟨bb,vs,h1,h2,h3,h4,h5⟩:=hC.h.obj b _ hb
  have st:=Stp.del hC.h hb
  have hp : VRel w (x.free b) (delA b s.hp) (.dat cs.length [cs] 0 0) (a.tmps.getD k undef):=by
    have hv:=hC.t k _ hk
    generalize a.tmps.getD k undef = v at hv
    cases hv with
    | dat h=>cases h
    | ref id off p hid h=>
      obtain ⟨b',e1,rfl⟩:=h ⟨t,cs,hb⟩
      rw [h1] at e1
      injection e1 with e1
      subst e1
      refine .datp [cs] 0 0 cs.length ⟨bb,0,none⟩ (fun j=>vs.getD j undef) (.inr h1) (fun cs' h=>by simp at h; rw [← h]) (fun j hj=>?_) (fun cs' j u h hj=>?_)
      · rw [Nat.zero_add,av_lit_add,Nat.zero_add]
        have e:=cell_getD (o:=0) (j:=j) h2 (by omega)
        rw [av_lit_add] at e
        exact ⟨by simpa using e,h4 _ (by omega)⟩
      · simp only [List.getElem?_cons_zero,Option.some.injEq] at h
        subst h
        exact ((h5 j u hj).toDat (all_at hd hj)).mono (fun b hb=>.inl hb) (fun _ _=>rfl)
  refine ⟨_,st.h,fun t u ht=>?_,hC.n,hC.d.step hC.h st.tr,hC.tr.trans st.tr,hC.mo.trans st.mo,hC.lo,hC.ln,hC.dom⟩
  rw [look_setA] at ht
  split at ht
  · rename_i e1
    subst e1
    injection ht with ht
    subst ht
    exact hp
  · exact (hC.t t u ht).mono st.mo
def GrowI (I : World → (Nat → Prop) → Prop) : Prop:=∀ A A' own,I A own → Grows A A' → I A' own
def IR (I : World → (Nat → Prop) → Prop) (s : St) (a : Act) (W : World) : Prop:=
  ∃ (own : Nat → Prop) (x : Cx),I W own ∧ (∀ b,own b → b < W.heap.size) ∧ Core ⟨W,x,[],some none⟩ (· < s.nx) ⟨s.tm,[],s.nx,s.nt,s.nx⟩ a W x ∧ ∀ b,x.ok b → ¬ own b
def YV (P : Program) (c : Code) (Q : Exit → St → (World → (Nat → Prop) → Prop) → Prop) (s : St) (I : World → (Nat → Prop) → Prop) : Prop:=
  ∀ a W,IR I s a W → c.wpIn Fence.wide 0 P (fun e a' W'=>∃ s' I',Q e s' I' ∧ IR I' s' a' W') a W
def thnY (next : St → (World → (Nat → Prop) → Prop) → Prop) (Q : Exit → St → (World → (Nat → Prop) → Prop) → Prop) : Exit → St → (World → (Nat → Prop) → Prop) → Prop
  | .normal,s,I=>next s I
  | e,s,I=>Q e s I
def inBkY (id : Nat) (Q : Exit → St → (World → (Nat → Prop) → Prop) → Prop) : Exit → St → (World → (Nat → Prop) → Prop) → Prop
  | .exit i,s,I=>if i = id then Q .normal s I else Q (.exit i) s I
  | e,s,I=>Q e s I
section
variable {P : Program} {T : Nat → TI} {Q : Exit → St → (World → (Nat → Prop) → Prop) → Prop} {s : St} {I : World → (Nat → Prop) → Prop}
theorem YV.skip (h : Q .normal s I) : YV P .skip Q s I:=fun a w hs=>wpIn_skip ⟨s,I,h,hs⟩
theorem YV.exit {id : Nat} (h : Q (.exit id) s I) : YV P (.exit id) Q s I:=fun a w hs=>wpIn_exit ⟨s,I,h,hs⟩
theorem YV.ret (h : Q .ret s I) : YV P .ret Q s I:=fun a w hs=>wpIn_ret ⟨s,I,h,hs⟩
theorem YV.mono {c : Code} {Q' : Exit → St → (World → (Nat → Prop) → Prop) → Prop} (h : YV P c Q s I) (hq : ∀ e s I,Q e s I → Q' e s I) : YV P c Q' s I:=
  fun a w hs=>wpIn_mono (h a w hs) fun e a' w' ⟨s',I',h1,h2⟩=>⟨s',I',hq _ _ _ h1,h2⟩
theorem YV.seq {x y : Code} (h : YV P x (thnY (fun s I=>YV P y Q s I) Q) s I) : YV P (.seq x y) Q s I:=fun a w hs=>by
  refine wpIn_seq (wpIn_mono (h a w hs) ?_)
  rintro e a' w' ⟨s',I',h1,h2⟩
  cases e <;> first | exact h1 a' w' h2 | exact ⟨s',I',h1,h2⟩
theorem YV.block {id : Nat} {c : Code} (h : YV P c (inBkY id Q) s I) : YV P (.block id c) Q s I:=fun a w hs=>by
  refine wpIn_block (wpIn_mono (h a w hs) ?_)
  rintro e a' w' ⟨s',I',h1,h2⟩
  cases e with
  | exit i=>
    simp only [inBkY] at h1
    simp only [Exit.inBlock]
    split
    · rename_i e
      rw [if_pos e] at h1
      exact ⟨s',I',h1,h2⟩
    · rename_i e
      rw [if_neg e] at h1
      exact ⟨s',I',h1,h2⟩
  | _=>exact ⟨s',I',h1,h2⟩
theorem YV.cond {c : Operand} {x y : Code} {t : Nat} {b : Bool} (hc : c = .tmp t) (hl : look s.tm t = some (.raw (.bool b))) (ht : b = true → YV P x Q s I) (hf : b = false → YV P y Q s I) : YV P (.cond c x y) Q s I:=fun a w hs=>by
  obtain ⟨own,x0,h1,h2,hC,h3⟩:=hs
  have:=(hC.t t _ hl).rawEq
  subst hc
  exact wpIn_cond_split (t:=b) this (fun h=>ht h a w ⟨own,x0,h1,h2,hC,h3⟩) (fun h=>hf h a w ⟨own,x0,h1,h2,hC,h3⟩)
theorem YV.loop {c : Code} {X : Type} (S : X → St) (IX : X → World → (Nat → Prop) → Prop) (ok : X → Prop) (μ : X → Nat) (x0 : X) (h0 : ok x0) (hs0 : s = S x0) (hI0 : I = IX x0)
    (round : ∀ x,ok x → YV P c (thnY (fun s' I'=>∃ x',ok x' ∧ μ x' < μ x ∧ s' = S x' ∧ I' = IX x') Q) (S x) (IX x)) : YV P (.loop c) Q s I:=fun a w hs=>by
  let J : Nat → Act → World → Prop:=fun n a w=>∃ x,ok x ∧ μ x = n ∧ IR (IX x) (S x) a w
  have least : ∀ a w,(∃ n,J n a w) → ∃ n,J n a w ∧ ∀ m,J m a w → n ≤ m:=by
    intro a w ⟨n,hn⟩
    induction n using Nat.strongRecOn with
    | _ n ih=>
      by_cases h : ∃ m,m < n ∧ J m a w
      · obtain ⟨m,h1,h2⟩:=h
        exact ih m h1 h2
      · exact ⟨n,hn,fun m hm=>Nat.le_of_not_lt fun hlt=>h ⟨m,hlt,hm⟩⟩
  open Classical in
  refine wpIn_loop (fun a w=>∃ n,J n a w) (fun a w=>if h : ∃ n,J n a w then Classical.choose (least a w h) else 0) ?_ ?_
  · exact ⟨_,x0,h0,rfl,by rw [← hs0,← hI0]; exact hs⟩
  · intro a w hJ
    obtain ⟨h1,h2⟩:=Classical.choose_spec (least a w hJ)
    obtain ⟨x,hx1,hx2,hx3⟩:=h1
    refine wpIn_mono (round x hx1 a w hx3) ?_
    rintro e a' w' ⟨s',I',h3,h4⟩
    cases e with
    | normal=>
      obtain ⟨x',h5,h6,rfl,rfl⟩:=h3
      have hJ' : J (μ x') a' w':=⟨x',h5,rfl,h4⟩
      refine ⟨⟨_,hJ'⟩,?_⟩
      show (if h : ∃ n,J n a' w' then Classical.choose (least a' w' h) else 0) < (if h : ∃ n,J n a w then Classical.choose (least a w h) else 0)
      rw [dif_pos ⟨_,hJ'⟩,dif_pos hJ]
      have h8:=(Classical.choose_spec (least a' w' ⟨_,hJ'⟩)).2 _ hJ'
      omega
    | _=>exact ⟨s',I',h3,h4⟩
theorem IR.next {own : Nat → Prop} {W W' : World} {x : Cx} {s'' : St} {a' : Act} (hg : GrowI I) (hI : I W own) (hb : ∀ b,own b → b < W.heap.size) (ho : ∀ b,x.ok b → ¬ own b) (hp : s''.hp = []) (h : SRel ⟨W,x,[],some none⟩ s'' a' W') : IR I s'' a' W':=by
  obtain ⟨x',hC'⟩:=h
  have t : Tr W x [] W' x' s''.hp:=hC'.tr
  obtain ⟨Ds,e1,e2,e3,e4⟩:=hC'.d
  have hd : a'.defers = []:=by rw [e1,e4 (by simp)]; rfl
  refine ⟨own,x',hg _ _ _ hI (Grows.of_tr t),fun b h=>Nat.lt_of_lt_of_le (hb b h) t.size,?_,fun b h=>?_⟩
  · have h1:=hC'.h
    have h2:=hC'.t
    rw [hp] at h1 h2
    exact ⟨h1,h2,hC'.n,by rw [hd]; exact Mk.nil _ _ _,Tr.refl _ _ _,Mo.refl _ _ _,hC'.dom,Nat.le_refl _,hC'.dom⟩
  · rcases t.okx b h with e | e | ⟨id,o,h1,_⟩
    · exact ho b e
    · exact fun h=>by have:=hb b h; omega
    · simp [look] at h1
theorem YV.seg {c : Code} (hg : GrowI I) (h : ∀ B,VC P B c (fun e s'=>∃ s'',Sub s' s'' ∧ s''.hp = [] ∧ Q e s'' I) ⟨s.tm,[],s.nx,s.nt,s.nx⟩) : YV P c Q s I:=fun a W ⟨own,x,hI,hb,hC,ho⟩=>by
  refine wpIn_mono (h ⟨W,x,[],some none⟩ a W ⟨x,hC⟩) ?_
  rintro e a' W' ⟨s',⟨s'',hsub,hp,hq⟩,hr⟩
  exact ⟨s'',I,hq,IR.next hg hI hb ho hp (hsub _ _ _ hr)⟩
def runPre (E : EvT) (P : Program) (T : Nat → TI) (dsts : List (Option Nat)) : List Oper → Nat → St → (St → Prop) → Prop
  | [],i,s,K=>K s
  | o :: r,i,s,K=>wpQ P (s.nx + i) s (E T (s.nx + i) dsts o) fun v wr=>runPre E P T dsts r (i + 1) ((s.wr wr).put o.dst v) K
theorem runPre_s {E : EvT} (hE : EvOk P T E) {B : Base} {ops : Array Oper} {Qx : Exit → Act → World → Prop} {nx nt q : Nat} {K : St → Prop} {rest : List Nat} (hd : (ops.all fun o=>match o.dst with | some k=>decide (k < nt) | none=>true) = true) {n : Nat}
    (hQ : ∀ s' a' w' x',K s' → s'.nx = nx → s'.nt = nt → Core B (· < nx + n) s' a' w' x' → wpOpsIn (wR B.rd) 0 P ops Qx rest a' w') :
    ∀ (l : List Oper) (i : Nat) (s' : St) (a : Act) (w : World) (x : Cx),i + l.length = n → (∀ j,(hj : j < l.length) → ops[q + i + j]? = some l[j]) → s'.nt = nt → s'.nx = nx → Core B (· < nx + i) s' a w x → runPre E P T (dstsOf ops) l i s' K → wpOpsIn (wR B.rd) 0 P ops Qx (List.range' (q + i) l.length ++ rest) a w
  | [],i,s',a,w,x,hn,_,hnt,hnx,hC,h=>by
    have : i = n:=by simpa using hn
    subst this
    exact hQ s' a w x h hnx hnt hC
  | o :: l,i,s',a,w,x,hn,hl,hnt,hnx,hC,h=>by
    have hi : ops[q + i]? = some o:=hl 0 (by simp)
    rw [List.length_cons,List.range'_succ,List.cons_append,wpOpsIn_cons]
    have hdst : ∀ k,o.dst = some k → k < s'.nt:=fun k hk=>by
      have h1:=(Array.all_eq_true_iff_forall_mem.1 hd) o (Array.mem_of_getElem? hi)
      rw [hk] at h1
      rw [hnt]
      simpa using h1
    unfold runPre at h
    rw [hnx] at h
    refine hE hC (nid:=nx + i) (by omega) hi hdst h ?_
    intro v wr a' w' x' hk hC'
    refine runPre_s hE hd hQ l (i + 1) _ a' w' x' ?_ ?_ ?_ ?_ ?_ hk
    · simp only [List.length_cons] at hn
      omega
    · intro j hj
      have:=hl (j + 1) (by simpa using hj)
      rw [show q + (i + 1) + j = q + i + (j + 1) by omega,this]
      rfl
    · rw [← hnt]
      cases o.dst <;> rfl
    · rw [← hnx]
      cases o.dst <;> rfl
    · refine ⟨hC'.h,hC'.t,hC'.n,hC'.d,hC'.tr,hC'.mo,hC'.lo,hC'.ln,fun id g hdm=>?_⟩
      rcases hC'.dom id g hdm with h1 | h1
      · have : id < nx + i:=h1
        omega
      · omega
def argOk (tm : List (Nat × AV)) : List Operand → List AV → Prop
  | [],[]=>True
  | .tmp t :: os,.raw v :: us=>look tm t = some (.raw v) ∧ argOk tm os us
  | _ :: os,.dead :: us=>argOk tm os us
  | _,_=>False
theorem argOk_rel {tm : List (Nat × AV)} {a : Act} (ht : ∀ t v,look tm t = some (.raw v) → a.tmps.getD t undef = v) : ∀ (os : List Operand) (us : List AV),argOk tm os us → os.length = us.length ∧ ∀ (i : Nat) (u0 : AV),us[i]? = some u0 → ∀ (w : World) (x' : Cx) (hp' : Hp),VRel w x' hp' u0 ((os.map a.eval).getD i undef)
  | [],[],_=>⟨rfl,fun i u h=>by simp at h⟩
  | o :: os,.raw v :: us,h=>by
    cases o with
    | tmp t=>
      obtain ⟨h1,h2⟩:=h
      obtain ⟨h3,h4⟩:=argOk_rel ht os us h2
      refine ⟨by simp [h3],fun i u0 hu w x' hp'=>?_⟩
      cases i with
      | zero=>
        simp only [List.getElem?_cons_zero,Option.some.injEq] at hu
        subst hu
        have : (((Operand.tmp t :: os).map a.eval).getD 0 undef) = v:=ht t v h1
        rw [this]
        exact .raw v
      | succ i=>exact h4 i u0 (by simpa using hu) w x' hp'
    | _=>exact h.elim
  | o :: os,.dead :: us,h=>by
    have h2 : argOk tm os us:=by
      cases o <;> exact h
    obtain ⟨h3,h4⟩:=argOk_rel ht os us h2
    refine ⟨by simp [h3],fun i u0 hu w x' hp'=>?_⟩
    cases i with
    | zero=>
      simp only [List.getElem?_cons_zero,Option.some.injEq] at hu
      subst hu
      exact .dead _
    | succ i=>exact h4 i u0 (by simpa using hu) w x' hp'
  | [],_ :: _,h=>h.elim
  | _ :: _,[],h=>by
    rename_i o os
    cases o <;> exact h.elim
  | o :: os,.agg _ :: us,h=>by cases o <;> exact h.elim
  | o :: os,.tup _ :: us,h=>by cases o <;> exact h.elim
  | o :: os,.ref _ _ :: us,h=>by cases o <;> exact h.elim
  | o :: os,.elt _ _ _ _ _ :: us,h=>by cases o <;> exact h.elim
  | o :: os,.dat _ _ _ _ :: us,h=>by cases o <;> exact h.elim
  | o :: os,.sl _ _ :: us,h=>by cases o <;> exact h.elim
  | o :: os,.row _ _ _ _ _ :: us,h=>by cases o <;> exact h.elim
  | o :: os,.bsl _ _ _ :: us,h=>by cases o <;> exact h.elim
  | o :: os,.rsl _ _ _ _ _ _ :: us,h=>by cases o <;> exact h.elim
  | o :: os,.fn _ _ _ :: us,h=>by cases o <;> exact h.elim
  | o :: os,.mp _ :: us,h=>by cases o <;> exact h.elim
  | o :: os,.ifb _ _ :: us,h=>by cases o <;> exact h.elim
def gdOk (tm : List (Nat × AV)) (ds : List (Option Nat)) : Option (Nat × Bool) → Prop
  | none=>True
  | some (j,want)=>∃ d,ds.getD j none = some d ∧ look tm d = some (.raw (.bool want))
def YieldOk (P : Program) (l : Nat) (J : Nat → World → (Nat → Prop) → Prop) (Jx : World → Prop) (us : List (List AV)) : Prop:=
  ∀ k (u : List AV) (vals : Array Value) W own,J k W own → us[k]? = some u → vals.size = u.length →
    (∀ (i : Nat) (u0 : AV),u[i]? = some u0 → ∀ (x' : Cx) (hp' : Hp),VRel W x' hp' u0 (vals.getD i undef)) →
    YieldAt Fence.wide 0 P l vals W fun e W'=>∃ c : Bool,e = .returned (.bool c) ∧ (∀ b,b < W.heap.size → ¬ own b → W'.heap[b]? = W.heap[b]?) ∧ W.heap.size ≤ W'.heap.size ∧
      (c = true → ∃ own',J (k + 1) W' own' ∧ ∀ b,own' b → own b ∨ W.heap.size ≤ b) ∧ (c = false → Jx W')
theorem YV.yield {E : EvT} (hE : EvOk P T E) {id l k g : Nat} {pre post : List Oper} {o : Oper} {c : Call} {J : Nat → World → (Nat → Prop) → Prop} {Jx : World → Prop} {us : List (List AV)} {u : List AV}
    (hJ : ∀ k,GrowI (J k)) (hJx : ∀ A A',Jx A → Grows A A' → Jx A') (hJb : ∀ k W own,J k W own → ∀ b,own b → b < W.heap.size) (hY : YieldOk P l J Jx us) (hu : us[k]? = some u)
    (ho : o.op = .call c) (hcal : c.callee = .value (.tmp g)) (hd : dstOk (pre ++ o :: post).toArray s.nt = true) {ds : List (Option Nat)} (hds : (pre ++ o :: post).map (·.dst) = ds)
    (h : runPre E P T ds pre 0 ⟨s.tm,[],s.nx,s.nt,s.nx⟩ fun s1=>s1.hp = [] ∧ look s1.tm g = some (.fn (.yield l) [] []) ∧ argOk s1.tm c.args.toList u ∧ gdOk s1.tm ds o.guard ∧
      ∀ b : Bool,runPre E P T ds post 0 (({ s1 with nx:=s.nx + pre.length,lo:=s.nx + pre.length } : St).put o.dst (.raw (.bool b))) fun s4=>∃ s5,Sub { s4 with nx:=s4.nx + post.length } s5 ∧ s5.hp = [] ∧ Q .normal s5 (bif b then J (k + 1) else fun W _=>Jx W)) :
    YV P (.region id (pre ++ o :: post).toArray false) Q s (J k):=fun a W ⟨own,x,hI,hb,hC,hok⟩=>by
  subst hds
  obtain ⟨ops,hops⟩ : ∃ ops,ops = (pre ++ o :: post).toArray:=⟨_,rfl⟩
  rw [← hops]
  refine wpIn_region ?_
  have hsz : ops.size = pre.length + (post.length + 1):=by rw [hops]; simp
  have hdsE : (pre ++ o :: post).map (·.dst) = dstsOf ops:=by rw [hops]; rfl
  rw [hdsE] at h
  have hd' : (ops.all fun o=>match o.dst with | some k=>decide (k < s.nt) | none=>true) = true:=by rw [hops,← Array.all_toList]; exact hd
  have hrng : List.range ops.size = List.range' (0 + 0) pre.length ++ pre.length :: List.range' (pre.length + 1) post.length:=by
    rw [hsz,List.range_eq_range',← List.range'_append_1,Nat.zero_add,List.range'_succ]
  rw [hrng]
  refine runPre_s (B:=⟨W,x,[],some none⟩) (nt:=s.nt) (nx:=s.nx) (q:=0) (n:=pre.length) hE hd' ?_ pre 0 ⟨s.tm,[],s.nx,s.nt,s.nx⟩ a W x (by simp) (fun j hj=>?_) rfl rfl (by simpa using hC) h
  · rintro s1 a1 W1 x1 ⟨h1,h2,h3,h4,h5⟩ hnx hnt hC1
    have t1 : Tr W x [] W1 x1 s1.hp:=hC1.tr
    have hJ1:=hJ k _ _ _ hI (Grows.of_tr t1)
    have hok1 : ∀ b,x1.ok b → ¬ own b:=fun b h=>by
      rcases t1.okx b h with e | e | ⟨id,o,h1,_⟩
      · exact hok b e
      · exact fun h=>by have:=hb b h; omega
      · simp [look] at h1
    have hi : ops[pre.length]? = some o:=by rw [hops]; simp
    rw [wpOpsIn_cons]
    unfold wpOpIn
    rw [hi]
    have hw : Region.wanted o (yielded ops a1.tmps) = true:=by
      cases hgd : o.guard with
      | none=>simp [Region.wanted,hgd]
      | some q=>
        obtain ⟨j,want⟩:=q
        rw [hgd] at h4
        obtain ⟨d,e1,e2⟩:=h4
        have:=yielded_of hC1 (dsts_at e1) (hC1.t d _ e2).rawEq
        simp [Region.wanted,hgd,this]
    simp only [hw,if_true]
    obtain ⟨r1,r2⟩:=argOk_rel (a:=a1) (fun t v ht=>(hC1.t t _ ht).rawEq) _ _ h3
    obtain ⟨fn,tmps,assign,body,hy,hR⟩:=hY k u (c.args.map a1.eval) W1 own hJ1 hu (by simpa using r1) (fun i u0 hu0 x' hp'=>by
      have:=r2 i u0 hu0 W1 x' hp'
      simpa [List.getD_eq_getElem?_getD,Array.getD_eq_getD_getElem?] using this)
    have hfn : a1.eval (.tmp g) = .func (.yield l) #[] #[]:=by
      have hv:=hC1.t g _ h2
      show a1.tmps.getD g undef = _
      generalize a1.tmps.getD g undef = v at hv
      cases hv with
      | dat h=>cases h
      | fn f first caps fs cs hl hl' h h'=>rw [show fs = #[] from Array.eq_empty_of_size_eq_zero hl,show cs = #[] from Array.eq_empty_of_size_eq_zero hl']
    refine ⟨fun _ _=>trivial,?_⟩
    have hrun : (Oper.semAt (wR (some none)).round a1.eval o).run P W1 = .ok (.round l fn tmps assign body) W1:=by
      show (execOp a1.eval o).run P W1 = _
      rw [← hy]
      simp [execOp,ho,resolve,hcal,hfn,invoke,Deferred.ofValue]
    rw [hrun]
    refine ⟨fun hd=>by simp [wR,Fence.wide] at hd,hR.mono ?_⟩
    rintro e W2 ⟨b,rfl,k1,k2,k3,k4⟩
    have hm : Mo W1 x1 s1.hp W2 x1 s1.hp:=⟨fun _ h=>h,fun _ _ h=>h,fun q hq=>k1 q (hC1.h.okb q hq) (hok1 q hq),fun _ _ h=>⟨h,rfl⟩,fun _ _ _ _ h=>⟨h,rfl,rfl⟩,fun _ _ h=>⟨h,rfl⟩⟩
    obtain ⟨own2,q1,q2,q3⟩ : ∃ own2,(bif b then J (k + 1) else fun W _=>Jx W) W2 own2 ∧ (∀ q,own2 q → q < W2.heap.size) ∧ ∀ q,x1.ok q → ¬ own2 q:=by
      cases b with
      | true=>
        obtain ⟨own',e1,e2⟩:=k3 rfl
        exact ⟨own',e1,hJb _ _ _ e1,fun q hq ho=>by
          rcases e2 q ho with e | e
          · exact hok1 q hq e
          · have:=hC1.h.okb q hq
            omega⟩
      | false=>exact ⟨fun _=>False,k4 rfl,fun _ h=>h.elim,fun _ _ h=>h⟩
    have hd1 : a1.defers = []:=by
      obtain ⟨Ds,e1,_,_,e4⟩:=hC1.d
      rw [e1,e4 (by simp)]
      rfl
    have hH2 : HRel W2 x1 s1.hp:=by
      rw [h1]
      exact ⟨fun q hq=>Nat.lt_of_lt_of_le (hC1.h.okb q hq) k2,fun id o hl=>by simp [look] at hl,fun id t sz g els g' hl=>by simp [look] at hl,fun id t sz g els hl=>by simp [look] at hl,fun id o b hl=>by simp [look] at hl,fun id id' o o' b hl=>by simp [look] at hl,fun id o hl=>by simp [look] at hl⟩
    have hC2 : Core ⟨W2,x1,s1.hp,some none⟩ (· < s.nx + pre.length) { s1 with nx:=s.nx + pre.length,lo:=s.nx + pre.length } a1 W2 x1:=
      ⟨hH2,fun t u0 ht=>(hC1.t t u0 ht).mono hm,hC1.n,by rw [hd1]; exact Mk.nil _ _ _,Tr.refl _ _ _,Mo.refl _ _ _,hC1.dom,Nat.le_refl _,hC1.dom⟩
    have hdst : ∀ k,o.dst = some k → k < s1.nt:=fun k hk=>by
      have h1:=(Array.all_eq_true_iff_forall_mem.1 hd') o (Array.mem_of_getElem? hi)
      rw [hk] at h1
      rw [hnt]
      simpa using h1
    have hN:=hC2.next (nid:=0) (wr:=[]) (v:=.raw (.bool b)) (val:=.bool b) (d:=o.dst) hdst (Stp.refl hC2.h) (.raw _) (fun _ _ h=>.inl h)
    have hC3 : Core ⟨W2,x1,s1.hp,some none⟩ (· < s.nx + pre.length) (({ s1 with nx:=s.nx + pre.length,lo:=s.nx + pre.length } : St).put o.dst (.raw (.bool b))) (a1.put o.dst (.bool b)) W2 x1:=
      ⟨hN.h,hN.t,hN.n,hN.d,hN.tr,hN.mo,hN.lo,hN.ln,hC2.dom⟩
    have hlast : wpOpsIn (wR (some none)) 0 P ops (fun e a' W'=>∃ s' I',Q e s' I' ∧ IR I' s' a' W') (List.range' (pre.length + 1 + 0) post.length ++ []) (a1.put o.dst (.bool b)) W2:=by
      refine runPre_s (B:=⟨W2,x1,s1.hp,some none⟩) (nt:=s.nt) (nx:=s.nx + pre.length) (q:=pre.length + 1) (n:=post.length) hE hd' ?_ post 0 _ (a1.put o.dst (.bool b)) W2 x1 (by simp) (fun j hj=>?_) (by rw [← hnt]; cases o.dst <;> rfl) (by cases o.dst <;> rfl) (by simpa using hC3) (h5 b)
      · rintro s4 a4 W4 x4 ⟨s5,e1,e2,e3⟩ hnx4 hnt4 hC4
        have hC5 : Core ⟨W2,x1,[],some none⟩ (· < s4.nx + post.length) { s4 with nx:=s4.nx + post.length } a4 W4 x4:=by
          rw [h1] at hC4
          exact ⟨hC4.h,hC4.t,hC4.n,hC4.d,hC4.tr,hC4.mo,hC4.lo,Nat.le_trans hC4.ln (Nat.le_add_right _ _),fun id g hd=>by have:=hC4.dom id g hd; rw [hnx4]; exact this⟩
        refine ⟨s5,_,e3,IR.next ?_ q1 q2 q3 e2 (e1 _ _ _ ⟨x4,hC5⟩)⟩
        cases b with
        | true=>exact hJ _
        | false=>exact fun A A' own h hg=>hJx A A' h hg
      · rw [hops,List.getElem?_toArray,List.getElem?_append_right (by omega),show pre.length + 1 + 0 + j - pre.length = j + 1 by omega]
        simp [hj]
    simpa using hlast
  · rw [hops]
    simp only [List.getElem?_toArray,Nat.zero_add]
    rw [List.getElem?_append_left hj]
    simp [hj]
theorem YV.yieldAt (n : Nat) {E : EvT} (hE : EvOk P T E) {id l k g : Nat} {ops : List Oper} {o : Oper} {c : Call} {J : Nat → World → (Nat → Prop) → Prop} {Jx : World → Prop} {us : List (List AV)} {u : List AV} (hn : ops[n]? = some o)
    (hJ : ∀ k,GrowI (J k)) (hJx : ∀ A A',Jx A → Grows A A' → Jx A') (hJb : ∀ k W own,J k W own → ∀ b,own b → b < W.heap.size) (hY : YieldOk P l J Jx us) (hu : us[k]? = some u)
    (ho : o.op = .call c) (hcal : c.callee = .value (.tmp g)) (hd : dstOk ops.toArray s.nt = true) {ds : List (Option Nat)} (hds : ops.map (·.dst) = ds)
    (h : ∀ K : Bool → St → Prop,(∀ b s',(∃ s5,Sub s' s5 ∧ s5.hp = [] ∧ Q .normal s5 (bif b then J (k + 1) else fun W _=>Jx W)) → K b s') → runPre E P T ds (ops.take n) 0 ⟨s.tm,[],s.nx,s.nt,s.nx⟩ fun s1=>s1.hp = [] ∧ look s1.tm g = some (.fn (.yield l) [] []) ∧ argOk s1.tm c.args.toList u ∧ gdOk s1.tm ds o.guard ∧
      ∀ b : Bool,runPre E P T ds (ops.drop (n + 1)) 0 (({ s1 with nx:=s.nx + (ops.take n).length,lo:=s.nx + (ops.take n).length } : St).put o.dst (.raw (.bool b))) fun s4=>K b { s4 with nx:=s4.nx + (ops.drop (n + 1)).length }) :
    YV P (.region id ops.toArray false) Q s (J k):=by
  have hlt : n < ops.length:=(List.getElem?_eq_some_iff.1 hn).1
  have hsp : ops = ops.take n ++ o :: ops.drop (n + 1):=by
    have h1 : ops.drop n = o :: ops.drop (n + 1):=by
      rw [List.drop_eq_getElem_cons hlt]
      congr 1
      exact (List.getElem?_eq_some_iff.1 hn).2
    rw [← h1,List.take_append_drop]
  have key:=YV.yield (id:=id) (pre:=ops.take n) (post:=ops.drop (n + 1)) (o:=o) (Q:=Q) (s:=s) (ds:=ds) hE hJ hJx hJb hY hu ho hcal (by rw [← hsp]; exact hd) (by rw [← hsp]; exact hds) (h (fun b s'=>∃ s5,Sub s' s5 ∧ s5.hp = [] ∧ Q .normal s5 (bif b then J (k + 1) else fun W _=>Jx W)) fun _ _ h=>h)
  rwa [← hsp] at key
theorem ItC.of {gf : FuncId} {fn : Func} {c : Code} (hf : P.funcs[gf]? = some fn) (hb : fn.body = some c) (nt : Nat) (hnt : fn.ntmps = nt) (hres : fn.results.toList = []) {caps : List AV} {us : List (List AV)} (hn : decide (caps.length + 1 ≤ nt) = true) (hin : (caps.all (AV.in3 (Hp.has []))) = true)
    (h : ∀ (l : Nat) (J : Nat → World → (Nat → Prop) → Prop) (Jx : World → Prop),(∀ k,GrowI (J k)) → (∀ A A',Jx A → Grows A A' → Jx A') → (∀ k W own,J k W own → ∀ b,own b → b < W.heap.size) → YieldOk P l J Jx us →
      YV P c (fun e _ I=>(e = .normal ∨ e = .ret) ∧ (I = J us.length ∨ I = fun W _=>Jx W)) ⟨(0,.fn (.yield l) [] []) :: enumA 1 caps,[],0,nt,0⟩ (J 0)) : ItC P gf caps us:=by
  subst hnt
  have hn:=of_decide_eq_true hn
  intro W0 x0 lb hH hsz hrel l J Jx hJ hJx hJo hY own h0
  have hres' : fn.results = #[]:=by
    apply Array.ext'
    rw [hres]
  refine callsIn_of_wp (F:=Fence.wide) (n:=0) hf hb trivial ?_
  have hS0 : SubH [] ([] : Hp):=fun id o h=>h
  have hx : HRel W0 (x0.only (Hp.has [])) []:=hH.sub hS0 (Hp.has []) fun id o h=>by simp [look] at h
  have hno : ∀ id g,¬ (x0.only (Hp.has [])).dom id g:=fun id g h=>by
    have:=h.2
    simp [Hp.has,look] at this
  have hIR : IR (J 0) ⟨(0,.fn (.yield l) [] []) :: enumA 1 caps,[],0,fn.ntmps,0⟩ { tmps:=(#[Value.func (.yield l) #[] #[]] ++ lb) ++ Array.replicate (fn.ntmps - (#[Value.func (.yield l) #[] #[]] ++ lb).size) undef,defers:=[] } W0:=by
    have hb0:=hJo 0 W0 own h0
    refine ⟨own,x0.only (Hp.has []),h0,hb0.1,⟨hx,fun t u ht=>?_,by simp; omega,Mk.nil _ _ _,Tr.refl _ _ _,Mo.refl _ _ _,fun id g h=>absurd h (hno id g),Nat.le_refl _,fun id g h=>absurd h (hno id g)⟩,hb0.2⟩
    simp only [look] at ht
    split at ht
    · rename_i e
      subst e
      injection ht with ht
      subst ht
      have e : ((#[Value.func (.yield l) #[] #[]] ++ lb) ++ Array.replicate (fn.ntmps - (#[Value.func (.yield l) #[] #[]] ++ lb).size) undef).getD 0 undef = .func (.yield l) #[] #[]:=by
        simp [Array.getD_eq_getD_getElem?,Array.getElem?_append]
      show VRel W0 _ [] _ (((#[Value.func (.yield l) #[] #[]] ++ lb) ++ Array.replicate (fn.ntmps - (#[Value.func (.yield l) #[] #[]] ++ lb).size) undef).getD 0 undef)
      rw [e]
      exact .fn _ [] [] #[] #[] rfl rfl (fun i u h=>by simp at h) (fun i u h=>by simp at h)
    · obtain ⟨h1,h2⟩:=look_enumA caps 1 t u ht
      have h4:=lt_of_get h2
      have e : ((#[Value.func (.yield l) #[] #[]] ++ lb) ++ Array.replicate (fn.ntmps - (#[Value.func (.yield l) #[] #[]] ++ lb).size) undef).getD t undef = lb.getD (t - 1) undef:=by
        simp only [Array.getD_eq_getD_getElem?]
        rw [Array.getElem?_append_left (by simp; omega),Array.getElem?_append_right (by simpa using h1)]
        simp
      show VRel W0 _ [] u (((#[Value.func (.yield l) #[] #[]] ++ lb) ++ Array.replicate (fn.ntmps - (#[Value.func (.yield l) #[] #[]] ++ lb).size) undef).getD t undef)
      rw [e]
      exact ((hrel (t - 1) u h2).in3_ (all_at hin h2)).mono (Mo.sub hS0)
  refine wpIn_mono (h l J Jx (fun k A A' own=>hJ k A A' own) hJx (fun k W own h=>(hJo k W own h).1) (fun k u vals W own a b c d=>hY k u vals W own a b c d) _ W0 hIR) ?_
  rintro e a' W' ⟨s',I',⟨he,hI⟩,own',x',q1,q2,hC',q3⟩
  have hd : a'.defers = []:=by
    obtain ⟨Ds,e1,_,_,e4⟩:=hC'.d
    rw [e1,e4 (by simp)]
    rfl
  have hfin : (∃ own',J us.length W' own') ∨ Jx W':=by
    rcases hI with rfl | rfl
    · exact .inl ⟨own',q1⟩
    · exact .inr q1
  have hr : ∃ v,(results fn a'.tmps).run P W' = .ok v W':=by
    refine ⟨.tuple #[],?_⟩
    rw [results_eq,hres']
    simp
  obtain ⟨v,hv⟩:=hr
  rcases he with rfl | rfl
  · exact ⟨hd,v,hv,⟨v,rfl⟩,hfin⟩
  · exact ⟨hd,v,hv,⟨v,rfl⟩,hfin⟩
end
open Go Go.RowKit Go.Proofs.Tryz
structure AN (n : Nat) where
  l : List Int
  h : l.length = n
def AN.get {n : Nat} (a : AN n) (k : Nat) : Int:=a.l.getD k 0
def AN.set {n : Nat} (a : AN n) (k : Nat) (v : Int) : AN n:=⟨a.l.set k v,by simp [a.h]⟩
def AN.zero (n : Nat) : AN n:=⟨List.replicate n 0,by simp⟩
def Hc {n : Nat} (a : AN n) : List AV:=a.l.map fun x=>.raw (.int .i64 x)
theorem Ja0 {n : Nat} (a : AN n) : (Hc a).length = n:=by simp [Hc,a.h]
theorem Je0 {n : Nat} (a : AN n) {k : Nat} (hk : k < n) : (Hc a)[k]? = some (.raw (.int .i64 (a.get k))):=by
  have : k < a.l.length:=by rw [a.h]; exact hk
  simp [Hc,AN.get,this]
theorem Ix0 {n : Nat} (a : AN n) (k : Nat) (v : Int) : (Hc a).set k (.raw (.int .i64 v)) = Hc (a.set k v):=by
  simp [Hc,AN.set,List.map_set]
theorem Jf0 {n : Nat} (a : AN n) : (Hc a).map AV.lo0 = Hc a:=by simp [Hc,AV.lo0]
theorem Jc0 {n : Nat} (a : AN n) (π : Nat → Nat) : (Hc a).map (AV.ren1 π) = Hc a:=by simp [Hc,AV.ren1,AV.ren0]
theorem Fv {n : Nat} (a : AN n) (d : Nat → Bool) : (Hc a).all (AV.in1 d) = true:=by simp [Hc,AV.in1,AV.in0]
theorem AN.un (n : Nat) (x : Int) : List.replicate (n + 1) x = x :: List.replicate n x:=Eq.trans rfl rfl
attribute [push_cast] Ja0 Je0 Ix0 Jf0 Jc0 Fv
attribute [push_cast] putAll
theorem cast64_rem (x y : UInt64) : ((x % y).toNat : Int) = Int.tmod (x.toNat : Int) (y.toNat : Int):=by
  rw [UInt64.toNat_mod,Int.ofNat_tmod]
theorem cast64_quo (x y : UInt64) : ((x / y).toNat : Int) = IntKind.u64.wrap (Int.tdiv (x.toNat : Int) (y.toNat : Int)):=by
  have h1 : Int.tdiv (x.toNat : Int) (y.toNat : Int) = ((x.toNat / y.toNat : Nat) : Int):=(Int.ofNat_tdiv _ _).symm
  have h2:=x.toNat_lt
  have h3 : x.toNat / y.toNat ≤ x.toNat:=Nat.div_le_self _ _
  rw [h1,UInt64.toNat_div,IntKind.wrap_u64]
  have hq : x.toNat / y.toNat < 18446744073709551616:=by omega
  generalize x.toNat / y.toNat = q at hq
  omega
theorem cast64_sub (x y : UInt64) : ((x - y).toNat : Int) = IntKind.u64.wrap ((x.toNat : Int) - (y.toNat : Int)):=by
  have h1:=x.toNat_lt
  have h2:=y.toNat_lt
  rw [IntKind.wrap_u64,UInt64.toNat_sub]
  omega
theorem cast64_mul (x y : UInt64) : ((x * y).toNat : Int) = IntKind.u64.wrap ((x.toNat : Int) * (y.toNat : Int)):=by
  rw [IntKind.wrap_u64,UInt64.toNat_mul]
  simp
theorem cast_min32 (a b : UInt32) : ((min32 a b).toNat : Int) = if b.toNat < a.toNat then (b.toNat : Int) else (a.toNat : Int):=by
  rw [← min32_of]
  simp only [Int.ofNat_lt]
theorem cast_max32 (a b : UInt32) : ((max32 a b).toNat : Int) = if a.toNat < b.toNat then (b.toNat : Int) else (a.toNat : Int):=by
  rw [← max32_of]
  simp only [GT.gt,Int.ofNat_lt]
theorem cast_min64 (a b : UInt64) : ((min64 a b).toNat : Int) = if b.toNat < a.toNat then (b.toNat : Int) else (a.toNat : Int):=by
  rw [← min64_of]
  simp only [Int.ofNat_lt]
theorem cast_max64 (a b : UInt64) : ((max64 a b).toNat : Int) = if a.toNat < b.toNat then (b.toNat : Int) else (a.toNat : Int):=by
  rw [← max64_of]
  simp only [GT.gt,Int.ofNat_lt]
theorem cast32_64 (x : UInt64) : (x.toUInt32.toNat : Int) = IntKind.u32.wrap (x.toNat : Int):=by
  rw [IntKind.wrap_u32,UInt64.toNat_toUInt32]
  omega
theorem cast8_64 (x : UInt64) : (x.toUInt8.toNat : Int) = IntKind.u8.wrap (x.toNat : Int):=by
  rw [IntKind.wrap_u8,UInt64.toNat_toUInt8]
  omega
theorem cast8_32 (x : UInt32) : (x.toUInt8.toNat : Int) = IntKind.u8.wrap (x.toNat : Int):=by
  rw [IntKind.wrap_u8,UInt32.toNat_toUInt8]
  omega
attribute [push_cast] cast32_64 cast8_64 cast8_32
attribute [push_cast] cast64_rem cast64_quo cast64_sub cast64_mul cast_min32 cast_max32 cast_min64 cast_max64
noncomputable def Qa (i_1 : Int) (i_2 : Bool) : Option (Int):=
  cond i_2 (
  some i_1) (
  some (-1))
noncomputable def Li (a0 : Int) : Option (Int):=
  po (
  cond (a0 == 0) (
  some (3,true)) (
  cond (a0 == 1) (
  some (4,true)) (
  cond (a0 == 2) (
  some (2,true)) (
  cond (a0 == 3) (
  some (2,true)) (
  cond (a0 == 4) (
  some (0,true)) (
  cond (a0 == 5) (
  some (2,true)) (
  some (0,false)))))))) (fun x=>Qa x.1 x.2)
theorem Xd {a0 : Int} {r : Int} (h : Li a0 = some r) : Ctr prog 85 [ri a0] [] (ri r) []:=by
 unfold Li at h;refine Ctr.ofW Bb func85 rfl call85 0 _ ntmps85 [.tmp 2] rfl rfl rfl (fun B=>?_);refine vs [0] fun _ k=>?_;push_cast;apply k;clear k;refine VC.seq ?_;refine vj h (fun x=>⟨[(3,ri x.1),(4,rb x.2)],[],16,14,0⟩) (fun v1 h hk1=>?_) ?_
 ·rcases bt (a0 == 0) with hb2 | hb2
  ·replace h:=Ao hb2 h;refine vlG [some 6,none,none,none,none,none,none,some 7,some 8,some 9,some 5,some 10,some 11,some 3,some 4] fun _ k=>?_;refine Af 8 fun _ l=>?_;push_cast [hb2];(repeat refine ao ?_);apply l;clear l;simp only [List.drop_succ_cons,List.drop_zero];push_cast [hb2];(repeat refine ao ?_);apply k;clear k;refine ar h hk1 ?_;exact sl (by push_cast [hb2])
  ·replace h:=Av hb2 h;rcases bt (a0 == 1) with hb3 | hb3
   ·replace h:=Ao hb3 h;refine vlG [some 6,none,none,none,none,none,none,some 7,some 8,some 9,some 5,some 10,some 11,some 3,some 4] fun _ k=>?_;refine Af 8 fun _ l=>?_;push_cast [hb2,hb3];(repeat refine ao ?_);apply l;clear l;simp only [List.drop_succ_cons,List.drop_zero];push_cast [hb2,hb3];(repeat refine ao ?_);apply k;clear k;refine ar h hk1 ?_;exact sl (by push_cast [hb2,hb3])
   ·replace h:=Av hb3 h;rcases bt (a0 == 2) with hb4 | hb4
    ·replace h:=Ao hb4 h;refine vlG [some 6,none,none,none,none,none,none,some 7,some 8,some 9,some 5,some 10,some 11,some 3,some 4] fun _ k=>?_;refine Af 8 fun _ l=>?_;push_cast [hb2,hb3,hb4];(repeat refine ao ?_);apply l;clear l;simp only [List.drop_succ_cons,List.drop_zero];push_cast [hb2,hb3,hb4];(repeat refine ao ?_);apply k;clear k;refine ar h hk1 ?_;exact sl (by push_cast [hb2,hb3,hb4])
    ·replace h:=Av hb4 h;rcases bt (a0 == 3) with hb5 | hb5
     ·replace h:=Ao hb5 h;refine vlG [some 6,none,none,none,none,none,none,some 7,some 8,some 9,some 5,some 10,some 11,some 3,some 4] fun _ k=>?_;refine Af 8 fun _ l=>?_;push_cast [hb2,hb3,hb4,hb5];(repeat refine ao ?_);apply l;clear l;simp only [List.drop_succ_cons,List.drop_zero];push_cast [hb2,hb3,hb4,hb5];(repeat refine ao ?_);apply k;clear k;refine ar h hk1 ?_;exact sl (by push_cast [hb2,hb3,hb4,hb5])
     ·replace h:=Av hb5 h;rcases bt (a0 == 4) with hb6 | hb6
      ·replace h:=Ao hb6 h;refine vlG [some 6,none,none,none,none,none,none,some 7,some 8,some 9,some 5,some 10,some 11,some 3,some 4] fun _ k=>?_;refine Af 8 fun _ l=>?_;push_cast [hb2,hb3,hb4,hb5,hb6];(repeat refine ao ?_);apply l;clear l;simp only [List.drop_succ_cons,List.drop_zero];push_cast [hb2,hb3,hb4,hb5,hb6];(repeat refine ao ?_);apply k;clear k;refine ar h hk1 ?_;exact sl (by push_cast [hb2,hb3,hb4,hb5,hb6])
      ·replace h:=Av hb6 h;rcases bt (a0 == 5) with hb7 | hb7
       ·replace h:=Ao hb7 h;refine vlG [some 6,none,none,none,none,none,none,some 7,some 8,some 9,some 5,some 10,some 11,some 3,some 4] fun _ k=>?_;refine Af 8 fun _ l=>?_;push_cast [hb2,hb3,hb4,hb5,hb6,hb7];(repeat refine ao ?_);apply l;clear l;simp only [List.drop_succ_cons,List.drop_zero];push_cast [hb2,hb3,hb4,hb5,hb6,hb7];(repeat refine ao ?_);apply k;clear k;refine ar h hk1 ?_;exact sl (by push_cast [hb2,hb3,hb4,hb5,hb6,hb7])
       ·replace h:=Av hb7 h;refine vlG [some 6,none,none,none,none,none,none,some 7,some 8,some 9,some 5,some 10,some 11,some 3,some 4] fun _ k=>?_;refine Af 8 fun _ l=>?_;push_cast [hb2,hb3,hb4,hb5,hb6,hb7];(repeat refine ao ?_);apply l;clear l;simp only [List.drop_succ_cons,List.drop_zero];push_cast [hb2,hb3,hb4,hb5,hb6,hb7];(repeat refine ao ?_);apply k;clear k;refine ar h hk1 ?_;exact sl (by push_cast [hb2,hb3,hb4,hb5,hb6,hb7])
 ·rintro ⟨i_1,i_2⟩ (h : Qa i_1 i_2 = some r);(try push_cast);unfold Qa at h;refine vs [3,12] fun _ k=>?_;push_cast;apply k;clear k;refine vc h (fun hb8 h=>?_) (fun hb8 h=>?_)
  ·refine vs [2] fun _ k=>?_;push_cast;apply k;clear k;refine VC.ret ?_;replace h:=Option.some.inj h;subst h;exact en (by push_cast [hb8])
  ·refine VC.skip ?_;refine vs [2] fun _ k=>?_;push_cast;apply k;clear k;refine VC.ret ?_;replace h:=Option.some.inj h;subst h;exact en (by push_cast [hb8])
noncomputable def Xc (a0 : UInt32) : Option (UInt32):=
  pl ((1664525 : UInt32)) fun c1=>
  pl ((1013904223 : UInt32)) fun c2=>
  some ((c1 * a0) + c2)
theorem Fv0 {a0 : UInt32} {r : UInt32} (h : Xc a0 = some r) : Ctr prog 118 [ru a0] [] (ru r) []:=by
 unfold Xc at h;refine Ctr.ofW Bb func118 rfl call118 0 _ ntmps118 [.tmp 2] rfl rfl rfl (fun B=>?_);refine vs [0] fun _ k=>?_;push_cast;apply k;clear k;obtain ⟨c1,hc1,h⟩:=Bn h;have hc1i : (c1.toNat : Int) = 1664525:=by rw [hc1];rfl
 obtain ⟨c2,hc2,h⟩:=Bn h;have hc2i : (c2.toNat : Int) = 1013904223:=by rw [hc2];rfl
 refine vs [2] fun _ k=>?_;push_cast [hc1i,hc2i];(repeat refine ao ?_);apply k;clear k;refine VC.ret ?_;replace h:=Option.some.inj h;subst h;exact en (by push_cast [hc1i,hc2i])
noncomputable def Mn (i_1 : Bool) : Option (Bool):=
  some i_1
noncomputable def Gh (a0 : Int) (a1 : Int) (a2 : Int) : Option (Bool):=
  po (
  cond (decide (a0 ≥ a1)) (
  some (decide (a0 ≤ a2))) (
  some false)) (fun x=>Mn x)
theorem Im {a0 : Int} {a1 : Int} {a2 : Int} {r : Bool} (h : Gh a0 a1 a2 = some r) : Ctr prog 89 [ri a0,ri a1,ri a2] [] (rb r) []:=by
 unfold Gh at h;refine Ctr.ofW Bb func89 rfl call89 0 _ ntmps89 [.tmp 6] rfl rfl rfl (fun B=>?_);refine vs [0,1,2] fun _ k=>?_;push_cast;apply k;clear k;refine vj h (fun x=>⟨[(6,rb x)],[],10,15,0⟩) (fun v1 h hk1=>?_) ?_
 ·rcases bt (decide (a0 ≥ a1)) with hb2 | hb2
  ·replace h:=Ao hb2 h;refine vlG [some 7,some 8,some 9,some 10,some 11,some 12,some 13,some 14,some 6] fun _ k=>?_;push_cast [hb2];(repeat refine ao ?_);apply k;clear k;refine ar h hk1 ?_;exact sl (by push_cast [hb2])
  ·replace h:=Av hb2 h;refine vlG [some 7,some 8,some 9,some 10,some 11,some 12,some 13,some 14,some 6] fun _ k=>?_;push_cast [hb2];(repeat refine ao ?_);apply k;clear k;refine ar h hk1 ?_;exact sl (by push_cast [hb2])
 ·rintro i_1 (h : Mn i_1 = some r);(try push_cast);unfold Mn at h;refine VC.ret ?_;replace h:=Option.some.inj h;subst h;exact en (by push_cast)
noncomputable def Kz (i_2 : Bool) : Option (Bool):=
  some i_2
noncomputable def Iz (a0 : Au) (i_1 : Int) : Option (Bool):=
  po (
  po (Gh a0.Kind 0 3) fun r4=>
  cond r4 (
  po (Gh a0.Cap 1 16) fun r6=>
  cond r6 (
  po (Gh a0.Words 1 i_1) fun r8=>
  cond r8 (
  po (Gh a0.Ver 0 1000) fun r10=>
  some r10) (
  some false)) (
  some false)) (
  some false)) (fun x=>Kz x)
noncomputable def Ed (a0 : Au) : Option (Bool):=
  po (
  cond (a0.Kind == 3) (
  some 1) (
  some 4)) (fun x=>Iz a0 x)
theorem Iq {a0 : Au} {r : Bool} (h : Ed a0 = some r) : Ctr prog 56 [.agg (Ai a0)] [] (rb r) []:=by
 unfold Ed at h;refine Ctr.ofW Bb func56 rfl call56 0 _ ntmps56 [.tmp 2] rfl rfl rfl (fun B=>?_);refine vs [1] fun _ k=>?_;push_cast;apply k;clear k;refine vs [1,3] fun _ k=>?_;push_cast;apply k;clear k;refine vj h (fun x=>⟨[(1,.ref 0 0),(3,ri x)],[(0,.box 50 (Ai a0))],7,26,0⟩) (fun v1 h hk1=>?_) ?_
 ·refine vs [1,3,6] fun _ k=>?_;push_cast;apply k;clear k;refine vc h (fun hb2 h=>?_) (fun hb2 h=>?_)
  ·refine vl fun _ k=>?_;push_cast;apply k;clear k;refine ar h hk1 ?_;exact sl (by push_cast [hb2])
  ·refine VC.skip ?_;refine ar h hk1 ?_;exact sl (by push_cast [hb2])
 ·rintro i_1 (h : Iz a0 i_1 = some r);(try push_cast);unfold Iz at h;refine vj h (fun x=>⟨[(2,rb x)],[],27,26,0⟩) (fun v3 h hk3=>?_) ?_
  ·obtain ⟨r4,hr4,h⟩:=Aa h;rcases bt r4 with hb5 | hb5
   ·replace h:=Ao hb5 h;obtain ⟨r6,hr6,h⟩:=Aa h;rcases bt r6 with hb7 | hb7
    ·replace h:=Ao hb7 h;obtain ⟨r8,hr8,h⟩:=Aa h;rcases bt r8 with hb9 | hb9
     ·replace h:=Ao hb9 h;obtain ⟨r10,hr10,h⟩:=Aa h;refine vlG [some 7,some 8,some 9,some 10,some 11,some 12,some 13,some 14,some 15,some 16,some 17,some 18,some 19,some 20,some 21,some 22,some 23,some 24,some 25,some 2] fun _ k=>?_;refine Af 8 fun _ l=>?_;push_cast [hb5,hb7,hb9];(repeat refine ao ?_);refine cp (Im hr4) ?_;push_cast [hb5,hb7,hb9];(repeat refine ao ?_);refine cp (Im hr6) ?_;push_cast [hb5,hb7,hb9];(repeat refine ao ?_);apply l;clear l;simp only [List.drop_succ_cons,List.drop_zero];refine Af 8 fun _ l=>?_;push_cast [hb5,hb7,hb9];(repeat refine ao ?_);refine cp (Im hr8) ?_;push_cast [hb5,hb7,hb9];(repeat refine ao ?_);apply l;clear l;simp only [List.drop_succ_cons,List.drop_zero];push_cast [hb5,hb7,hb9];(repeat refine ao ?_);refine cp (Im hr10) ?_;push_cast [hb5,hb7,hb9];(repeat refine ao ?_);apply k;clear k;refine ar h hk3 ?_;exact sl (by push_cast [hb5,hb7,hb9])
     ·replace h:=Av hb9 h;refine vlG [some 7,some 8,some 9,some 10,some 11,some 12,some 13,some 14,some 15,some 16,some 17,some 18,some 19,some 20,some 21,some 22,some 23,some 24,some 25,some 2] fun _ k=>?_;refine Af 8 fun _ l=>?_;push_cast [hb5,hb7,hb9];(repeat refine ao ?_);refine cp (Im hr4) ?_;push_cast [hb5,hb7,hb9];(repeat refine ao ?_);refine cp (Im hr6) ?_;push_cast [hb5,hb7,hb9];(repeat refine ao ?_);apply l;clear l;simp only [List.drop_succ_cons,List.drop_zero];refine Af 8 fun _ l=>?_;push_cast [hb5,hb7,hb9];(repeat refine ao ?_);refine cp (Im hr8) ?_;push_cast [hb5,hb7,hb9];(repeat refine ao ?_);apply l;clear l;simp only [List.drop_succ_cons,List.drop_zero];push_cast [hb5,hb7,hb9];(repeat refine ao ?_);apply k;clear k;refine ar h hk3 ?_;exact sl (by push_cast [hb5,hb7,hb9])
    ·replace h:=Av hb7 h;refine vlG [some 7,some 8,some 9,some 10,some 11,some 12,some 13,some 14,some 15,some 16,some 17,some 18,some 19,some 20,some 21,some 22,some 23,some 24,some 25,some 2] fun _ k=>?_;refine Af 8 fun _ l=>?_;push_cast [hb5,hb7];(repeat refine ao ?_);refine cp (Im hr4) ?_;push_cast [hb5,hb7];(repeat refine ao ?_);refine cp (Im hr6) ?_;push_cast [hb5,hb7];(repeat refine ao ?_);apply l;clear l;simp only [List.drop_succ_cons,List.drop_zero];refine Af 8 fun _ l=>?_;push_cast [hb5,hb7];(repeat refine ao ?_);apply l;clear l;simp only [List.drop_succ_cons,List.drop_zero];push_cast [hb5,hb7];(repeat refine ao ?_);apply k;clear k;refine ar h hk3 ?_;exact sl (by push_cast [hb5,hb7])
   ·replace h:=Av hb5 h;refine vlG [some 7,some 8,some 9,some 10,some 11,some 12,some 13,some 14,some 15,some 16,some 17,some 18,some 19,some 20,some 21,some 22,some 23,some 24,some 25,some 2] fun _ k=>?_;refine Af 8 fun _ l=>?_;push_cast [hb5];(repeat refine ao ?_);refine cp (Im hr4) ?_;push_cast [hb5];(repeat refine ao ?_);apply l;clear l;simp only [List.drop_succ_cons,List.drop_zero];refine Af 8 fun _ l=>?_;push_cast [hb5];(repeat refine ao ?_);apply l;clear l;simp only [List.drop_succ_cons,List.drop_zero];push_cast [hb5];(repeat refine ao ?_);apply k;clear k;refine ar h hk3 ?_;exact sl (by push_cast [hb5])
  ·rintro i_2 (h : Kz i_2 = some r);(try push_cast);unfold Kz at h;refine VC.ret ?_;replace h:=Option.some.inj h;subst h;exact en (by push_cast)
noncomputable def Ua (i_1 : Bool) : Option (Bool):=
  some i_1
noncomputable def Sh (i_3 : Bool) : Option (Bool):=
  some i_3
noncomputable def Pm (a1 : Au) (i_2 : Bool) : Option (Bool):=
  cond i_2 (
  po (
  po (Ed a1) fun r11=>
  cond r11 (
  some (a1.Kind != 3)) (
  some false)) (fun x=>Sh x)) (
  some false)
noncomputable def Qi (a0 : Int) (a1 : Au) : Option (Bool):=
  cond (a0 == 5) (
  po (
  po (Ed a1) fun r3=>
  cond r3 (
  some (a1.Kind == 3)) (
  some false)) (fun x=>Ua x)) (
  po (
  cond (a0 == 0) (
  some (a0 == 0)) (
  cond (a0 == 1) (
  some (a0 == 1)) (
  cond (a0 == 2) (
  some (a0 == 2)) (
  some (a0 == 3))))) (fun x=>Pm a1 x))
theorem Fi0 {a0 : Int} {a1 : Au} {r : Bool} (h : Qi a0 a1 = some r) : Ctr prog 119 [ri a0,.agg (Ai a1)] [] (rb r) []:=by
 unfold Qi at h;refine Ctr.ofW Bb func119 rfl call119 0 _ ntmps119 [.tmp 4] rfl rfl rfl (fun B=>?_);refine vs [0,3] fun _ k=>?_;push_cast;apply k;clear k;refine VC.seq ?_;refine vs [3,5] fun _ k=>?_;push_cast;apply k;clear k;refine VC.block ?_;refine vs [3,5,6] fun _ k=>?_;push_cast;apply k;clear k;refine vc h (fun hb1 h=>?_) (fun hb1 h=>?_)
 ·refine vj h (fun x=>⟨[(4,rb x)],[],13,27,0⟩) (fun v2 h hk2=>?_) ?_
  ·obtain ⟨r3,hr3,h⟩:=Aa h;rcases bt r3 with hb4 | hb4
   ·replace h:=Ao hb4 h;refine vlG [some 8,some 9,some 10,some 11,some 12,some 13,some 14,some 4] fun _ k=>?_;push_cast [hb4];(repeat refine ao ?_);refine cp (Iq hr3) ?_;push_cast [hb4];(repeat refine ao ?_);apply k;clear k;refine ar h hk2 ?_;exact sl (by push_cast [hb1,hb4])
   ·replace h:=Av hb4 h;refine vlG [some 8,some 9,some 10,some 11,some 12,some 13,some 14,some 4] fun _ k=>?_;push_cast [hb4];(repeat refine ao ?_);refine cp (Iq hr3) ?_;push_cast [hb4];(repeat refine ao ?_);apply k;clear k;refine ar h hk2 ?_;exact sl (by push_cast [hb1,hb4])
  ·rintro i_1 (h : Ua i_1 = some r);(try push_cast);unfold Ua at h;refine VC.ret ?_;replace h:=Option.some.inj h;subst h;exact en (by push_cast [hb1])
 ·refine vj h (fun x=>⟨[(3,.ref 0 0),(15,rb x)],[(0,.box 50 (Ai a1))],13,27,0⟩) (fun v5 h hk5=>?_) ?_
  ·refine vs [3,5,15] fun _ k=>?_;push_cast;apply k;clear k;refine vc h (fun hb6 h=>?_) (fun hb6 h=>?_)
   ·refine VC.skip ?_;refine ar h hk5 ?_;exact sl (by push_cast [hb1,hb6])
   ·refine vs [3,5,15] fun _ k=>?_;push_cast;apply k;clear k;refine vc h (fun hb7 h=>?_) (fun hb7 h=>?_)
    ·refine VC.skip ?_;refine ar h hk5 ?_;exact sl (by push_cast [hb1,hb6,hb7])
    ·refine vs [3,5,15] fun _ k=>?_;push_cast;apply k;clear k;refine vc h (fun hb8 h=>?_) (fun hb8 h=>?_)
     ·refine VC.skip ?_;refine ar h hk5 ?_;exact sl (by push_cast [hb1,hb6,hb7,hb8])
     ·refine vl fun _ k=>?_;push_cast;apply k;clear k;refine ar h hk5 ?_;exact sl (by push_cast [hb1,hb6,hb7,hb8])
  ·rintro i_2 (h : Pm a1 i_2 = some r);(try push_cast);unfold Pm at h;refine vc h (fun hb9 h=>?_) (fun hb9 h=>?_)
   ·refine vj h (fun x=>⟨[(4,rb x)],[],21,27,0⟩) (fun v10 h hk10=>?_) ?_
    ·obtain ⟨r11,hr11,h⟩:=Aa h;rcases bt r11 with hb12 | hb12
     ·replace h:=Ao hb12 h;refine vlG [some 20,some 21,some 22,some 23,some 24,some 25,some 26,some 4] fun _ k=>?_;push_cast [hb12];(repeat refine ao ?_);refine cp (Iq hr11) ?_;push_cast [hb12];(repeat refine ao ?_);apply k;clear k;refine ar h hk10 ?_;exact sl (by push_cast [hb1,hb9,hb12])
     ·replace h:=Av hb12 h;refine vlG [some 20,some 21,some 22,some 23,some 24,some 25,some 26,some 4] fun _ k=>?_;push_cast [hb12];(repeat refine ao ?_);refine cp (Iq hr11) ?_;push_cast [hb12];(repeat refine ao ?_);apply k;clear k;refine ar h hk10 ?_;exact sl (by push_cast [hb1,hb9,hb12])
    ·rintro i_3 (h : Sh i_3 = some r);(try push_cast);unfold Sh at h;refine VC.ret ?_;replace h:=Option.some.inj h;subst h;exact en (by push_cast [hb1,hb9])
   ·refine VC.skip ?_;refine vs [4] fun _ k=>?_;push_cast;apply k;clear k;refine VC.ret ?_;replace h:=Option.some.inj h;subst h;exact en (by push_cast [hb1,hb9])
def Cn (a0 : List Bd) : Option (List Bd):=pg (a0.length * 32 ≤ 140737488355328) (some a0)
theorem Rg {a0 : List Bd} (h : a0.length * 32 ≤ 140737488355328) : Cn a0 = some a0:=El h
theorem Ha {a0 : List Bd} {r : List Bd} (h : Cn a0 = some r) : Ctr prog 78 [.sl false (a0.map Aq)] [] (.row 0 0 2 0 r.length) [(0,.row 66 2 0 (r.map Aq))]:=by
 unfold Cn at h;obtain ⟨hg,h⟩:=Bs h;have hr:=Option.some.inj h;subst hr;refine Ctr.ofW Bb func78 rfl call78 0 _ ntmps78 [.tmp 2] rfl rfl rfl (fun B=>?_);refine VC.seqF Fa [some 2] [0] rfl rfl fun _ k=>?_;push_cast;apply k;clear k;refine VC.seq ?_;refine VC.seqF Fa [some 3,some 4] [0,4] rfl rfl fun _ k=>?_;push_cast;intro bn hbn;apply k;clear k;refine VC.cond rfl rfl (fun hc=>?_) (fun hc=>?_)
 ·have hn : a0 = []:=by
   have:=hbn hc;cases a0 with
   | nil=>rfl
   | cons _ _=>simp at this
  subst hn;refine VC.seqF Fa [some 2] [2] rfl rfl fun _ k=>?_;push_cast;apply k;clear k;refine VC.ret ?_;refine Cf (Sub.adoptT (k:=2) (e:=66) (sz:=2) rfl) ?_;refine Cf (Sub.renT (k:=2) (i':=0) rfl rfl (Nat.le_of_ble_eq_true rfl) (Nat.le_of_ble_eq_true rfl) rfl) ?_;refine endP (Sub.lo _) (Post.ret ?_ ?_ ?_)
  ·push_cast
  ·push_cast
  ·rfl
 ·refine VC.skip ?_;refine VC.seqF Fa [some 5,some 6,some 7,some 2] [2] rfl rfl fun _ k=>?_;push_cast [hg];(repeat refine ao ?_);apply k;clear k;refine VC.ret ?_;refine Cf (Sub.renT (k:=2) (i':=0) rfl rfl (Nat.le_of_ble_eq_true rfl) (Nat.le_of_ble_eq_true rfl) rfl) ?_;refine endP (Sub.lo _) (Post.ret ?_ ?_ ?_)
  ·push_cast
  ·push_cast
  ·rfl
def De (a0 : List Am) : Option (List Am):=pg (a0.length * 64 ≤ 140737488355328) (some a0)
theorem Lo {a0 : List Am} {r : List Am} (h : De a0 = some r) : Ctr prog 77 [.sl false (a0.map Ba)] [] (.row 0 0 6 0 r.length) [(0,.row 53 6 0 (r.map Ba))]:=by
 unfold De at h;obtain ⟨hg,h⟩:=Bs h;have hr:=Option.some.inj h;subst hr;refine Ctr.ofW Bb func77 rfl call77 0 _ ntmps77 [.tmp 2] rfl rfl rfl (fun B=>?_);refine VC.seqF Fa [some 2] [0] rfl rfl fun _ k=>?_;push_cast;apply k;clear k;refine VC.seq ?_;refine VC.seqF Fa [some 3,some 4] [0,4] rfl rfl fun _ k=>?_;push_cast;intro bn hbn;apply k;clear k;refine VC.cond rfl rfl (fun hc=>?_) (fun hc=>?_)
 ·have hn : a0 = []:=by
   have:=hbn hc;cases a0 with
   | nil=>rfl
   | cons _ _=>simp at this
  subst hn;refine VC.seqF Fa [some 2] [2] rfl rfl fun _ k=>?_;push_cast;apply k;clear k;refine VC.ret ?_;refine Cf (Sub.adoptT (k:=2) (e:=53) (sz:=6) rfl) ?_;refine Cf (Sub.renT (k:=2) (i':=0) rfl rfl (Nat.le_of_ble_eq_true rfl) (Nat.le_of_ble_eq_true rfl) rfl) ?_;refine endP (Sub.lo _) (Post.ret ?_ ?_ ?_)
  ·push_cast
  ·push_cast
  ·rfl
 ·refine VC.skip ?_;refine VC.seqF Fa [some 5,some 6,some 7,some 2] [2] rfl rfl fun _ k=>?_;push_cast [hg];(repeat refine ao ?_);apply k;clear k;refine VC.ret ?_;refine Cf (Sub.renT (k:=2) (i':=0) rfl rfl (Nat.le_of_ble_eq_true rfl) (Nat.le_of_ble_eq_true rfl) rfl) ?_;refine endP (Sub.lo _) (Post.ret ?_ ?_ ?_)
  ·push_cast
  ·push_cast
  ·rfl
def Cw (a0 : List UInt32) : Option (List UInt32):=pg (a0.length * 4 ≤ 140737488355328) (some a0)
theorem Nc {a0 : List UInt32} (h : a0.length * 4 ≤ 140737488355328) : Cw a0 = some a0:=El h
theorem Gk {a0 : List UInt32} {r : List UInt32} (h : Cw a0 = some r) : Ctr prog 79 [.sl false (a0.map Ax)] [] (.row 0 0 1 0 r.length) [(0,.row 25 1 0 (r.map Ax))]:=by
 unfold Cw at h;obtain ⟨hg,h⟩:=Bs h;have hr:=Option.some.inj h;subst hr;refine Ctr.ofW Bb func79 rfl call79 0 _ ntmps79 [.tmp 2] rfl rfl rfl (fun B=>?_);refine VC.seqF Fa [some 2] [0] rfl rfl fun _ k=>?_;push_cast;apply k;clear k;refine VC.seq ?_;refine VC.seqF Fa [some 3,some 4] [0,4] rfl rfl fun _ k=>?_;push_cast;intro bn hbn;apply k;clear k;refine VC.cond rfl rfl (fun hc=>?_) (fun hc=>?_)
 ·have hn : a0 = []:=by
   have:=hbn hc;cases a0 with
   | nil=>rfl
   | cons _ _=>simp at this
  subst hn;refine VC.seqF Fa [some 2] [2] rfl rfl fun _ k=>?_;push_cast;apply k;clear k;refine VC.ret ?_;refine Cf (Sub.adoptT (k:=2) (e:=25) (sz:=1) rfl) ?_;refine Cf (Sub.renT (k:=2) (i':=0) rfl rfl (Nat.le_of_ble_eq_true rfl) (Nat.le_of_ble_eq_true rfl) rfl) ?_;refine endP (Sub.lo _) (Post.ret ?_ ?_ ?_)
  ·push_cast
  ·push_cast
  ·rfl
 ·refine VC.skip ?_;refine VC.seqF Fa [some 5,some 6,some 7,some 2] [2] rfl rfl fun _ k=>?_;push_cast [hg];(repeat refine ao ?_);apply k;clear k;refine VC.ret ?_;refine Cf (Sub.renT (k:=2) (i':=0) rfl rfl (Nat.le_of_ble_eq_true rfl) (Nat.le_of_ble_eq_true rfl) rfl) ?_;refine endP (Sub.lo _) (Post.ret ?_ ?_ ?_)
  ·push_cast
  ·push_cast
  ·rfl
noncomputable def Rf (r7 : (List Bd)) (s_48 : Be) (s_49 : Am) (i_50 : Int) : Option ((Be × Am × Int) ⊕ (Be × Am)):=
  cond (decide (i_50 < (r7.length : Int))) (
  po (idx s_49.E i_50) fun x11=>
  po (Cw x11.V) fun r12=>
  pl (s_49.E.set i_50.toNat (Bd.mk x11.Key r12)) fun y13=>
  some (Sum.inl (s_48,(Am.mk s_49.S y13 s_49.Next),(IntKind.i64.wrap (i_50 + 1))))) (
  some (Sum.inr (s_48,s_49)))
noncomputable def Uv (i_19 : Int) (s_54 : Be) (s_55 : Am) : Option (Be):=
  po (idx s_54.T i_19) fun x14=>
  pl (s_54.T.set i_19.toNat s_55) fun y15=>
  some (Be.mk s_54.Ctx y15 s_54.Seed)
noncomputable def Us (i_19 : Int) (s_28 : Be) : Option ((Be × Int) ⊕ (Be)):=
  some (Sum.inl (s_28,(IntKind.i64.wrap (i_19 + 1))))
noncomputable def Rc (r1 : (List Am)) (s_18 : Be) (i_19 : Int) : Option ((Be × Int) ⊕ (Be)):=
  cond (decide (i_19 < (r1.length : Int))) (
  po (
  po (idx s_18.T i_19) fun x6=>
  po (Cn x6.E) fun r7=>
  po (
  lpU (fun x=>Rf r7 x.1 x.2.1 x.2.2) (s_18,(Am.mk x6.S r7 x6.Next),0)) (fun x=>Uv i_19 x.1 x.2)) (fun x=>Us i_19 x)) (
  some (Sum.inr s_18))
noncomputable def Vf (s_47 : Be) : Option (Be):=
  some s_47
noncomputable def Pj (a0 : Be) : Option (Be):=
  po (De a0.T) fun r1=>
  po (
  lpU (fun x=>Rc r1 x.1 x.2) ((Be.mk a0.Ctx r1 a0.Seed),0)) (fun x=>Vf x)
theorem Gt0 {a0 : Be} {r : Be} (h : Pj a0 = some r) : Ctr prog 117 [.agg (Uk a0)] [] (.agg [ru r.Ctx.a0,ru r.Ctx.a1,ru r.Ctx.a2,ru r.Ctx.a3,.row 0 0 6 0 r.T.length,ru r.Seed]) [(0,.row 53 6 0 (r.T.map Ba))]:=by
 unfold Pj at h;refine Ctr.ofW Bb func117 rfl call117 0 _ ntmps117 [.cell 2 29] rfl rfl rfl (fun B=>?_);refine vs [1,2] fun _ k=>?_;push_cast;apply k;clear k;obtain ⟨r1,hr1,h⟩:=Aa h;refine vs [1,2] fun _ k=>?_;push_cast;refine ch (H:=[]) (Ctr.loH (Ctr.ren (Bij.swp 0 4 Bij.id) (Lo hr1) (by push_cast) (by push_cast))) (by push_cast) ?_;push_cast;apply k;clear k;refine VC.sub (s':=⟨[(1,.ref 0 0),(2,.ref 1 0)],[(0,.box 29 [ru a0.Ctx.a0,ru a0.Ctx.a1,ru a0.Ctx.a2,ru a0.Ctx.a3,.row 4 0 6 0 r1.length,ru a0.Seed]),(1,.box 29 [.raw (.int .u32 0),.raw (.int .u32 0),.raw (.int .u32 0),.raw (.int .u32 0),.sl true [],.raw (.int .u32 0)]),(4,.row 53 6 0 (r1.map Ba))],7,48,0⟩) (so (by push_cast)) ?_;refine vj h (fun x=>⟨[(1,.ref 0 0),(2,.ref 1 0)],[(0,.box 29 [ru x.Ctx.a0,ru x.Ctx.a1,ru x.Ctx.a2,ru x.Ctx.a3,.row 4 0 6 0 x.T.length,ru x.Seed]),(1,.box 29 [.raw (.int .u32 0),.raw (.int .u32 0),.raw (.int .u32 0),.raw (.int .u32 0),.sl true [],.raw (.int .u32 0)]),(4,.row 53 6 0 (x.T.map Ba))],55,48,0⟩) (fun v2 h hk2=>?_) ?_
 ·refine vs [1,2,11,12,13] fun _ k=>?_;push_cast;apply k;clear k;refine VC.block ?_;refine VC.loopP h (fun x=>⟨[(1,.ref 0 0),(2,.ref 1 0),(11,.row 4 0 6 0 x.1.T.length),(12,ri (r1.length : Int)),(13,ri x.2)],[(0,.box 29 [ru x.1.Ctx.a0,ru x.1.Ctx.a1,ru x.1.Ctx.a2,ru x.1.Ctx.a3,.row 4 0 6 0 x.1.T.length,ru x.1.Seed]),(1,.box 29 [.raw (.int .u32 0),.raw (.int .u32 0),.raw (.int .u32 0),.raw (.int .u32 0),.sl true [],.raw (.int .u32 0)]),(4,.row 53 6 0 (x.1.T.map Ba))],54,48,0⟩) ?_ ?_
  ·exact so (by push_cast)
  rintro ⟨s_18,i_19⟩ b3 (h : Rc r1 s_18 i_19 = some b3) hf3;(try push_cast);unfold Rc at h;refine vs [1,2,11,12,13,14] fun _ k=>?_;push_cast;apply k;clear k;refine VC.seq ?_;refine vc h (fun hb4 h=>?_) (fun hb4 h=>?_)
  ·refine VC.skip ?_;refine vj h (fun x=>⟨[(1,.ref 0 0),(2,.ref 1 0),(11,.row 4 0 6 0 x.T.length),(12,ri (r1.length : Int)),(13,ri i_19)],[(0,.box 29 [ru x.Ctx.a0,ru x.Ctx.a1,ru x.Ctx.a2,ru x.Ctx.a3,.row 4 0 6 0 x.T.length,ru x.Seed]),(1,.box 29 [.raw (.int .u32 0),.raw (.int .u32 0),.raw (.int .u32 0),.raw (.int .u32 0),.sl true [],.raw (.int .u32 0)]),(4,.row 53 6 0 (x.T.map Ba))],95,48,0⟩) (fun v5 h hk5=>?_) ?_
   ·refine VC.block ?_;obtain ⟨x6,hx6,h⟩:=Aa h;replace hx6:=Bh hx6;refine vs [1,2,3,4,11,12,13] fun _ k=>?_;push_cast [hx6];(repeat refine ao ?_);apply k;clear k;obtain ⟨r7,hr7,h⟩:=Aa h;refine vs [1,2,3,4,11,12,13] fun _ k=>?_;push_cast;refine ch (H:=[]) (Ctr.loH (Ctr.ren (Bij.swp 0 63 Bij.id) (Ha hr7) (by push_cast) (by push_cast))) (by push_cast) ?_;push_cast;apply k;clear k;refine VC.sub (s':=⟨[(1,.ref 0 0),(2,.ref 1 0),(3,ri i_19),(4,.ref 58 0),(11,.row 4 0 6 0 s_18.T.length),(12,ri (r1.length : Int)),(13,ri i_19)],[(0,.box 29 [ru s_18.Ctx.a0,ru s_18.Ctx.a1,ru s_18.Ctx.a2,ru s_18.Ctx.a3,.row 4 0 6 0 s_18.T.length,ru s_18.Seed]),(1,.box 29 [.raw (.int .u32 0),.raw (.int .u32 0),.raw (.int .u32 0),.raw (.int .u32 0),.sl true [],.raw (.int .u32 0)]),(4,.row 53 6 0 (s_18.T.map Ba)),(58,.box 53 [ri x6.S.Kind,ri x6.S.Cap,ri x6.S.Words,ri x6.S.Ver,.row 63 0 2 0 r7.length,ru x6.Next]),(63,.row 66 2 0 (r7.map Aq))],66,48,0⟩) (so (by push_cast [hb4])) ?_;refine vj h (fun x=>⟨[(1,.ref 0 0),(2,.ref 1 0),(3,ri i_19),(4,.ref 58 0),(11,.row 4 0 6 0 x.1.T.length),(12,ri (r1.length : Int)),(13,ri i_19)],[(0,.box 29 [ru x.1.Ctx.a0,ru x.1.Ctx.a1,ru x.1.Ctx.a2,ru x.1.Ctx.a3,.row 4 0 6 0 x.1.T.length,ru x.1.Seed]),(1,.box 29 [.raw (.int .u32 0),.raw (.int .u32 0),.raw (.int .u32 0),.raw (.int .u32 0),.sl true [],.raw (.int .u32 0)]),(4,.row 53 6 0 (x.1.T.map Ba)),(58,.box 53 [ri x.2.S.Kind,ri x.2.S.Cap,ri x.2.S.Words,ri x.2.S.Ver,.row 63 0 2 0 x.2.E.length,ru x.2.Next]),(63,.row 66 2 0 (x.2.E.map Aq))],89,48,0⟩) (fun v8 h hk8=>?_) ?_
    ·refine vs [1,2,3,4,11,12,13,24,25] fun _ k=>?_;push_cast;apply k;clear k;refine VC.block ?_;refine VC.loopP h (fun x=>⟨[(1,.ref 0 0),(2,.ref 1 0),(3,ri i_19),(4,.ref 58 0),(11,.row 4 0 6 0 x.1.T.length),(12,ri (r1.length : Int)),(13,ri i_19),(24,ri (r7.length : Int)),(25,ri x.2.2)],[(0,.box 29 [ru x.1.Ctx.a0,ru x.1.Ctx.a1,ru x.1.Ctx.a2,ru x.1.Ctx.a3,.row 4 0 6 0 x.1.T.length,ru x.1.Seed]),(1,.box 29 [.raw (.int .u32 0),.raw (.int .u32 0),.raw (.int .u32 0),.raw (.int .u32 0),.sl true [],.raw (.int .u32 0)]),(4,.row 53 6 0 (x.1.T.map Ba)),(58,.box 53 [ri x.2.1.S.Kind,ri x.2.1.S.Cap,ri x.2.1.S.Words,ri x.2.1.S.Ver,.row 63 0 2 0 x.2.1.E.length,ru x.2.1.Next]),(63,.row 66 2 0 (x.2.1.E.map Aq))],88,48,0⟩) ?_ ?_
     ·exact so (by push_cast [hb4])
     rintro ⟨s_48,s_49,i_50⟩ b9 (h : Rf r7 s_48 s_49 i_50 = some b9) hf9;(try push_cast);unfold Rf at h;refine vs [1,2,3,4,11,12,13,24,25,26] fun _ k=>?_;push_cast;apply k;clear k;refine VC.seq ?_;refine vc h (fun hb10 h=>?_) (fun hb10 h=>?_)
     ·refine VC.skip ?_;refine VC.seq ?_;refine VC.block ?_;refine vs [1,2,3,4,5,11,12,13,24,25] fun _ k=>?_;push_cast;apply k;clear k;obtain ⟨x11,hx11,h⟩:=Aa h;replace hx11:=Bh hx11;obtain ⟨r12,hr12,h⟩:=Aa h;obtain ⟨y13,hy13,h⟩:=Bn h;have hy13l : y13.length = s_49.E.length:=by rw [hy13,List.length_set]
      refine vlD [some 28,some 29,some 30,some 31,some 32,some 33,some 34,some 35,some 36,some 37,some 38,some 39,none] fun _ k=>?_;refine Ce 8 fun _ l=>?_;push_cast [hx11];(repeat refine ao ?_);apply l;clear l;simp only [List.drop_succ_cons,List.drop_zero];push_cast [hx11];(repeat refine ao ?_);refine chD (H:=[]) (Ctr.loH (Ctr.ren (Bij.swp 0 100 Bij.id) (Gk hr12) (by push_cast [hx11]) (by push_cast [hx11]))) (by push_cast [hx11]) ?_;push_cast [hx11];(repeat refine ao ?_);refine ⟨rfl,k _ ?_⟩;clear k;refine vl fun _ k=>?_;push_cast;apply k;clear k;refine bk h ?_;exact so (by push_cast [hb4,hb10,hy13,hy13l])
     ·refine VC.exit ?_;replace h:=ol h hf9;refine ar h hk8 ?_;exact so (by push_cast [hb4,hb10])
    ·rintro ⟨s_54,s_55⟩ (h : Uv i_19 s_54 s_55 = some v5);(try push_cast);unfold Uv at h;obtain ⟨x14,hx14,h⟩:=Aa h;replace hx14:=Bh hx14;obtain ⟨y15,hy15,h⟩:=Bn h;have hy15l : y15.length = s_54.T.length:=by rw [hy15,List.length_set]
     refine vl fun _ k=>?_;push_cast [hx14];(repeat refine ao ?_);apply k;clear k;refine ar h hk5 ?_;exact so (by push_cast [hb4,hy15,hy15l])
   ·rintro s_28 (h : Us i_19 s_28 = some b3);(try push_cast);unfold Us at h;refine vl fun _ k=>?_;push_cast;apply k;clear k;refine bk h ?_;exact so (by push_cast [hb4])
  ·refine VC.exit ?_;replace h:=ol h hf3;refine ar h hk2 ?_;exact so (by push_cast [hb4])
 ·rintro s_47 (h : Vf s_47 = some r);(try push_cast);unfold Vf at h;refine vs [2] fun _ k=>?_;push_cast;apply k;clear k;refine VC.ret ?_;replace h:=Option.some.inj h;subst h;refine Cf (so (s':=⟨[(2,.ref 1 0)],[(1,.box 29 [ru s_47.Ctx.a0,ru s_47.Ctx.a1,ru s_47.Ctx.a2,ru s_47.Ctx.a3,.row 4 0 6 0 s_47.T.length,ru s_47.Seed]),(4,.row 53 6 0 (s_47.T.map Ba))],57,48,0⟩) (by push_cast)) ?_;refine Cf (Sub.renB (b:=1) (j:=4) (i':=0) rfl rfl rfl (Nat.le_of_ble_eq_true rfl) (Nat.le_of_ble_eq_true rfl) rfl) ?_;exact en (by push_cast)
noncomputable def Mr (a0 : Int) (a1 : Be) (a2 : (List UInt32)) (i_1 : Bool) : Option (Be × UInt32 × Int):=
  cond i_1 (
  some ((Be.mk (A4.mk 0 0 0 0) [] 0),0,1)) (
  po (Pj a1) fun r5=>
  cond (a0 == 4) (
  po (Xc r5.Seed) fun r7=>
  some ((Be.mk r5.Ctx r5.T r7),r7,0)) (
  po (a2[0]?) fun x8=>
  cond (decide ((IntKind.u64.wrap (x8.toNat : Int)) ≥ (IntKind.u64.wrap (r5.T.length : Int)))) (
  some (r5,0,10)) (
  none)))
noncomputable def Lk (a0 : Int) (a1 : Be) (a2 : (List UInt32)) : Option (Be × UInt32 × Int):=
  po (Li a0) fun r1=>
  po (
  cond (r1 == -1) (
  some true) (
  some (r1 != (a2.length : Int)))) (fun x=>Mr a0 a1 a2 x)
theorem Ff0 {a0 : Int} {a1 : Be} {a2 : (List UInt32)} {r : Be × UInt32 × Int} (h : Lk a0 a1 a2 = some r) : Ctr prog 86 [ri a0,.agg (Uk a1),.sl false (a2.map Ax)] [] (.tup [.agg [ru r.1.Ctx.a0,ru r.1.Ctx.a1,ru r.1.Ctx.a2,ru r.1.Ctx.a3,.row 0 0 6 0 r.1.T.length,ru r.1.Seed],ru r.2.1,ri r.2.2]) [(0,.row 53 6 0 (r.1.T.map Ba))]:=by
 unfold Lk at h;refine Ctr.ofW Bb func86 rfl call86 0 _ ntmps86 [.cell 6 29,.tmp 7,.tmp 8] rfl rfl rfl (fun B=>?_);refine vs [0,2,4,6] fun _ k=>?_;push_cast;apply k;clear k;refine VC.seq ?_;obtain ⟨r1,hr1,h⟩:=Aa h;refine vs [0,2,4,6,9] fun _ k=>?_;push_cast;refine cp (Xd hr1) ?_;push_cast;apply k;clear k;refine vj h (fun x=>⟨[(0,ri a0),(2,.sl false (a2.map Ax)),(4,.ref 0 0),(6,.ref 1 0),(23,rb x)],[(0,.box 29 (Uk a1)),(1,.box 29 [.raw (.int .u32 0),.raw (.int .u32 0),.raw (.int .u32 0),.raw (.int .u32 0),.sl true [],.raw (.int .u32 0)])],15,123,0⟩) (fun v2 h hk2=>?_) ?_
 ·rcases bt (r1 == -1) with hb3 | hb3
  ·replace h:=Ao hb3 h;refine vlG [some 16,some 17,some 18,some 19,some 20,some 21,some 22,some 23] fun _ k=>?_;push_cast [hb3];(repeat refine ao ?_);apply k;clear k;refine ar h hk2 ?_;exact so (by push_cast [hb3])
  ·replace h:=Av hb3 h;refine vlG [some 16,some 17,some 18,some 19,some 20,some 21,some 22,some 23] fun _ k=>?_;push_cast [hb3];(repeat refine ao ?_);apply k;clear k;refine ar h hk2 ?_;exact so (by push_cast [hb3])
 ·rintro i_1 (h : Mr a0 a1 a2 i_1 = some r);(try push_cast);unfold Mr at h;refine vc h (fun hb4 h=>?_) (fun hb4 h=>?_)
  ·refine vs [6,7,8] fun _ k=>?_;push_cast;apply k;clear k;refine VC.ret ?_;replace h:=Option.some.inj h;subst h;refine Cf (so (s':=⟨[(6,.ref 1 0),(7,.raw (.int .u32 0)),(8,ri 1)],[(1,.box 29 [.raw (.int .u32 0),.raw (.int .u32 0),.raw (.int .u32 0),.raw (.int .u32 0),.sl true [],.raw (.int .u32 0)])],19,123,0⟩) (by push_cast [hb4])) ?_;refine Cf (Sub.adopt (b:=1) (j:=4) (e:=53) (sz:=6) rfl rfl) ?_;refine Cf (Sub.renB (b:=1) (j:=4) (i':=0) rfl rfl rfl (Nat.le_of_ble_eq_true rfl) (Nat.le_of_ble_eq_true rfl) rfl) ?_;exact en (by push_cast [hb4])
  ·refine VC.skip ?_;obtain ⟨r5,hr5,h⟩:=Aa h;refine vs [0,2,4,6] fun _ k=>?_;push_cast;refine ch (H:=[]) (Ctr.loH (Ctr.ren (Bij.swp 0 16 Bij.id) (Gt0 hr5) (by push_cast) (by push_cast))) (by push_cast) ?_;push_cast;apply k;clear k;refine VC.sub (s':=⟨[(0,ri a0),(2,.sl false (a2.map Ax)),(4,.ref 0 0),(6,.ref 1 0)],[(0,.box 29 [ru r5.Ctx.a0,ru r5.Ctx.a1,ru r5.Ctx.a2,ru r5.Ctx.a3,.row 16 0 6 0 r5.T.length,ru r5.Seed]),(1,.box 29 [.raw (.int .u32 0),.raw (.int .u32 0),.raw (.int .u32 0),.raw (.int .u32 0),.sl true [],.raw (.int .u32 0)]),(16,.row 53 6 0 (r5.T.map Ba))],18,123,0⟩) (so (by push_cast [hb4])) ?_;refine VC.seq ?_;refine vs [0,2,4,6,28] fun _ k=>?_;push_cast;apply k;clear k;refine vc h (fun hb6 h=>?_) (fun hb6 h=>?_)
   ·obtain ⟨r7,hr7,h⟩:=Aa h;refine vs [4,6] fun _ k=>?_;push_cast;refine cp (Fv0 hr7) ?_;push_cast;apply k;clear k;refine vsD [some 33,some 34,some 35,none,some 7,some 8] [6,7,8] fun _ k=>?_;push_cast;refine ⟨rfl,k _ ?_⟩;clear k;refine VC.ret ?_;replace h:=Option.some.inj h;subst h;refine Cf (so (s':=⟨[(6,.ref 1 0),(7,ru r7),(8,ri 0)],[(1,.box 29 [ru r5.Ctx.a0,ru r5.Ctx.a1,ru r5.Ctx.a2,ru r5.Ctx.a3,.row 16 0 6 0 r5.T.length,ru r7]),(16,.row 53 6 0 (r5.T.map Ba))],31,123,0⟩) (by push_cast [hb4,hb6])) ?_;refine Cf (Sub.renB (b:=1) (j:=4) (i':=0) rfl rfl rfl (Nat.le_of_ble_eq_true rfl) (Nat.le_of_ble_eq_true rfl) rfl) ?_;exact en (by push_cast [hb4,hb6])
   ·refine VC.skip ?_;refine VC.seq ?_;obtain ⟨x8,hx8,h⟩:=Aa h;replace hx8:=gL hx8;refine vsD [some 36,some 37,some 38,some 39,some 40,some 41,some 42,some 43,some 44] [0,2,4,6,44] fun _ k=>?_;push_cast [hx8];(repeat refine ao ?_);refine ⟨rfl,k _ ?_⟩;clear k;refine vc h (fun hb9 h=>?_) (fun hb9 h=>?_)
    ·refine vs [6,7,8] fun _ k=>?_;push_cast;apply k;clear k;refine VC.ret ?_;replace h:=Option.some.inj h;subst h;refine Cf (so (s':=⟨[(6,.ref 1 0),(7,.raw (.int .u32 0)),(8,ri 10)],[(1,.box 29 [ru r5.Ctx.a0,ru r5.Ctx.a1,ru r5.Ctx.a2,ru r5.Ctx.a3,.row 16 0 6 0 r5.T.length,ru r5.Seed]),(16,.row 53 6 0 (r5.T.map Ba))],33,123,0⟩) (by push_cast [hb4,hb6,hb9])) ?_;refine Cf (Sub.renB (b:=1) (j:=4) (i':=0) rfl rfl rfl (Nat.le_of_ble_eq_true rfl) (Nat.le_of_ble_eq_true rfl) rfl) ?_;exact en (by push_cast [hb4,hb6,hb9])
    ·refine VC.skip ?_;cases h
noncomputable def Lc (x7 : Am) (i_41 : Bool) (i_42 : Int) (i_43 : Bool) : Option ((Bool × Int) ⊕ (Bool)):=
  cond i_43 (
  po (idx x7.E i_42) fun x12=>
  some (Sum.inl ((decide ((x12.V.length : Int) ≤ 6)),(IntKind.i64.wrap (i_42 + 1))))) (
  some (Sum.inr i_41))
noncomputable def Ie (x7 : Am) (i_41 : Bool) (i_42 : Int) : Option ((Bool × Int) ⊕ (Bool)):=
  po (
  cond (decide (i_42 < (x7.E.length : Int))) (
  some i_41) (
  some false)) (fun x=>Lc x7 i_41 i_42 x)
noncomputable def Kq (i_16 : Int) (i_24 : Bool) : Option ((Bool × Int) ⊕ (Bool)):=
  some (Sum.inl (i_24,(IntKind.i64.wrap (i_16 + 1))))
noncomputable def Kx (a0 : (List Am)) (i_15 : Bool) (i_16 : Int) (i_17 : Bool) : Option ((Bool × Int) ⊕ (Bool)):=
  cond i_17 (
  po (
  po (idx a0 i_16) fun x7=>
  lpU (fun x=>Ie x7 x.1 x.2) ((decide ((x7.E.length : Int) ≤ 20)),0)) (fun x=>Kq i_16 x)) (
  some (Sum.inr i_15))
noncomputable def Hx (a0 : (List Am)) (i_15 : Bool) (i_16 : Int) : Option ((Bool × Int) ⊕ (Bool)):=
  po (
  cond (decide (i_16 < (a0.length : Int))) (
  some i_15) (
  some false)) (fun x=>Kx a0 i_15 i_16 x)
noncomputable def Lg (i_39 : Bool) : Option (Bool):=
  some i_39
noncomputable def Kh (a0 : (List Am)) : Option (Bool):=
  po (
  lpU (fun x=>Hx a0 x.1 x.2) ((decide ((a0.length : Int) ≤ 6)),0)) (fun x=>Lg x)
theorem Wi {a0 : (List Am)} {r : Bool} (h : Kh a0 = some r) : Ctr prog 13 [.sl false (a0.map Ba)] [] (rb r) []:=by
 unfold Kh at h;refine Ctr.ofW Bb func13 rfl call13 0 _ ntmps13 [.tmp 2] rfl rfl rfl (fun B=>?_);refine vs [0] fun _ k=>?_;push_cast;apply k;clear k;refine vs [0,3] fun _ k=>?_;push_cast;apply k;clear k;refine vj h (fun x=>⟨[(3,rb x)],[],69,50,0⟩) (fun v1 h hk1=>?_) ?_
 ·refine vs [0,3,4] fun _ k=>?_;push_cast;apply k;clear k;refine VC.block ?_;refine VC.loopP h (fun x=>⟨[(0,.sl false (a0.map Ba)),(3,rb x.1),(4,ri x.2)],[],62,50,0⟩) ?_ ?_
  ·exact sl (by push_cast)
  rintro ⟨i_15,i_16⟩ b2 (h : Hx a0 i_15 i_16 = some b2) hf2;(try push_cast);unfold Hx at h;refine VC.seq ?_;refine vj h (fun x=>⟨[(0,.sl false (a0.map Ba)),(3,rb i_15),(4,ri i_16),(15,rb x)],[],69,50,0⟩) (fun v3 h hk3=>?_) ?_
  ·rcases bt (decide (i_16 < (a0.length : Int))) with hb4 | hb4
   ·replace h:=Ao hb4 h;refine vlG [some 9,some 10,some 11,some 12,some 13,some 14,some 15] fun _ k=>?_;push_cast [hb4];(repeat refine ao ?_);apply k;clear k;refine ar h hk3 ?_;exact sl (by push_cast [hb4])
   ·replace h:=Av hb4 h;refine vlG [some 9,some 10,some 11,some 12,some 13,some 14,some 15] fun _ k=>?_;push_cast [hb4];(repeat refine ao ?_);apply k;clear k;refine ar h hk3 ?_;exact sl (by push_cast [hb4])
  ·rintro i_17 (h : Kx a0 i_15 i_16 i_17 = some b2);(try push_cast);unfold Kx at h;refine vc h (fun hb5 h=>?_) (fun hb5 h=>?_)
   ·refine VC.skip ?_;refine vj h (fun x=>⟨[(0,.sl false (a0.map Ba)),(3,rb x),(4,ri i_16)],[],115,50,0⟩) (fun v6 h hk6=>?_) ?_
    ·refine VC.block ?_;obtain ⟨x7,hx7,h⟩:=Aa h;replace hx7:=Bh hx7;refine vs [0,3,4] fun _ k=>?_;push_cast [hx7];(repeat refine ao ?_);apply k;clear k;refine vs [0,3,4,5] fun _ k=>?_;push_cast;apply k;clear k;refine VC.block ?_;refine VC.loopP h (fun x=>⟨[(0,.sl false (a0.map Ba)),(3,rb x.1),(4,ri i_16),(5,ri x.2)],[],104,50,0⟩) ?_ ?_
     ·exact sl (by push_cast [hb5])
     rintro ⟨i_41,i_42⟩ b8 (h : Ie x7 i_41 i_42 = some b8) hf8;(try push_cast);unfold Ie at h;refine VC.seq ?_;refine vj h (fun x=>⟨[(0,.sl false (a0.map Ba)),(3,rb i_41),(4,ri i_16),(5,ri i_42),(35,rb x)],[],115,50,0⟩) (fun v9 h hk9=>?_) ?_
     ·rcases bt (decide (i_42 < (x7.E.length : Int))) with hb10 | hb10
      ·replace h:=Ao hb10 h;refine vlG [some 25,some 26,some 27,some 28,some 29,some 30,some 31,some 32,some 33,some 34,some 35] fun _ k=>?_;refine Af 8 fun _ l=>?_;push_cast [hb10,hx7];(repeat refine ao ?_);apply l;clear l;simp only [List.drop_succ_cons,List.drop_zero];push_cast [hb10,hx7];(repeat refine ao ?_);apply k;clear k;refine ar h hk9 ?_;exact sl (by push_cast [hb5,hb10])
      ·replace h:=Av hb10 h;refine vlG [some 25,some 26,some 27,some 28,some 29,some 30,some 31,some 32,some 33,some 34,some 35] fun _ k=>?_;refine Af 8 fun _ l=>?_;push_cast [hb10,hx7];(repeat refine ao ?_);apply l;clear l;simp only [List.drop_succ_cons,List.drop_zero];push_cast [hb10,hx7];(repeat refine ao ?_);apply k;clear k;refine ar h hk9 ?_;exact sl (by push_cast [hb5,hb10])
     ·rintro i_43 (h : Lc x7 i_41 i_42 i_43 = some b8);(try push_cast);unfold Lc at h;refine vc h (fun hb11 h=>?_) (fun hb11 h=>?_)
      ·refine VC.skip ?_;refine VC.seq ?_;refine VC.block ?_;obtain ⟨x12,hx12,h⟩:=Aa h;replace hx12:=Bh hx12;refine vl fun _ k=>?_;refine Af 8 fun _ l=>?_;push_cast [hx12,hx7];(repeat refine ao ?_);apply l;clear l;simp only [List.drop_succ_cons,List.drop_zero];push_cast [hx12,hx7];(repeat refine ao ?_);apply k;clear k;refine vl fun _ k=>?_;push_cast;apply k;clear k;refine bk h ?_;exact sl (by push_cast [hb5,hb11])
      ·refine VC.exit ?_;replace h:=ol h hf8;refine ar h hk6 ?_;exact sl (by push_cast [hb5,hb11])
    ·rintro i_24 (h : Kq i_16 i_24 = some b2);(try push_cast);unfold Kq at h;refine vl fun _ k=>?_;push_cast;apply k;clear k;refine bk h ?_;exact sl (by push_cast [hb5])
   ·refine VC.exit ?_;replace h:=ol h hf2;refine ar h hk1 ?_;exact sl (by push_cast [hb5])
 ·rintro i_39 (h : Lg i_39 = some r);(try push_cast);unfold Lg at h;refine vs [2] fun _ k=>?_;push_cast;apply k;clear k;refine VC.ret ?_;replace h:=Option.some.inj h;subst h;exact en (by push_cast)
theorem lp_inv {σ ρ : Type} {step : σ → Option (σ ⊕ ρ)} (I : σ → Prop) (μ : σ → Nat) (Q : ρ → Prop)
    (hs : ∀ s,I s → (∃ s',step s = some (.inl s') ∧ I s' ∧ μ s' < μ s) ∨ (∃ r,step s = some (.inr r) ∧ Q r)) : ∀ (s0 : σ),I s0 → ∃ r,lpU step s0 = some r ∧ Q r:=by
  have key : ∀ (n : Nat) (s0 : σ),μ s0 = n → I s0 → ∃ r,lpU step s0 = some r ∧ Q r:=by
    intro n
    induction n using Nat.strongRecOn with
    | _ n ih=>
      intro s0 hn h0
      rcases hs s0 h0 with ⟨s',h1,h2,h3⟩ | ⟨r,h1,h2⟩
      · rw [lpU_inl h1]
        exact ih (μ s') (by omega) s' rfl h2
      · exact ⟨r,lpU_inr h1,h2⟩
  exact fun s0 h0=>key _ s0 rfl h0
theorem w64 {n : Nat} (h : n < 9223372036854775807) : IntKind.i64.wrap ((n : Int) + 1) = ((n + 1 : Nat) : Int):=by
  rw [wrap_i64 (by omega) (by omega)]
  omega
structure FewT (t : Am) : Prop where
  e : t.E.length ≤ 20
  v : ∀ e ∈ t.E,e.V.length ≤ 6
structure FewL (l : List Am) : Prop where
  len : l.length ≤ 6
  t : ∀ t ∈ l,FewT t
theorem few1 (t : Am) : ∃ b,lpU (fun x=>Ie t x.1 x.2) ((decide ((t.E.length : Int) ≤ 20)),0) = some b ∧ (b = true → FewT t):=by
  refine lp_inv (fun s=>(s.1 = true → t.E.length ≤ 20) ∧ ∃ n : Nat,s.2 = (n : Int) ∧ n ≤ t.E.length ∧ (s.1 = true → ∀ j e,j < n → t.E[j]? = some e → e.V.length ≤ 6)) (fun s=>((t.E.length : Int) - s.2).toNat) (fun b=>b = true → FewT t) ?_ _ ?_
  · rintro ⟨b,i⟩ ⟨h1,n,rfl,h2,h3⟩
    simp only at h1 h3
    simp only [Ie]
    by_cases hlt : n < t.E.length
    · have hd : decide ((n : Int) < (t.E.length : Int)) = true:=by simp; omega
      rw [hd]
      simp only [cond_true,po_of,Lc]
      cases b with
      | true=>
        left
        simp only [cond_true,idx_nat,List.getElem?_eq_getElem hlt,po_of]
        have hn:=h1 rfl
        refine ⟨_,rfl,⟨fun _=>hn,n + 1,w64 (by omega),by omega,fun hb j e hj he=>?_⟩,by simp only [w64 (show n < 9223372036854775807 by omega)]; omega⟩
        rcases Nat.lt_or_ge j n with hjn | hjn
        · exact h3 rfl j e hjn he
        · have : j = n:=by omega
          subst this
          rw [List.getElem?_eq_getElem hlt] at he
          injection he with he
          subst he
          simp at hb
          omega
      | false=>
        right
        exact ⟨false,rfl,fun h=>by cases h⟩
    · have hd : decide ((n : Int) < (t.E.length : Int)) = false:=by simp; omega
      rw [hd]
      right
      refine ⟨b,rfl,fun hb=>⟨h1 hb,fun e he=>?_⟩⟩
      obtain ⟨j,hj⟩:=List.mem_iff_getElem?.1 he
      exact h3 hb j e (by have:=get_lt hj; omega) hj
  · exact ⟨fun h=>by simp at h; omega,0,rfl,Nat.zero_le _,fun _ j e hj=>by omega⟩
theorem few_tells (l : List Am) : ∃ b,Kh l = some b ∧ (b = true → FewL l):=by
  have key : ∃ b,lpU (fun x=>Hx l x.1 x.2) ((decide ((l.length : Int) ≤ 6)),0) = some b ∧ (b = true → FewL l):=by
    refine lp_inv (fun s=>(s.1 = true → l.length ≤ 6) ∧ ∃ n : Nat,s.2 = (n : Int) ∧ n ≤ l.length ∧ (s.1 = true → ∀ j t,j < n → l[j]? = some t → FewT t)) (fun s=>((l.length : Int) - s.2).toNat) (fun b=>b = true → FewL l) ?_ _ ?_
    · rintro ⟨b,i⟩ ⟨h1,n,rfl,h2,h3⟩
      simp only at h1 h3
      simp only [Hx]
      by_cases hlt : n < l.length
      · have hd : decide ((n : Int) < (l.length : Int)) = true:=by simp; omega
        rw [hd]
        simp only [cond_true,po_of,Kx]
        cases b with
        | true=>
          left
          obtain ⟨b2,e1,e2⟩:=few1 l[n]
          simp only [cond_true,idx_nat,List.getElem?_eq_getElem hlt,po_of,e1,Kq]
          have hn:=h1 rfl
          refine ⟨_,rfl,⟨fun _=>hn,n + 1,w64 (by omega),by omega,fun hb j t hj ht=>?_⟩,by simp only [w64 (show n < 9223372036854775807 by omega)]; omega⟩
          rcases Nat.lt_or_ge j n with hjn | hjn
          · exact h3 rfl j t hjn ht
          · have : j = n:=by omega
            subst this
            rw [List.getElem?_eq_getElem hlt] at ht
            injection ht with ht
            subst ht
            exact e2 hb
        | false=>
          right
          exact ⟨false,rfl,fun h=>by cases h⟩
      · have hd : decide ((n : Int) < (l.length : Int)) = false:=by simp; omega
        rw [hd]
        right
        refine ⟨b,rfl,fun hb=>⟨h1 hb,fun t ht=>?_⟩⟩
        obtain ⟨j,hj⟩:=List.mem_iff_getElem?.1 ht
        exact h3 hb j t (by have:=get_lt hj; omega) hj
    · exact ⟨fun h=>by simp at h; omega,0,rfl,Nat.zero_le _,fun _ j e hj=>by omega⟩
  obtain ⟨b,h1,h2⟩:=key
  exact ⟨b,by simp only [Kh,h1,po_of,Lg],h2⟩
def argsN (n : Int) : Int:=if n = 0 then 3 else if n = 1 then 4 else if n = 2 then 2 else if n = 3 then 2 else if n = 4 then 0 else if n = 5 then 2 else -1
theorem args_is (n : Int) : Li n = some (argsN n):=by
  unfold Li argsN
  by_cases h0 : n = 0
  · subst h0; rfl
  by_cases h1 : n = 1
  · subst h1; rfl
  by_cases h2 : n = 2
  · subst h2; rfl
  by_cases h3 : n = 3
  · subst h3; rfl
  by_cases h4 : n = 4
  · subst h4; rfl
  by_cases h5 : n = 5
  · subst h5; rfl
  have ne : ∀ k : Int,¬ n = k → (n == k) = false:=fun k h=>by simpa using h
  simp only [ne _ h0,ne _ h1,ne _ h2,ne _ h3,ne _ h4,ne _ h5,if_neg h0,if_neg h1,if_neg h2,if_neg h3,if_neg h4,if_neg h5,cond_false,po_of,Qa]
theorem w64v (x : UInt32) : IntKind.u64.wrap (x.toNat : Int) = (x.toNat : Int):=by
  have:=x.toNat_lt
  rw [IntKind.wrap_u64]
  omega
structure Fits (l : List Am) : Prop where
  nil : l = []
theorem own_is {e : Be} (h : Fits e.T) : Pj e = some e:=by
  obtain ⟨c,t,s⟩:=e
  have ht : t = []:=h.nil
  subst ht
  unfold Pj
  rw [show De (⟨c,[],s⟩ : Be).T = some [] from rfl,po_of,lpU_inr (r:=⟨c,[],s⟩) (by rfl)]
  rfl
theorem call_nil {n : Int} {e : Be} {a : List UInt32} (hF : Fits e.T) : ∃ e' v x,Lk n e a = some (e',v,x) ∧ (x = 0 → e'.Ctx = e.Ctx ∧ e'.T = []):=by
  obtain ⟨c,t,s⟩:=e
  have ht : t = []:=hF.nil
  subst ht
  unfold Lk
  rw [args_is,po_of]
  have key : ∀ b,(b = false → n ≠ 4 → a ≠ []) → ∃ e' v x,Mr n ⟨c,[],s⟩ a b = some (e',v,x) ∧ (x = 0 → e'.Ctx = c ∧ e'.T = []):=by
    intro b hb
    unfold Mr
    cases b with
    | true=>exact ⟨_,_,_,rfl,fun h=>by cases h⟩
    | false=>
      simp only [cond_false,own_is (e:=⟨c,[],s⟩) hF,po_of]
      by_cases h4 : n = 4
      · have d : (n == 4) = true:=by simpa using h4
        rw [d]
        exact ⟨_,_,_,rfl,fun _=>⟨rfl,rfl⟩⟩
      · have d : (n == 4) = false:=by simpa using h4
        have ha:=hb rfl h4
        cases a with
        | nil=>exact absurd rfl ha
        | cons x a=>
          rw [d]
          simp only [cond_false,List.getElem?_cons_zero,po_of]
          have hx : 0 ≤ IntKind.u64.wrap (x.toNat : Int):=by
            rw [w64v]
            omega
          have d2 : decide (IntKind.u64.wrap (x.toNat : Int) ≥ IntKind.u64.wrap ((([] : List Am).length : Nat) : Int)) = true:=by
            have e0 : IntKind.u64.wrap ((([] : List Am).length : Nat) : Int) = 0:=by decide
            rw [e0]
            exact decide_eq_true hx
          rw [d2]
          exact ⟨_,_,_,rfl,fun h=>by cases h⟩
  have hlen : ∀ b,b = (argsN n != (a.length : Int)) → b = false → n ≠ 4 → argsN n ≠ -1 → a ≠ []:=by
    rintro b rfl hb h4 h1 rfl
    have e : argsN n = 0:=by simpa using hb
    unfold argsN at e h1
    repeat' split at e
    all_goals first | omega | contradiction
  by_cases h1 : argsN n = -1
  · have d : (argsN n == -1) = true:=by simpa using h1
    rw [d]
    exact key true (fun h=>by cases h)
  · have d : (argsN n == -1) = false:=by simpa using h1
    rw [d]
    simp only [cond_false,po_of]
    exact key _ (fun hb h4=>hlen _ rfl hb h4 h1)
theorem at_A8_inst_rule (a : A8 Cj) {n : Nat} (hn : n < 8) : ((Ow Gi a).drop (n * 5)).take 5 = Gi (a.get n):=Jg0 (f:=Gi) (k:=5) (fun _=>rfl) a hn
attribute [push_cast] at_A8_inst_rule
theorem len_A8_inst_rule (a : A8 Cj) : (Ow Gi a).length = 40:=rfl
attribute [push_cast] len_A8_inst_rule
noncomputable def Ri (i_1 : Bool) : Option (Bool):=
  some i_1
noncomputable def Nr (a0 : Int) (a1 : Int) : Option (Bool):=
  po (
  cond (decide (a0 ≥ 0)) (
  some (decide (a0 < a1))) (
  some false)) (fun x=>Ri x)
theorem Cs {a0 : Int} {a1 : Int} {r : Bool} (h : Nr a0 a1 = some r) : Ctr prog 152 [ri a0,ri a1] [] (rb r) []:=by
 unfold Nr at h;refine Ctr.ofW Bb func152 rfl call152 0 _ ntmps152 [.tmp 4] rfl rfl rfl (fun B=>?_);refine vs [0,1] fun _ k=>?_;push_cast;apply k;clear k;refine vj h (fun x=>⟨[(4,rb x)],[],9,12,0⟩) (fun v1 h hk1=>?_) ?_
 ·rcases bt (decide (a0 ≥ 0)) with hb2 | hb2
  ·replace h:=Ao hb2 h;refine vlG [some 5,some 6,some 7,some 8,some 9,some 10,some 11,some 4] fun _ k=>?_;push_cast [hb2];(repeat refine ao ?_);apply k;clear k;refine ar h hk1 ?_;exact sl (by push_cast [hb2])
  ·replace h:=Av hb2 h;refine vlG [some 5,some 6,some 7,some 8,some 9,some 10,some 11,some 4] fun _ k=>?_;push_cast [hb2];(repeat refine ao ?_);apply k;clear k;refine ar h hk1 ?_;exact sl (by push_cast [hb2])
 ·rintro i_1 (h : Ri i_1 = some r);(try push_cast);unfold Ri at h;refine VC.ret ?_;replace h:=Option.some.inj h;subst h;exact en (by push_cast)
noncomputable def Ve : Option ((A8 Cj)):=
  some (A8.mk (Cj.mk 11 true true 0 true) (Cj.mk 5 true true 65535 true) (Cj.mk 1 true true 0 true) (Cj.mk 1 true true 0 true) (Cj.mk 1 true true 0 true) (Cj.mk 1 false false 0 true) (Cj.mk 1 false false 0 true) (Cj.mk 1 false false 0 false))
theorem Ga0 {r : (A8 Cj)} (h : Ve = some r) : Ctr prog 153 [] [] (.agg ((Ow Gi) r)) []:=by
 unfold Ve at h;refine Ctr.ofW Bb func153 rfl call153 0 _ ntmps153 [.cell 0 247] rfl rfl rfl (fun B=>?_);refine vs [0] fun _ k=>?_;push_cast (maxSteps:=9000000) [-Ay];apply k;clear k;refine vs [0] fun _ k=>?_;push_cast (maxSteps:=9000000) [-Ay];apply k;clear k;refine VC.ret ?_;replace h:=Option.some.inj h;subst h;exact en (by push_cast (maxSteps:=9000000) [-Ay,Ow])
noncomputable def Ea (a0 : Ap) (r8 : (A8 Cj)) (i_2 : Bool) : Option (Cj):=
  cond i_2 (
  some (Cj.mk ((r8.get a0.Op.toNat).fns) false false ((r8.get a0.Op.toNat).off) false)) (
  some (r8.get a0.Op.toNat))
noncomputable def Sd (i_5 : Bool) : Option (Bool):=
  some i_5
noncomputable def Ry (i_6 : Bool) : Option (Bool):=
  some i_6
noncomputable def Me (a0 : Ap) (i_4 : Bool) : Option (Bool):=
  cond a0.Reg (
  po (
  cond i_4 (
  some ((a0.Imm.toNat : Int) == 0)) (
  some false)) (fun x=>Sd x)) (
  po (
  cond i_4 (
  some (a0.Src == 0)) (
  some false)) (fun x=>Ry x))
noncomputable def Pa (a0 : Ap) (s_3 : Cj) : Option (Bool):=
  po (
  po (Nr a0.Fn s_3.fns) fun r15=>
  cond r15 (
  po (Nr a0.Off (IntKind.i64.wrap (s_3.off + 1))) fun r17=>
  cond r17 (
  cond s_3.dst (
  cond s_3.word (
  cond s_3.imm (
  some true) (
  some ((a0.Imm.toNat : Int) == 0))) (
  cond a0.Reg (
  some false) (
  cond s_3.imm (
  some true) (
  some ((a0.Imm.toNat : Int) == 0))))) (
  cond (a0.Dst == 0) (
  cond s_3.word (
  cond s_3.imm (
  some true) (
  some ((a0.Imm.toNat : Int) == 0))) (
  cond a0.Reg (
  some false) (
  cond s_3.imm (
  some true) (
  some ((a0.Imm.toNat : Int) == 0))))) (
  some false))) (
  some false)) (
  some false)) (fun x=>Me a0 x)
noncomputable def Qh (a0 : Ap) (i_1 : Bool) : Option (Bool):=
  cond i_1 (
  some false) (
  po (Ve) fun r8=>
  pg (0 ≤ a0.Op ∧ a0.Op < 8) <|
  po (
  po (
  cond (a0.Op == 1) (
  some (a0.Fn == 0)) (
  some false)) (fun x=>Ea a0 r8 x)) (fun x=>Pa a0 x))
noncomputable def Kb (a0 : Ap) : Option (Bool):=
  po (
  po (Nr a0.Op 8) fun r2=>
  cond r2 (
  po (Nr a0.Dst 8) fun r4=>
  cond r4 (
  po (Nr a0.Src 8) fun r6=>
  some (!r6)) (
  some true)) (
  some true)) (fun x=>Qh a0 x)
theorem Ac0 {a0 : Ap} {r : Bool} (h : Kb a0 = some r) : Ctr prog 115 [.agg (Aw a0)] [] (rb r) []:=by
 unfold Kb at h;refine Ctr.ofW Bb func115 rfl call115 0 _ ntmps115 [.tmp 2] rfl rfl rfl (fun B=>?_);refine vs [1] fun _ k=>?_;push_cast;apply k;clear k;refine VC.seq ?_;refine vj h (fun x=>⟨[(1,.ref 0 0),(20,rb x)],[(0,.box 37 (Aw a0))],18,90,0⟩) (fun v1 h hk1=>?_) ?_
 ·obtain ⟨r2,hr2,h⟩:=Aa h;rcases bt r2 with hb3 | hb3
  ·replace h:=Ao hb3 h;obtain ⟨r4,hr4,h⟩:=Aa h;rcases bt r4 with hb5 | hb5
   ·replace h:=Ao hb5 h;obtain ⟨r6,hr6,h⟩:=Aa h;refine vlG [some 5,some 6,some 7,some 8,some 9,some 10,some 11,some 12,some 13,some 14,some 15,some 16,some 17,some 18,some 19,some 20] fun _ k=>?_;refine Af 8 fun _ l=>?_;push_cast [hb3,hb5];(repeat refine ao ?_);refine cp (Cs hr2) ?_;push_cast [hb3,hb5];(repeat refine ao ?_);refine cp (Cs hr4) ?_;push_cast [hb3,hb5];(repeat refine ao ?_);apply l;clear l;simp only [List.drop_succ_cons,List.drop_zero];push_cast [hb3,hb5];(repeat refine ao ?_);refine cp (Cs hr6) ?_;push_cast [hb3,hb5];(repeat refine ao ?_);apply k;clear k;refine ar h hk1 ?_;exact sl (by push_cast [hb3,hb5])
   ·replace h:=Av hb5 h;refine vlG [some 5,some 6,some 7,some 8,some 9,some 10,some 11,some 12,some 13,some 14,some 15,some 16,some 17,some 18,some 19,some 20] fun _ k=>?_;refine Af 8 fun _ l=>?_;push_cast [hb3,hb5];(repeat refine ao ?_);refine cp (Cs hr2) ?_;push_cast [hb3,hb5];(repeat refine ao ?_);refine cp (Cs hr4) ?_;push_cast [hb3,hb5];(repeat refine ao ?_);apply l;clear l;simp only [List.drop_succ_cons,List.drop_zero];push_cast [hb3,hb5];(repeat refine ao ?_);apply k;clear k;refine ar h hk1 ?_;exact sl (by push_cast [hb3,hb5])
  ·replace h:=Av hb3 h;refine vlG [some 5,some 6,some 7,some 8,some 9,some 10,some 11,some 12,some 13,some 14,some 15,some 16,some 17,some 18,some 19,some 20] fun _ k=>?_;refine Af 8 fun _ l=>?_;push_cast [hb3];(repeat refine ao ?_);refine cp (Cs hr2) ?_;push_cast [hb3];(repeat refine ao ?_);apply l;clear l;simp only [List.drop_succ_cons,List.drop_zero];push_cast [hb3];(repeat refine ao ?_);apply k;clear k;refine ar h hk1 ?_;exact sl (by push_cast [hb3])
 ·rintro i_1 (h : Qh a0 i_1 = some r);(try push_cast);unfold Qh at h;refine vc h (fun hb7 h=>?_) (fun hb7 h=>?_)
  ·refine vs [2] fun _ k=>?_;push_cast;apply k;clear k;refine VC.ret ?_;replace h:=Option.some.inj h;subst h;exact en (by push_cast [hb7])
  ·refine VC.skip ?_;obtain ⟨r8,hr8,h⟩:=Aa h;obtain ⟨hg9,h⟩:=Bs h;have hg9n : a0.Op.toNat < 8:=by omega
   refine vsD [some 21,some 22,some 23,some 24,some 3,none] [1,3] fun _ k=>?_;push_cast [hg9,hg9n];(repeat refine ao ?_);refine cpD (Ga0 hr8) ?_;push_cast [hg9,hg9n];(repeat refine ao ?_);refine ⟨rfl,k _ ?_⟩;clear k;refine vj h (fun x=>⟨[(1,.ref 0 0),(3,.ref 22 0)],[(0,.box 37 (Aw a0)),(22,.box 246 (Gi x))],38,90,0⟩) (fun v10 h hk10=>?_) ?_
   ·refine vj h (fun x=>⟨[(1,.ref 0 0),(3,.ref 22 0),(32,rb x)],[(0,.box 37 (Aw a0)),(22,.box 246 (Gi (r8.get a0.Op.toNat)))],32,90,0⟩) (fun v11 h hk11=>?_) ?_
    ·rcases bt (a0.Op == 1) with hb12 | hb12
     ·replace h:=Ao hb12 h;refine vlG [some 25,some 26,some 27,some 28,some 29,some 30,some 31,some 32] fun _ k=>?_;push_cast [hb12];(repeat refine ao ?_);apply k;clear k;refine ar h hk11 ?_;exact sl (by push_cast [hb7,hb12])
     ·replace h:=Av hb12 h;refine vlG [some 25,some 26,some 27,some 28,some 29,some 30,some 31,some 32] fun _ k=>?_;push_cast [hb12];(repeat refine ao ?_);apply k;clear k;refine ar h hk11 ?_;exact sl (by push_cast [hb7,hb12])
    ·rintro i_2 (h : Ea a0 r8 i_2 = some v10);(try push_cast);unfold Ea at h;refine vc h (fun hb13 h=>?_) (fun hb13 h=>?_)
     ·refine vl fun _ k=>?_;push_cast;apply k;clear k;refine ar h hk10 ?_;exact sl (by push_cast [hb7,hb13])
     ·refine VC.skip ?_;refine ar h hk10 ?_;exact sl (by push_cast [hb7,hb13])
   ·rintro s_3 (h : Pa a0 s_3 = some r);(try push_cast);unfold Pa at h;refine vj h (fun x=>⟨[(1,.ref 0 0),(4,rb x)],[(0,.box 37 (Aw a0))],79,90,0⟩) (fun v14 h hk14=>?_) ?_
    ·obtain ⟨r15,hr15,h⟩:=Aa h;rcases bt r15 with hb16 | hb16
     ·replace h:=Ao hb16 h;obtain ⟨r17,hr17,h⟩:=Aa h;rcases bt r17 with hb18 | hb18
      ·replace h:=Ao hb18 h;rcases bt s_3.dst with hb19 | hb19
       ·replace h:=Ao hb19 h;rcases bt s_3.word with hb20 | hb20
        ·replace h:=Ao hb20 h;rcases bt s_3.imm with hb21 | hb21
         ·replace h:=Ao hb21 h;refine vlG [some 36,some 37,some 38,some 39,some 40,some 41,some 42,some 43,some 44,some 45,some 46,some 47,some 48,some 49,some 50,some 51,some 52,some 53,some 54,some 55,some 56,some 57,some 58,some 59,some 60,some 61,some 62,some 63,some 64,some 65,some 66,some 67,some 68,some 69,some 70,some 71,some 72,some 73,some 74,some 75,some 4] fun _ k=>?_;refine Af 8 fun _ l=>?_;push_cast [hb16,hb18,hb19,hb20,hb21];(repeat refine ao ?_);refine cp (Cs hr15) ?_;push_cast [hb16,hb18,hb19,hb20,hb21];(repeat refine ao ?_);apply l;clear l;simp only [List.drop_succ_cons,List.drop_zero];refine Af 8 fun _ l=>?_;push_cast [hb16,hb18,hb19,hb20,hb21];(repeat refine ao ?_);refine cp (Cs hr17) ?_;push_cast [hb16,hb18,hb19,hb20,hb21];(repeat refine ao ?_);apply l;clear l;simp only [List.drop_succ_cons,List.drop_zero];refine Af 8 fun _ l=>?_;push_cast [hb16,hb18,hb19,hb20,hb21];(repeat refine ao ?_);apply l;clear l;simp only [List.drop_succ_cons,List.drop_zero];refine Af 8 fun _ l=>?_;push_cast [hb16,hb18,hb19,hb20,hb21];(repeat refine ao ?_);apply l;clear l;simp only [List.drop_succ_cons,List.drop_zero];push_cast [hb16,hb18,hb19,hb20,hb21];(repeat refine ao ?_);apply k;clear k;refine ar h hk14 ?_;exact sl (by push_cast [hb7,hb16,hb18,hb19,hb20,hb21])
         ·replace h:=Av hb21 h;refine vlG [some 36,some 37,some 38,some 39,some 40,some 41,some 42,some 43,some 44,some 45,some 46,some 47,some 48,some 49,some 50,some 51,some 52,some 53,some 54,some 55,some 56,some 57,some 58,some 59,some 60,some 61,some 62,some 63,some 64,some 65,some 66,some 67,some 68,some 69,some 70,some 71,some 72,some 73,some 74,some 75,some 4] fun _ k=>?_;refine Af 8 fun _ l=>?_;push_cast [hb16,hb18,hb19,hb20,hb21];(repeat refine ao ?_);refine cp (Cs hr15) ?_;push_cast [hb16,hb18,hb19,hb20,hb21];(repeat refine ao ?_);apply l;clear l;simp only [List.drop_succ_cons,List.drop_zero];refine Af 8 fun _ l=>?_;push_cast [hb16,hb18,hb19,hb20,hb21];(repeat refine ao ?_);refine cp (Cs hr17) ?_;push_cast [hb16,hb18,hb19,hb20,hb21];(repeat refine ao ?_);apply l;clear l;simp only [List.drop_succ_cons,List.drop_zero];refine Af 8 fun _ l=>?_;push_cast [hb16,hb18,hb19,hb20,hb21];(repeat refine ao ?_);apply l;clear l;simp only [List.drop_succ_cons,List.drop_zero];refine Af 8 fun _ l=>?_;push_cast [hb16,hb18,hb19,hb20,hb21];(repeat refine ao ?_);apply l;clear l;simp only [List.drop_succ_cons,List.drop_zero];push_cast [hb16,hb18,hb19,hb20,hb21];(repeat refine ao ?_);apply k;clear k;refine ar h hk14 ?_;exact sl (by push_cast [hb7,hb16,hb18,hb19,hb20,hb21])
        ·replace h:=Av hb20 h;rcases bt a0.Reg with hb22 | hb22
         ·replace h:=Ao hb22 h;refine vlG [some 36,some 37,some 38,some 39,some 40,some 41,some 42,some 43,some 44,some 45,some 46,some 47,some 48,some 49,some 50,some 51,some 52,some 53,some 54,some 55,some 56,some 57,some 58,some 59,some 60,some 61,some 62,some 63,some 64,some 65,some 66,some 67,some 68,some 69,some 70,some 71,some 72,some 73,some 74,some 75,some 4] fun _ k=>?_;refine Af 8 fun _ l=>?_;push_cast [hb16,hb18,hb19,hb20,hb22];(repeat refine ao ?_);refine cp (Cs hr15) ?_;push_cast [hb16,hb18,hb19,hb20,hb22];(repeat refine ao ?_);apply l;clear l;simp only [List.drop_succ_cons,List.drop_zero];refine Af 8 fun _ l=>?_;push_cast [hb16,hb18,hb19,hb20,hb22];(repeat refine ao ?_);refine cp (Cs hr17) ?_;push_cast [hb16,hb18,hb19,hb20,hb22];(repeat refine ao ?_);apply l;clear l;simp only [List.drop_succ_cons,List.drop_zero];refine Af 8 fun _ l=>?_;push_cast [hb16,hb18,hb19,hb20,hb22];(repeat refine ao ?_);apply l;clear l;simp only [List.drop_succ_cons,List.drop_zero];refine Af 8 fun _ l=>?_;push_cast [hb16,hb18,hb19,hb20,hb22];(repeat refine ao ?_);apply l;clear l;simp only [List.drop_succ_cons,List.drop_zero];push_cast [hb16,hb18,hb19,hb20,hb22];(repeat refine ao ?_);apply k;clear k;refine ar h hk14 ?_;exact sl (by push_cast [hb7,hb16,hb18,hb19,hb20,hb22])
         ·replace h:=Av hb22 h;rcases bt s_3.imm with hb23 | hb23
          ·replace h:=Ao hb23 h;refine vlG [some 36,some 37,some 38,some 39,some 40,some 41,some 42,some 43,some 44,some 45,some 46,some 47,some 48,some 49,some 50,some 51,some 52,some 53,some 54,some 55,some 56,some 57,some 58,some 59,some 60,some 61,some 62,some 63,some 64,some 65,some 66,some 67,some 68,some 69,some 70,some 71,some 72,some 73,some 74,some 75,some 4] fun _ k=>?_;refine Af 8 fun _ l=>?_;push_cast [hb16,hb18,hb19,hb20,hb22,hb23];(repeat refine ao ?_);refine cp (Cs hr15) ?_;push_cast [hb16,hb18,hb19,hb20,hb22,hb23];(repeat refine ao ?_);apply l;clear l;simp only [List.drop_succ_cons,List.drop_zero];refine Af 8 fun _ l=>?_;push_cast [hb16,hb18,hb19,hb20,hb22,hb23];(repeat refine ao ?_);refine cp (Cs hr17) ?_;push_cast [hb16,hb18,hb19,hb20,hb22,hb23];(repeat refine ao ?_);apply l;clear l;simp only [List.drop_succ_cons,List.drop_zero];refine Af 8 fun _ l=>?_;push_cast [hb16,hb18,hb19,hb20,hb22,hb23];(repeat refine ao ?_);apply l;clear l;simp only [List.drop_succ_cons,List.drop_zero];refine Af 8 fun _ l=>?_;push_cast [hb16,hb18,hb19,hb20,hb22,hb23];(repeat refine ao ?_);apply l;clear l;simp only [List.drop_succ_cons,List.drop_zero];push_cast [hb16,hb18,hb19,hb20,hb22,hb23];(repeat refine ao ?_);apply k;clear k;refine ar h hk14 ?_;exact sl (by push_cast [hb7,hb16,hb18,hb19,hb20,hb22,hb23])
          ·replace h:=Av hb23 h;refine vlG [some 36,some 37,some 38,some 39,some 40,some 41,some 42,some 43,some 44,some 45,some 46,some 47,some 48,some 49,some 50,some 51,some 52,some 53,some 54,some 55,some 56,some 57,some 58,some 59,some 60,some 61,some 62,some 63,some 64,some 65,some 66,some 67,some 68,some 69,some 70,some 71,some 72,some 73,some 74,some 75,some 4] fun _ k=>?_;refine Af 8 fun _ l=>?_;push_cast [hb16,hb18,hb19,hb20,hb22,hb23];(repeat refine ao ?_);refine cp (Cs hr15) ?_;push_cast [hb16,hb18,hb19,hb20,hb22,hb23];(repeat refine ao ?_);apply l;clear l;simp only [List.drop_succ_cons,List.drop_zero];refine Af 8 fun _ l=>?_;push_cast [hb16,hb18,hb19,hb20,hb22,hb23];(repeat refine ao ?_);refine cp (Cs hr17) ?_;push_cast [hb16,hb18,hb19,hb20,hb22,hb23];(repeat refine ao ?_);apply l;clear l;simp only [List.drop_succ_cons,List.drop_zero];refine Af 8 fun _ l=>?_;push_cast [hb16,hb18,hb19,hb20,hb22,hb23];(repeat refine ao ?_);apply l;clear l;simp only [List.drop_succ_cons,List.drop_zero];refine Af 8 fun _ l=>?_;push_cast [hb16,hb18,hb19,hb20,hb22,hb23];(repeat refine ao ?_);apply l;clear l;simp only [List.drop_succ_cons,List.drop_zero];push_cast [hb16,hb18,hb19,hb20,hb22,hb23];(repeat refine ao ?_);apply k;clear k;refine ar h hk14 ?_;exact sl (by push_cast [hb7,hb16,hb18,hb19,hb20,hb22,hb23])
       ·replace h:=Av hb19 h;rcases bt (a0.Dst == 0) with hb24 | hb24
        ·replace h:=Ao hb24 h;rcases bt s_3.word with hb25 | hb25
         ·replace h:=Ao hb25 h;rcases bt s_3.imm with hb26 | hb26
          ·replace h:=Ao hb26 h;refine vlG [some 36,some 37,some 38,some 39,some 40,some 41,some 42,some 43,some 44,some 45,some 46,some 47,some 48,some 49,some 50,some 51,some 52,some 53,some 54,some 55,some 56,some 57,some 58,some 59,some 60,some 61,some 62,some 63,some 64,some 65,some 66,some 67,some 68,some 69,some 70,some 71,some 72,some 73,some 74,some 75,some 4] fun _ k=>?_;refine Af 8 fun _ l=>?_;push_cast [hb16,hb18,hb19,hb24,hb25,hb26];(repeat refine ao ?_);refine cp (Cs hr15) ?_;push_cast [hb16,hb18,hb19,hb24,hb25,hb26];(repeat refine ao ?_);apply l;clear l;simp only [List.drop_succ_cons,List.drop_zero];refine Af 8 fun _ l=>?_;push_cast [hb16,hb18,hb19,hb24,hb25,hb26];(repeat refine ao ?_);refine cp (Cs hr17) ?_;push_cast [hb16,hb18,hb19,hb24,hb25,hb26];(repeat refine ao ?_);apply l;clear l;simp only [List.drop_succ_cons,List.drop_zero];refine Af 8 fun _ l=>?_;push_cast [hb16,hb18,hb19,hb24,hb25,hb26];(repeat refine ao ?_);apply l;clear l;simp only [List.drop_succ_cons,List.drop_zero];refine Af 8 fun _ l=>?_;push_cast [hb16,hb18,hb19,hb24,hb25,hb26];(repeat refine ao ?_);apply l;clear l;simp only [List.drop_succ_cons,List.drop_zero];push_cast [hb16,hb18,hb19,hb24,hb25,hb26];(repeat refine ao ?_);apply k;clear k;refine ar h hk14 ?_;exact sl (by push_cast [hb7,hb16,hb18,hb19,hb24,hb25,hb26])
          ·replace h:=Av hb26 h;refine vlG [some 36,some 37,some 38,some 39,some 40,some 41,some 42,some 43,some 44,some 45,some 46,some 47,some 48,some 49,some 50,some 51,some 52,some 53,some 54,some 55,some 56,some 57,some 58,some 59,some 60,some 61,some 62,some 63,some 64,some 65,some 66,some 67,some 68,some 69,some 70,some 71,some 72,some 73,some 74,some 75,some 4] fun _ k=>?_;refine Af 8 fun _ l=>?_;push_cast [hb16,hb18,hb19,hb24,hb25,hb26];(repeat refine ao ?_);refine cp (Cs hr15) ?_;push_cast [hb16,hb18,hb19,hb24,hb25,hb26];(repeat refine ao ?_);apply l;clear l;simp only [List.drop_succ_cons,List.drop_zero];refine Af 8 fun _ l=>?_;push_cast [hb16,hb18,hb19,hb24,hb25,hb26];(repeat refine ao ?_);refine cp (Cs hr17) ?_;push_cast [hb16,hb18,hb19,hb24,hb25,hb26];(repeat refine ao ?_);apply l;clear l;simp only [List.drop_succ_cons,List.drop_zero];refine Af 8 fun _ l=>?_;push_cast [hb16,hb18,hb19,hb24,hb25,hb26];(repeat refine ao ?_);apply l;clear l;simp only [List.drop_succ_cons,List.drop_zero];refine Af 8 fun _ l=>?_;push_cast [hb16,hb18,hb19,hb24,hb25,hb26];(repeat refine ao ?_);apply l;clear l;simp only [List.drop_succ_cons,List.drop_zero];push_cast [hb16,hb18,hb19,hb24,hb25,hb26];(repeat refine ao ?_);apply k;clear k;refine ar h hk14 ?_;exact sl (by push_cast [hb7,hb16,hb18,hb19,hb24,hb25,hb26])
         ·replace h:=Av hb25 h;rcases bt a0.Reg with hb27 | hb27
          ·replace h:=Ao hb27 h;refine vlG [some 36,some 37,some 38,some 39,some 40,some 41,some 42,some 43,some 44,some 45,some 46,some 47,some 48,some 49,some 50,some 51,some 52,some 53,some 54,some 55,some 56,some 57,some 58,some 59,some 60,some 61,some 62,some 63,some 64,some 65,some 66,some 67,some 68,some 69,some 70,some 71,some 72,some 73,some 74,some 75,some 4] fun _ k=>?_;refine Af 8 fun _ l=>?_;push_cast [hb16,hb18,hb19,hb24,hb25,hb27];(repeat refine ao ?_);refine cp (Cs hr15) ?_;push_cast [hb16,hb18,hb19,hb24,hb25,hb27];(repeat refine ao ?_);apply l;clear l;simp only [List.drop_succ_cons,List.drop_zero];refine Af 8 fun _ l=>?_;push_cast [hb16,hb18,hb19,hb24,hb25,hb27];(repeat refine ao ?_);refine cp (Cs hr17) ?_;push_cast [hb16,hb18,hb19,hb24,hb25,hb27];(repeat refine ao ?_);apply l;clear l;simp only [List.drop_succ_cons,List.drop_zero];refine Af 8 fun _ l=>?_;push_cast [hb16,hb18,hb19,hb24,hb25,hb27];(repeat refine ao ?_);apply l;clear l;simp only [List.drop_succ_cons,List.drop_zero];refine Af 8 fun _ l=>?_;push_cast [hb16,hb18,hb19,hb24,hb25,hb27];(repeat refine ao ?_);apply l;clear l;simp only [List.drop_succ_cons,List.drop_zero];push_cast [hb16,hb18,hb19,hb24,hb25,hb27];(repeat refine ao ?_);apply k;clear k;refine ar h hk14 ?_;exact sl (by push_cast [hb7,hb16,hb18,hb19,hb24,hb25,hb27])
          ·replace h:=Av hb27 h;rcases bt s_3.imm with hb28 | hb28
           ·replace h:=Ao hb28 h;refine vlG [some 36,some 37,some 38,some 39,some 40,some 41,some 42,some 43,some 44,some 45,some 46,some 47,some 48,some 49,some 50,some 51,some 52,some 53,some 54,some 55,some 56,some 57,some 58,some 59,some 60,some 61,some 62,some 63,some 64,some 65,some 66,some 67,some 68,some 69,some 70,some 71,some 72,some 73,some 74,some 75,some 4] fun _ k=>?_;refine Af 8 fun _ l=>?_;push_cast [hb16,hb18,hb19,hb24,hb25,hb27,hb28];(repeat refine ao ?_);refine cp (Cs hr15) ?_;push_cast [hb16,hb18,hb19,hb24,hb25,hb27,hb28];(repeat refine ao ?_);apply l;clear l;simp only [List.drop_succ_cons,List.drop_zero];refine Af 8 fun _ l=>?_;push_cast [hb16,hb18,hb19,hb24,hb25,hb27,hb28];(repeat refine ao ?_);refine cp (Cs hr17) ?_;push_cast [hb16,hb18,hb19,hb24,hb25,hb27,hb28];(repeat refine ao ?_);apply l;clear l;simp only [List.drop_succ_cons,List.drop_zero];refine Af 8 fun _ l=>?_;push_cast [hb16,hb18,hb19,hb24,hb25,hb27,hb28];(repeat refine ao ?_);apply l;clear l;simp only [List.drop_succ_cons,List.drop_zero];refine Af 8 fun _ l=>?_;push_cast [hb16,hb18,hb19,hb24,hb25,hb27,hb28];(repeat refine ao ?_);apply l;clear l;simp only [List.drop_succ_cons,List.drop_zero];push_cast [hb16,hb18,hb19,hb24,hb25,hb27,hb28];(repeat refine ao ?_);apply k;clear k;refine ar h hk14 ?_;exact sl (by push_cast [hb7,hb16,hb18,hb19,hb24,hb25,hb27,hb28])
           ·replace h:=Av hb28 h;refine vlG [some 36,some 37,some 38,some 39,some 40,some 41,some 42,some 43,some 44,some 45,some 46,some 47,some 48,some 49,some 50,some 51,some 52,some 53,some 54,some 55,some 56,some 57,some 58,some 59,some 60,some 61,some 62,some 63,some 64,some 65,some 66,some 67,some 68,some 69,some 70,some 71,some 72,some 73,some 74,some 75,some 4] fun _ k=>?_;refine Af 8 fun _ l=>?_;push_cast [hb16,hb18,hb19,hb24,hb25,hb27,hb28];(repeat refine ao ?_);refine cp (Cs hr15) ?_;push_cast [hb16,hb18,hb19,hb24,hb25,hb27,hb28];(repeat refine ao ?_);apply l;clear l;simp only [List.drop_succ_cons,List.drop_zero];refine Af 8 fun _ l=>?_;push_cast [hb16,hb18,hb19,hb24,hb25,hb27,hb28];(repeat refine ao ?_);refine cp (Cs hr17) ?_;push_cast [hb16,hb18,hb19,hb24,hb25,hb27,hb28];(repeat refine ao ?_);apply l;clear l;simp only [List.drop_succ_cons,List.drop_zero];refine Af 8 fun _ l=>?_;push_cast [hb16,hb18,hb19,hb24,hb25,hb27,hb28];(repeat refine ao ?_);apply l;clear l;simp only [List.drop_succ_cons,List.drop_zero];refine Af 8 fun _ l=>?_;push_cast [hb16,hb18,hb19,hb24,hb25,hb27,hb28];(repeat refine ao ?_);apply l;clear l;simp only [List.drop_succ_cons,List.drop_zero];push_cast [hb16,hb18,hb19,hb24,hb25,hb27,hb28];(repeat refine ao ?_);apply k;clear k;refine ar h hk14 ?_;exact sl (by push_cast [hb7,hb16,hb18,hb19,hb24,hb25,hb27,hb28])
        ·replace h:=Av hb24 h;refine vlG [some 36,some 37,some 38,some 39,some 40,some 41,some 42,some 43,some 44,some 45,some 46,some 47,some 48,some 49,some 50,some 51,some 52,some 53,some 54,some 55,some 56,some 57,some 58,some 59,some 60,some 61,some 62,some 63,some 64,some 65,some 66,some 67,some 68,some 69,some 70,some 71,some 72,some 73,some 74,some 75,some 4] fun _ k=>?_;refine Af 8 fun _ l=>?_;push_cast [hb16,hb18,hb19,hb24];(repeat refine ao ?_);refine cp (Cs hr15) ?_;push_cast [hb16,hb18,hb19,hb24];(repeat refine ao ?_);apply l;clear l;simp only [List.drop_succ_cons,List.drop_zero];refine Af 8 fun _ l=>?_;push_cast [hb16,hb18,hb19,hb24];(repeat refine ao ?_);refine cp (Cs hr17) ?_;push_cast [hb16,hb18,hb19,hb24];(repeat refine ao ?_);apply l;clear l;simp only [List.drop_succ_cons,List.drop_zero];refine Af 8 fun _ l=>?_;push_cast [hb16,hb18,hb19,hb24];(repeat refine ao ?_);apply l;clear l;simp only [List.drop_succ_cons,List.drop_zero];refine Af 8 fun _ l=>?_;push_cast [hb16,hb18,hb19,hb24];(repeat refine ao ?_);apply l;clear l;simp only [List.drop_succ_cons,List.drop_zero];push_cast [hb16,hb18,hb19,hb24];(repeat refine ao ?_);apply k;clear k;refine ar h hk14 ?_;exact sl (by push_cast [hb7,hb16,hb18,hb19,hb24])
      ·replace h:=Av hb18 h;refine vlG [some 36,some 37,some 38,some 39,some 40,some 41,some 42,some 43,some 44,some 45,some 46,some 47,some 48,some 49,some 50,some 51,some 52,some 53,some 54,some 55,some 56,some 57,some 58,some 59,some 60,some 61,some 62,some 63,some 64,some 65,some 66,some 67,some 68,some 69,some 70,some 71,some 72,some 73,some 74,some 75,some 4] fun _ k=>?_;refine Af 8 fun _ l=>?_;push_cast [hb16,hb18];(repeat refine ao ?_);refine cp (Cs hr15) ?_;push_cast [hb16,hb18];(repeat refine ao ?_);apply l;clear l;simp only [List.drop_succ_cons,List.drop_zero];refine Af 8 fun _ l=>?_;push_cast [hb16,hb18];(repeat refine ao ?_);refine cp (Cs hr17) ?_;push_cast [hb16,hb18];(repeat refine ao ?_);apply l;clear l;simp only [List.drop_succ_cons,List.drop_zero];refine Af 8 fun _ l=>?_;push_cast [hb16,hb18];(repeat refine ao ?_);apply l;clear l;simp only [List.drop_succ_cons,List.drop_zero];refine Af 8 fun _ l=>?_;push_cast [hb16,hb18];(repeat refine ao ?_);apply l;clear l;simp only [List.drop_succ_cons,List.drop_zero];push_cast [hb16,hb18];(repeat refine ao ?_);apply k;clear k;refine ar h hk14 ?_;exact sl (by push_cast [hb7,hb16,hb18])
     ·replace h:=Av hb16 h;refine vlG [some 36,some 37,some 38,some 39,some 40,some 41,some 42,some 43,some 44,some 45,some 46,some 47,some 48,some 49,some 50,some 51,some 52,some 53,some 54,some 55,some 56,some 57,some 58,some 59,some 60,some 61,some 62,some 63,some 64,some 65,some 66,some 67,some 68,some 69,some 70,some 71,some 72,some 73,some 74,some 75,some 4] fun _ k=>?_;refine Af 8 fun _ l=>?_;push_cast [hb16];(repeat refine ao ?_);refine cp (Cs hr15) ?_;push_cast [hb16];(repeat refine ao ?_);apply l;clear l;simp only [List.drop_succ_cons,List.drop_zero];refine Af 8 fun _ l=>?_;push_cast [hb16];(repeat refine ao ?_);apply l;clear l;simp only [List.drop_succ_cons,List.drop_zero];refine Af 8 fun _ l=>?_;push_cast [hb16];(repeat refine ao ?_);apply l;clear l;simp only [List.drop_succ_cons,List.drop_zero];refine Af 8 fun _ l=>?_;push_cast [hb16];(repeat refine ao ?_);apply l;clear l;simp only [List.drop_succ_cons,List.drop_zero];push_cast [hb16];(repeat refine ao ?_);apply k;clear k;refine ar h hk14 ?_;exact sl (by push_cast [hb7,hb16])
    ·rintro i_4 (h : Me a0 i_4 = some r);(try push_cast);unfold Me at h;refine VC.seq ?_;refine vs [1,4,77] fun _ k=>?_;push_cast;apply k;clear k;refine vc h (fun hb29 h=>?_) (fun hb29 h=>?_)
     ·refine vj h (fun x=>⟨[(2,rb x)],[],88,90,0⟩) (fun v30 h hk30=>?_) ?_
      ·rcases bt i_4 with hb31 | hb31
       ·replace h:=Ao hb31 h;refine vlG [some 78,some 79,some 80,some 81,some 82,some 83,some 2] fun _ k=>?_;push_cast [hb31];(repeat refine ao ?_);apply k;clear k;refine ar h hk30 ?_;exact sl (by push_cast [hb7,hb29,hb31])
       ·replace h:=Av hb31 h;refine vlG [some 78,some 79,some 80,some 81,some 82,some 83,some 2] fun _ k=>?_;push_cast [hb31];(repeat refine ao ?_);apply k;clear k;refine ar h hk30 ?_;exact sl (by push_cast [hb7,hb29,hb31])
      ·rintro i_5 (h : Sd i_5 = some r);(try push_cast);unfold Sd at h;refine VC.ret ?_;replace h:=Option.some.inj h;subst h;exact en (by push_cast [hb7,hb29])
     ·refine VC.skip ?_;refine vj h (fun x=>⟨[(2,rb x)],[],88,90,0⟩) (fun v32 h hk32=>?_) ?_
      ·rcases bt i_4 with hb33 | hb33
       ·replace h:=Ao hb33 h;refine vlG [some 84,some 85,some 86,some 87,some 88,some 89,some 2] fun _ k=>?_;push_cast [hb33];(repeat refine ao ?_);apply k;clear k;refine ar h hk32 ?_;exact sl (by push_cast [hb7,hb29,hb33])
       ·replace h:=Av hb33 h;refine vlG [some 84,some 85,some 86,some 87,some 88,some 89,some 2] fun _ k=>?_;push_cast [hb33];(repeat refine ao ?_);apply k;clear k;refine ar h hk32 ?_;exact sl (by push_cast [hb7,hb29,hb33])
      ·rintro i_6 (h : Ry i_6 = some r);(try push_cast);unfold Ry at h;refine VC.ret ?_;replace h:=Option.some.inj h;subst h;exact en (by push_cast [hb7,hb29])
noncomputable def Ss (a0 : Ap) : Option (Bool):=
  po (Kb a0) fun r1=>
  some (!r1)
theorem Fj0 {a0 : Ap} {r : Bool} (h : Ss a0 = some r) : Ctr prog 146 [.agg (Aw a0)] [] (rb r) []:=by
 unfold Ss at h;refine Ctr.ofW Bb func146 rfl call146 0 _ ntmps146 [.tmp 2] rfl rfl rfl (fun B=>?_);refine vs [1] fun _ k=>?_;push_cast;apply k;clear k;obtain ⟨r1,hr1,h⟩:=Aa h;refine vs [2] fun _ k=>?_;push_cast;refine cp (Ac0 hr1) ?_;push_cast;apply k;clear k;refine VC.ret ?_;replace h:=Option.some.inj h;subst h;exact en (by push_cast)
noncomputable def Bm (a0 : (List Ap)) (i_1 : Int) : Option ((Int) ⊕ ((Unit) ⊕ (Int))):=
  cond (decide (i_1 < (a0.length : Int))) (
  po (idx a0 i_1) fun x4=>
  po (Ss x4) fun r5=>
  cond r5 (
  some (Sum.inr (Sum.inr i_1))) (
  some (Sum.inl (IntKind.i64.wrap (i_1 + 1))))) (
  some (Sum.inr (Sum.inl ())))
noncomputable def Bz : Option (Int):=
  some (-1)
noncomputable def Cc (a0 : (List Ap)) : Option (Int):=
  pm (
  lpU (fun x=>Bm a0 x) 0) (fun x=>Bz)
theorem My {a0 : (List Ap)} {r : Int} (h : Cc a0 = some r) : Ctr prog 192 [.sl false (a0.map Aw),.fn (.func 146) [] []] [] (ri r) []:=by
 unfold Cc at h;refine Ctr.ofW Bb func192 rfl call192 0 _ ntmps192 [.tmp 4] rfl rfl rfl (fun B=>?_);refine vs [0,1] fun _ k=>?_;push_cast;apply k;clear k;refine vm h (fun x=>⟨[],[],16,19,0⟩) (fun v1 h hk1=>?_) ?_
 ·refine vs [0,1,7,8] fun _ k=>?_;push_cast;apply k;clear k;refine VC.block ?_;refine VC.loopP h (fun x=>⟨[(0,.sl false (a0.map Aw)),(1,.fn (.func 146) [] []),(7,ri (a0.length : Int)),(8,ri x)],[],15,19,0⟩) ?_ ?_
  ·exact sl (by push_cast)
  rintro i_1 b2 (h : Bm a0 i_1 = some b2) hf2;(try push_cast);unfold Bm at h;refine vs [0,1,7,8,9] fun _ k=>?_;push_cast;apply k;clear k;refine VC.seq ?_;refine vc h (fun hb3 h=>?_) (fun hb3 h=>?_)
  ·refine VC.skip ?_;refine VC.seq ?_;refine VC.block ?_;refine vs [0,1,5,7,8] fun _ k=>?_;push_cast;apply k;clear k;obtain ⟨x4,hx4,h⟩:=Aa h;replace hx4:=Bh hx4;obtain ⟨r5,hr5,h⟩:=Aa h;refine vs [0,1,5,7,8,16] fun _ k=>?_;push_cast [hx4];(repeat refine ao ?_);refine cp (Fj0 hr5) ?_;push_cast [hx4];(repeat refine ao ?_);apply k;clear k;refine vc h (fun hb6 h=>?_) (fun hb6 h=>?_)
   ·refine vs [4] fun _ k=>?_;push_cast;apply k;clear k;refine VC.ret ?_;replace h:=ol h hf2;replace h:=om h hk1;replace h:=Option.some.inj h;subst h;exact en (by push_cast [hb3,hb6])
   ·refine VC.skip ?_;refine vl fun _ k=>?_;push_cast;apply k;clear k;refine bk h ?_;exact sl (by push_cast [hb3,hb6])
  ·refine VC.exit ?_;replace h:=ol h hf2;refine am h hk1 ?_;exact sl (by push_cast [hb3])
 ·rintro ⟨⟩ (h : Bz = some r);(try push_cast);unfold Bz at h;refine vs [4] fun _ k=>?_;push_cast;apply k;clear k;refine VC.ret ?_;replace h:=Option.some.inj h;subst h;exact en (by push_cast)
noncomputable def Bl (a0 : (List Ap)) : Option (Bool):=
  po (Cc a0) fun r1=>
  some (decide (r1 ≥ 0))
theorem Lm {a0 : (List Ap)} {r : Bool} (h : Bl a0 = some r) : Ctr prog 147 [.sl false (a0.map Aw),.fn (.func 146) [] []] [] (rb r) []:=by
 unfold Bl at h;refine Ctr.ofW Bb func147 rfl call147 0 _ ntmps147 [.tmp 4] rfl rfl rfl (fun B=>?_);refine vs [0,1] fun _ k=>?_;push_cast;apply k;clear k;obtain ⟨r1,hr1,h⟩:=Aa h;refine vs [4] fun _ k=>?_;push_cast;refine cp (My hr1) ?_;push_cast;apply k;clear k;refine VC.ret ?_;replace h:=Option.some.inj h;subst h;exact en (by push_cast)
noncomputable def Ph (i_1 : Bool) : Option (Bool):=
  some i_1
noncomputable def Lz (a0 : Cv) : Option (Bool):=
  po (
  cond (decide (a0.Args ≥ 0)) (
  cond (decide (a0.Args ≤ 4)) (
  cond (decide ((a0.Code.length : Int) > 0)) (
  cond (decide ((a0.Code.length : Int) ≤ 64)) (
  po (Bl a0.Code) fun r6=>
  some (!r6)) (
  some false)) (
  some false)) (
  some false)) (
  some false)) (fun x=>Ph x)
theorem Hn0 {a0 : Cv} {r : Bool} (h : Lz a0 = some r) : Ctr prog 106 [.agg (Al a0)] [] (rb r) []:=by
 unfold Lz at h;refine Ctr.ofW Bb func106 rfl call106 0 _ ntmps106 [.tmp 2] rfl rfl rfl (fun B=>?_);refine vs [1] fun _ k=>?_;push_cast;apply k;clear k;refine vs [1,3] fun _ k=>?_;push_cast;apply k;clear k;refine vj h (fun x=>⟨[(2,rb x)],[],31,31,0⟩) (fun v1 h hk1=>?_) ?_
 ·rcases bt (decide (a0.Args ≥ 0)) with hb2 | hb2
  ·replace h:=Ao hb2 h;rcases bt (decide (a0.Args ≤ 4)) with hb3 | hb3
   ·replace h:=Ao hb3 h;rcases bt (decide ((a0.Code.length : Int) > 0)) with hb4 | hb4
    ·replace h:=Ao hb4 h;rcases bt (decide ((a0.Code.length : Int) ≤ 64)) with hb5 | hb5
     ·replace h:=Ao hb5 h;obtain ⟨r6,hr6,h⟩:=Aa h;refine vlG [some 4,some 5,some 6,some 7,some 8,some 9,some 10,some 11,some 12,some 13,some 14,some 15,some 16,some 17,some 18,some 19,some 20,some 21,some 22,some 23,some 24,some 25,some 26,some 27,some 28,some 29,some 30,some 2] fun _ k=>?_;refine Af 8 fun _ l=>?_;push_cast [hb2,hb3,hb4,hb5];(repeat refine ao ?_);apply l;clear l;simp only [List.drop_succ_cons,List.drop_zero];refine Af 8 fun _ l=>?_;push_cast [hb2,hb3,hb4,hb5];(repeat refine ao ?_);apply l;clear l;simp only [List.drop_succ_cons,List.drop_zero];refine Af 8 fun _ l=>?_;push_cast [hb2,hb3,hb4,hb5];(repeat refine ao ?_);apply l;clear l;simp only [List.drop_succ_cons,List.drop_zero];push_cast [hb2,hb3,hb4,hb5];(repeat refine ao ?_);refine cp (Lm hr6) ?_;push_cast [hb2,hb3,hb4,hb5];(repeat refine ao ?_);apply k;clear k;refine ar h hk1 ?_;exact sl (by push_cast [hb2,hb3,hb4,hb5])
     ·replace h:=Av hb5 h;refine vlG [some 4,some 5,some 6,some 7,some 8,some 9,some 10,some 11,some 12,some 13,some 14,some 15,some 16,some 17,some 18,some 19,some 20,some 21,some 22,some 23,some 24,some 25,some 26,some 27,some 28,some 29,some 30,some 2] fun _ k=>?_;refine Af 8 fun _ l=>?_;push_cast [hb2,hb3,hb4,hb5];(repeat refine ao ?_);apply l;clear l;simp only [List.drop_succ_cons,List.drop_zero];refine Af 8 fun _ l=>?_;push_cast [hb2,hb3,hb4,hb5];(repeat refine ao ?_);apply l;clear l;simp only [List.drop_succ_cons,List.drop_zero];refine Af 8 fun _ l=>?_;push_cast [hb2,hb3,hb4,hb5];(repeat refine ao ?_);apply l;clear l;simp only [List.drop_succ_cons,List.drop_zero];push_cast [hb2,hb3,hb4,hb5];(repeat refine ao ?_);apply k;clear k;refine ar h hk1 ?_;exact sl (by push_cast [hb2,hb3,hb4,hb5])
    ·replace h:=Av hb4 h;refine vlG [some 4,some 5,some 6,some 7,some 8,some 9,some 10,some 11,some 12,some 13,some 14,some 15,some 16,some 17,some 18,some 19,some 20,some 21,some 22,some 23,some 24,some 25,some 26,some 27,some 28,some 29,some 30,some 2] fun _ k=>?_;refine Af 8 fun _ l=>?_;push_cast [hb2,hb3,hb4];(repeat refine ao ?_);apply l;clear l;simp only [List.drop_succ_cons,List.drop_zero];refine Af 8 fun _ l=>?_;push_cast [hb2,hb3,hb4];(repeat refine ao ?_);apply l;clear l;simp only [List.drop_succ_cons,List.drop_zero];refine Af 8 fun _ l=>?_;push_cast [hb2,hb3,hb4];(repeat refine ao ?_);apply l;clear l;simp only [List.drop_succ_cons,List.drop_zero];push_cast [hb2,hb3,hb4];(repeat refine ao ?_);apply k;clear k;refine ar h hk1 ?_;exact sl (by push_cast [hb2,hb3,hb4])
   ·replace h:=Av hb3 h;refine vlG [some 4,some 5,some 6,some 7,some 8,some 9,some 10,some 11,some 12,some 13,some 14,some 15,some 16,some 17,some 18,some 19,some 20,some 21,some 22,some 23,some 24,some 25,some 26,some 27,some 28,some 29,some 30,some 2] fun _ k=>?_;refine Af 8 fun _ l=>?_;push_cast [hb2,hb3];(repeat refine ao ?_);apply l;clear l;simp only [List.drop_succ_cons,List.drop_zero];refine Af 8 fun _ l=>?_;push_cast [hb2,hb3];(repeat refine ao ?_);apply l;clear l;simp only [List.drop_succ_cons,List.drop_zero];refine Af 8 fun _ l=>?_;push_cast [hb2,hb3];(repeat refine ao ?_);apply l;clear l;simp only [List.drop_succ_cons,List.drop_zero];push_cast [hb2,hb3];(repeat refine ao ?_);apply k;clear k;refine ar h hk1 ?_;exact sl (by push_cast [hb2,hb3])
  ·replace h:=Av hb2 h;refine vlG [some 4,some 5,some 6,some 7,some 8,some 9,some 10,some 11,some 12,some 13,some 14,some 15,some 16,some 17,some 18,some 19,some 20,some 21,some 22,some 23,some 24,some 25,some 26,some 27,some 28,some 29,some 30,some 2] fun _ k=>?_;refine Af 8 fun _ l=>?_;push_cast [hb2];(repeat refine ao ?_);apply l;clear l;simp only [List.drop_succ_cons,List.drop_zero];refine Af 8 fun _ l=>?_;push_cast [hb2];(repeat refine ao ?_);apply l;clear l;simp only [List.drop_succ_cons,List.drop_zero];refine Af 8 fun _ l=>?_;push_cast [hb2];(repeat refine ao ?_);apply l;clear l;simp only [List.drop_succ_cons,List.drop_zero];push_cast [hb2];(repeat refine ao ?_);apply k;clear k;refine ar h hk1 ?_;exact sl (by push_cast [hb2])
 ·rintro i_1 (h : Ph i_1 = some r);(try push_cast);unfold Ph at h;refine VC.ret ?_;replace h:=Option.some.inj h;subst h;exact en (by push_cast)
noncomputable def Pf (a0 : Cv) : Option (Bool):=
  po (Lz a0) fun r1=>
  some (!r1)
theorem Ha0 {a0 : Cv} {r : Bool} (h : Pf a0 = some r) : Ctr prog 105 [.agg (Al a0)] [] (rb r) []:=by
 unfold Pf at h;refine Ctr.ofW Bb func105 rfl call105 0 _ ntmps105 [.tmp 2] rfl rfl rfl (fun B=>?_);refine vs [1] fun _ k=>?_;push_cast;apply k;clear k;obtain ⟨r1,hr1,h⟩:=Aa h;refine vs [2] fun _ k=>?_;push_cast;refine cp (Hn0 hr1) ?_;push_cast;apply k;clear k;refine VC.ret ?_;replace h:=Option.some.inj h;subst h;exact en (by push_cast)
noncomputable def Bj (a0 : (List Cv)) (i_1 : Int) : Option ((Int) ⊕ ((Unit) ⊕ (Int))):=
  cond (decide (i_1 < (a0.length : Int))) (
  po (idx a0 i_1) fun x4=>
  po (Pf x4) fun r5=>
  cond r5 (
  some (Sum.inr (Sum.inr i_1))) (
  some (Sum.inl (IntKind.i64.wrap (i_1 + 1))))) (
  some (Sum.inr (Sum.inl ())))
noncomputable def Ci : Option (Int):=
  some (-1)
noncomputable def Cp (a0 : (List Cv)) : Option (Int):=
  pm (
  lpU (fun x=>Bj a0 x) 0) (fun x=>Ci)
theorem Oi {a0 : (List Cv)} {r : Int} (h : Cp a0 = some r) : Ctr prog 145 [.sl false (a0.map Al),.fn (.func 105) [] []] [] (ri r) []:=by
 unfold Cp at h;refine Ctr.ofW Bb func145 rfl call145 0 _ ntmps145 [.tmp 4] rfl rfl rfl (fun B=>?_);refine vs [0,1] fun _ k=>?_;push_cast;apply k;clear k;refine vm h (fun x=>⟨[],[],16,19,0⟩) (fun v1 h hk1=>?_) ?_
 ·refine vs [0,1,7,8] fun _ k=>?_;push_cast;apply k;clear k;refine VC.block ?_;refine VC.loopP h (fun x=>⟨[(0,.sl false (a0.map Al)),(1,.fn (.func 105) [] []),(7,ri (a0.length : Int)),(8,ri x)],[],15,19,0⟩) ?_ ?_
  ·exact sl (by push_cast)
  rintro i_1 b2 (h : Bj a0 i_1 = some b2) hf2;(try push_cast);unfold Bj at h;refine vs [0,1,7,8,9] fun _ k=>?_;push_cast;apply k;clear k;refine VC.seq ?_;refine vc h (fun hb3 h=>?_) (fun hb3 h=>?_)
  ·refine VC.skip ?_;refine VC.seq ?_;refine VC.block ?_;refine vs [0,1,5,7,8] fun _ k=>?_;push_cast;apply k;clear k;obtain ⟨x4,hx4,h⟩:=Aa h;replace hx4:=Bh hx4;obtain ⟨r5,hr5,h⟩:=Aa h;refine vs [0,1,5,7,8,16] fun _ k=>?_;push_cast [hx4];(repeat refine ao ?_);refine cp (Ha0 hr5) ?_;push_cast [hx4];(repeat refine ao ?_);apply k;clear k;refine vc h (fun hb6 h=>?_) (fun hb6 h=>?_)
   ·refine vs [4] fun _ k=>?_;push_cast;apply k;clear k;refine VC.ret ?_;replace h:=ol h hf2;replace h:=om h hk1;replace h:=Option.some.inj h;subst h;exact en (by push_cast [hb3,hb6])
   ·refine VC.skip ?_;refine vl fun _ k=>?_;push_cast;apply k;clear k;refine bk h ?_;exact sl (by push_cast [hb3,hb6])
  ·refine VC.exit ?_;replace h:=ol h hf2;refine am h hk1 ?_;exact sl (by push_cast [hb3])
 ·rintro ⟨⟩ (h : Ci = some r);(try push_cast);unfold Ci at h;refine vs [4] fun _ k=>?_;push_cast;apply k;clear k;refine VC.ret ?_;replace h:=Option.some.inj h;subst h;exact en (by push_cast)
noncomputable def Bu (a0 : (List Cv)) : Option (Bool):=
  po (Cp a0) fun r1=>
  some (decide (r1 ≥ 0))
theorem Ng {a0 : (List Cv)} {r : Bool} (h : Bu a0 = some r) : Ctr prog 104 [.sl false (a0.map Al),.fn (.func 105) [] []] [] (rb r) []:=by
 unfold Bu at h;refine Ctr.ofW Bb func104 rfl call104 0 _ ntmps104 [.tmp 4] rfl rfl rfl (fun B=>?_);refine vs [0,1] fun _ k=>?_;push_cast;apply k;clear k;obtain ⟨r1,hr1,h⟩:=Aa h;refine vs [4] fun _ k=>?_;push_cast;refine cp (Oi hr1) ?_;push_cast;apply k;clear k;refine VC.ret ?_;replace h:=Option.some.inj h;subst h;exact en (by push_cast)
noncomputable def Jg (a0 : Ar) (i_1 : Bool) : Option (Bool):=
  cond i_1 (
  some false) (
  po (Bu a0.Fns) fun r6=>
  some (!r6))
noncomputable def Ja (a0 : Ar) : Option (Bool):=
  po (
  cond ((a0.Fns.length : Int) == 0) (
  some true) (
  cond (decide ((a0.Fns.length : Int) > 8)) (
  some true) (
  po (a0.Fns[0]?) fun x4=>
  some (x4.Args != 0)))) (fun x=>Jg a0 x)
theorem Zh {a0 : Ar} {r : Bool} (h : Ja a0 = some r) : Ctr prog 67 [.agg (Ey a0)] [] (rb r) []:=by
 unfold Ja at h;refine Ctr.ofW Bb func67 rfl call67 0 _ ntmps67 [.tmp 2] rfl rfl rfl (fun B=>?_);refine vs [1] fun _ k=>?_;push_cast;apply k;clear k;refine VC.seq ?_;refine vj h (fun x=>⟨[(1,.ref 0 0),(20,rb x)],[(0,.box 56 [.sl false (a0.Fns.map Al)])],20,25,0⟩) (fun v1 h hk1=>?_) ?_
 ·rcases bt ((a0.Fns.length : Int) == 0) with hb2 | hb2
  ·replace h:=Ao hb2 h;refine vlG [some 3,some 4,some 5,some 6,some 7,some 8,some 9,some 10,some 11,some 12,some 13,some 14,some 15,some 16,some 17,some 18,some 19,some 20] fun _ k=>?_;refine Af 8 fun _ l=>?_;push_cast [hb2];(repeat refine ao ?_);apply l;clear l;simp only [List.drop_succ_cons,List.drop_zero];push_cast [hb2];(repeat refine ao ?_);apply k;clear k;refine ar h hk1 ?_;exact sl (by push_cast [hb2])
  ·replace h:=Av hb2 h;rcases bt (decide ((a0.Fns.length : Int) > 8)) with hb3 | hb3
   ·replace h:=Ao hb3 h;refine vlG [some 3,some 4,some 5,some 6,some 7,some 8,some 9,some 10,some 11,some 12,some 13,some 14,some 15,some 16,some 17,some 18,some 19,some 20] fun _ k=>?_;refine Af 8 fun _ l=>?_;push_cast [hb2,hb3];(repeat refine ao ?_);apply l;clear l;simp only [List.drop_succ_cons,List.drop_zero];push_cast [hb2,hb3];(repeat refine ao ?_);apply k;clear k;refine ar h hk1 ?_;exact sl (by push_cast [hb2,hb3])
   ·replace h:=Av hb3 h;obtain ⟨x4,hx4,h⟩:=Aa h;replace hx4:=gL hx4;refine vlG [some 3,some 4,some 5,some 6,some 7,some 8,some 9,some 10,some 11,some 12,some 13,some 14,some 15,some 16,some 17,some 18,some 19,some 20] fun _ k=>?_;refine Af 8 fun _ l=>?_;push_cast [hb2,hb3,hx4];(repeat refine ao ?_);apply l;clear l;simp only [List.drop_succ_cons,List.drop_zero];push_cast [hb2,hb3,hx4];(repeat refine ao ?_);apply k;clear k;refine ar h hk1 ?_;exact sl (by push_cast [hb2,hb3])
 ·rintro i_1 (h : Jg a0 i_1 = some r);(try push_cast);unfold Jg at h;refine vc h (fun hb5 h=>?_) (fun hb5 h=>?_)
  ·refine vs [2] fun _ k=>?_;push_cast;apply k;clear k;refine VC.ret ?_;replace h:=Option.some.inj h;subst h;exact en (by push_cast [hb5])
  ·refine VC.skip ?_;obtain ⟨r6,hr6,h⟩:=Aa h;refine vs [2] fun _ k=>?_;push_cast;refine cp (Ng hr6) ?_;push_cast;apply k;clear k;refine VC.ret ?_;replace h:=Option.some.inj h;subst h;exact en (by push_cast [hb5])
abbrev Fra:=Ad
abbrev Rn:=Ae
structure InstOk (i : Ap) : Prop where
  op : 0 ≤ i.Op ∧ i.Op < 8
  dst : 0 ≤ i.Dst ∧ i.Dst < 8
  src : 0 ≤ i.Src ∧ i.Src < 8
  off : 0 ≤ i.Off ∧ i.Off ≤ 65535
  alu : i.Op = 0 → 0 ≤ i.Fn ∧ i.Fn < 11
  jmp : i.Op = 1 → 0 ≤ i.Fn ∧ i.Fn < 5
structure FnOk (f : Cv) : Prop where
  args : 0 ≤ f.Args ∧ f.Args ≤ 4
  len : 0 < f.Code.length ∧ f.Code.length ≤ 64
  code : ∀ i ∈ f.Code,InstOk i
structure ProgOk (p : Ar) : Prop where
  len : 0 < p.Fns.length ∧ p.Fns.length ≤ 8
  fns : ∀ f ∈ p.Fns,FnOk f
  main : ∀ f,p.Fns[0]? = some f → f.Args = 0
def inb (a b : Int) : Bool:=decide (0 ≤ a ∧ a < b)
theorem instIn_is (a b : Int) : Nr a b = some (inb a b):=by
  unfold Nr inb
  by_cases h : 0 ≤ a
  · simp [h,Ri]
  · simp [h,Ri]
theorem inb_true {a b : Int} (h : inb a b = true) : 0 ≤ a ∧ a < b:=of_decide_eq_true h
theorem instMay_tells (i : Ap) : ∃ b,Kb i = some b ∧ (b = true → InstOk i):=by
  unfold Kb
  simp only [instIn_is,po_of]
  have no : Qh i true = some false:=rfl
  rcases bt (inb i.Op 8) with h1 | h1
  case inr=>exact ⟨false,by rw [h1]; exact no,fun h=>by cases h⟩
  rcases bt (inb i.Dst 8) with h2 | h2
  case inr=>exact ⟨false,by rw [h1,h2]; exact no,fun h=>by cases h⟩
  rcases bt (inb i.Src 8) with h3 | h3
  case inr=>exact ⟨false,by rw [h1,h2,h3]; exact no,fun h=>by cases h⟩
  rw [h1,h2,h3]
  simp only [cond_true,po_of,Bool.not_true,Qh,cond_false]
  have o:=inb_true h1
  have d:=inb_true h2
  have s:=inb_true h3
  simp only [Ve,po_of]
  rw [El o]
  -- the end
  have fin : ∀ b,∃ c,Me i b = some c ∧ (c = true → b = true):=fun b=>by
    unfold Me
    cases i.Reg <;> cases b
    all_goals simp only [cond_true,cond_false,po_of,Sd,Ry]
    all_goals exact ⟨_,rfl,by simp⟩
  have mid : ∀ r : Cj,0 ≤ r.off ∧ r.off ≤ 65535 → ∃ c,Pa i r = some c ∧ (c = true → (0 ≤ i.Fn ∧ i.Fn < r.fns) ∧ 0 ≤ i.Off ∧ i.Off ≤ 65535):=fun r hr=>by
    have key : ∀ X : Option Bool,(∃ b,X = some b ∧ (b = true → (0 ≤ i.Fn ∧ i.Fn < r.fns) ∧ 0 ≤ i.Off ∧ i.Off ≤ 65535)) → ∃ c,po X (fun x=>Me i x) = some c ∧ (c = true → (0 ≤ i.Fn ∧ i.Fn < r.fns) ∧ 0 ≤ i.Off ∧ i.Off ≤ 65535):=fun X ⟨b,e,hb⟩=>by
      subst e
      obtain ⟨c,h4,h5⟩:=fin b
      exact ⟨c,h4,fun hc=>hb (h5 hc)⟩
    unfold Pa
    refine key _ ?_
    simp only [instIn_is,po_of]
    rcases bt (inb i.Fn r.fns) with h4 | h4
    case inr=>exact ⟨false,by rw [h4]; rfl,fun h=>by cases h⟩
    have hw : IntKind.i64.wrap (r.off + 1) = r.off + 1:=wrap_i64 (by omega) (by omega)
    rw [hw]
    rcases bt (inb i.Off (r.off + 1)) with h5 | h5
    case inr=>exact ⟨false,by rw [h4,h5]; rfl,fun h=>by cases h⟩
    rw [h4,h5]
    have h6:=inb_true h4
    have h7:=inb_true h5
    simp only [cond_true]
    have done : ∀ X : Option Bool,(∃ b,X = some b) → ∃ b,X = some b ∧ (b = true → (0 ≤ i.Fn ∧ i.Fn < r.fns) ∧ 0 ≤ i.Off ∧ i.Off ≤ 65535):=fun X ⟨b,e⟩=>⟨b,e,fun _=>⟨h6,by omega,by omega⟩⟩
    refine done _ ?_
    cases r.dst <;> cases r.word <;> cases r.imm <;> cases i.Reg <;> cases (i.Dst == 0)
    all_goals exact ⟨_,rfl⟩
  have hop : i.Op = 0 ∨ i.Op = 1 ∨ i.Op = 2 ∨ i.Op = 3 ∨ i.Op = 4 ∨ i.Op = 5 ∨ i.Op = 6 ∨ i.Op = 7:=by omega
  obtain ⟨r,hr,hro,hra,hrj⟩ : ∃ r : Cj,po (cond (i.Op == 1) (some (i.Fn == 0)) (some false)) (fun x=>Ea i (A8.mk (Cj.mk 11 true true 0 true) (Cj.mk 5 true true 65535 true) (Cj.mk 1 true true 0 true) (Cj.mk 1 true true 0 true) (Cj.mk 1 true true 0 true) (Cj.mk 1 false false 0 true) (Cj.mk 1 false false 0 true) (Cj.mk 1 false false 0 false)) x) = some r ∧ (0 ≤ r.off ∧ r.off ≤ 65535) ∧ (i.Op = 0 → r.fns = 11) ∧ (i.Op = 1 → r.fns = 5):=by
    rcases hop with q | q | q | q | q | q | q | q
    all_goals rw [q]
    case inr.inl=>
      cases hq : (i.Fn == 0)
      · exact ⟨⟨5,true,true,65535,true⟩,by simp only [show ((1 : Int) == 1) = true from rfl,cond_true,po_of,Ea,cond_false,q]; rfl,by decide,fun h=>absurd h (by decide),fun _=>rfl⟩
      · exact ⟨⟨5,false,false,65535,false⟩,by simp only [show ((1 : Int) == 1) = true from rfl,cond_true,po_of,Ea,q]; rfl,by decide,fun h=>absurd h (by decide),fun _=>rfl⟩
    case inl=>exact ⟨⟨11,true,true,0,true⟩,by simp only [show ((0 : Int) == 1) = false from rfl,cond_false,po_of,Ea,q]; rfl,by decide,fun _=>rfl,fun h=>absurd h (by decide)⟩
    case inr.inr.inl=>exact ⟨⟨1,true,true,0,true⟩,by simp only [show ((2 : Int) == 1) = false from rfl,cond_false,po_of,Ea,q]; rfl,by decide,fun h=>absurd h (by decide),fun h=>absurd h (by decide)⟩
    case inr.inr.inr.inl=>exact ⟨⟨1,true,true,0,true⟩,by simp only [show ((3 : Int) == 1) = false from rfl,cond_false,po_of,Ea,q]; rfl,by decide,fun h=>absurd h (by decide),fun h=>absurd h (by decide)⟩
    case inr.inr.inr.inr.inl=>exact ⟨⟨1,true,true,0,true⟩,by simp only [show ((4 : Int) == 1) = false from rfl,cond_false,po_of,Ea,q]; rfl,by decide,fun h=>absurd h (by decide),fun h=>absurd h (by decide)⟩
    case inr.inr.inr.inr.inr.inl=>exact ⟨⟨1,false,false,0,true⟩,by simp only [show ((5 : Int) == 1) = false from rfl,cond_false,po_of,Ea,q]; rfl,by decide,fun h=>absurd h (by decide),fun h=>absurd h (by decide)⟩
    case inr.inr.inr.inr.inr.inr.inl=>exact ⟨⟨1,false,false,0,true⟩,by simp only [show ((6 : Int) == 1) = false from rfl,cond_false,po_of,Ea,q]; rfl,by decide,fun h=>absurd h (by decide),fun h=>absurd h (by decide)⟩
    case inr.inr.inr.inr.inr.inr.inr=>exact ⟨⟨1,false,false,0,false⟩,by simp only [show ((7 : Int) == 1) = false from rfl,cond_false,po_of,Ea,q]; rfl,by decide,fun h=>absurd h (by decide),fun h=>absurd h (by decide)⟩
  rw [hr,po_of]
  obtain ⟨c,h4,h5⟩:=mid r hro
  refine ⟨c,h4,fun hc=>?_⟩
  obtain ⟨h6,h7⟩:=h5 hc
  exact ⟨o,d,s,h7,fun q=>by rw [hra q] at h6; exact h6,fun q=>by rw [hrj q] at h6; exact h6⟩
theorem index_any {α : Type} {l : List α} {q : α → Bool} {step : Int → Option (Int ⊕ (Unit ⊕ Int))} (hl : l.length ≤ 1048576)
    (hs : ∀ (n : Nat) (a : α),l[n]? = some a → step (n : Int) = some (if q a = true then .inr (.inr (n : Int)) else .inl ((n + 1 : Nat) : Int)))
    (he : step (l.length : Int) = some (.inr (.inl ()))) :
    ∃ r,lpU step 0 = some r ∧ ((r = .inl () ∧ ∀ a ∈ l,q a = false) ∨ ∃ n : Nat,r = .inr (n : Int)):=by
  refine lp_inv (fun s=>∃ n : Nat,s = (n : Int) ∧ n ≤ l.length ∧ ∀ (j : Nat) (a : α),j < n → l[j]? = some a → q a = false) (fun s=>((l.length : Int) - s).toNat) (fun (r : Unit ⊕ Int)=>(r = .inl () ∧ ∀ a ∈ l,q a = false) ∨ ∃ n : Nat,r = .inr (n : Int)) ?_ (0 : Int) ⟨0,rfl,Nat.zero_le _,fun j a hj=>by omega⟩
  rintro s ⟨n,rfl,h2,h3⟩
  by_cases hlt : n < l.length
  · have ha:=List.getElem?_eq_getElem hlt
    cases hq : q l[n] with
    | true=>exact .inr ⟨_,by rw [hs n _ ha,hq]; rfl,.inr ⟨n,rfl⟩⟩
    | false=>
      refine .inl ⟨_,by rw [hs n _ ha,hq]; rfl,⟨n + 1,rfl,by omega,fun j a hj hja=>?_⟩,by omega⟩
      rcases Nat.lt_or_ge j n with hjn | hjn
      · exact h3 j a hjn hja
      · have : j = n:=by omega
        subst this
        rw [ha] at hja
        injection hja with hja
        subst hja
        exact hq
  · have : n = l.length:=by omega
    subst this
    refine .inr ⟨_,he,.inl ⟨rfl,fun a ha=>?_⟩⟩
    obtain ⟨j,hj⟩:=List.mem_iff_getElem?.1 ha
    exact h3 j a (get_lt hj) hj
theorem fine_tells (f : Cv) : ∃ b,Lz f = some b ∧ (b = true → FnOk f):=by
  have fin : ∀ X : Option Bool,(∃ b,X = some b ∧ (b = true → FnOk f)) → ∃ b,po X (fun x=>Ph x) = some b ∧ (b = true → FnOk f):=fun X ⟨b,e,h⟩=>⟨b,by rw [e]; rfl,h⟩
  unfold Lz
  refine fin _ ?_
  by_cases h1 : f.Args ≥ 0
  case neg=>exact ⟨false,by rw [decide_eq_false h1]; rfl,fun h=>by cases h⟩
  by_cases h2 : f.Args ≤ 4
  case neg=>exact ⟨false,by rw [decide_eq_true h1,decide_eq_false h2]; rfl,fun h=>by cases h⟩
  by_cases h3 : (f.Code.length : Int) > 0
  case neg=>exact ⟨false,by rw [decide_eq_true h1,decide_eq_true h2,decide_eq_false h3]; rfl,fun h=>by cases h⟩
  by_cases h4 : (f.Code.length : Int) ≤ 64
  case neg=>exact ⟨false,by rw [decide_eq_true h1,decide_eq_true h2,decide_eq_true h3,decide_eq_false h4]; rfl,fun h=>by cases h⟩
  rw [decide_eq_true h1,decide_eq_true h2,decide_eq_true h3,decide_eq_true h4]
  simp only [cond_true]
  obtain ⟨r,hr,hq⟩:=index_any (l:=f.Code) (q:=fun i=>!((Kb i).getD false)) (step:=fun x=>Bm f.Code x) (by omega)
    (fun n i hi=>by
      obtain ⟨b,hb,_⟩:=instMay_tells i
      have hlt:=get_lt hi
      have hd : decide ((n : Int) < (f.Code.length : Int)) = true:=by simp; omega
      simp only [Bm,hd,cond_true,idx_nat,hi,po_of,Ss,hb,Option.getD_some,w64 (show n < 9223372036854775807 by omega)]
      cases b <;> rfl)
    (by
      have hd : decide ((f.Code.length : Int) < (f.Code.length : Int)) = false:=by simp
      simp only [Bm,hd,cond_false])
  have hI : Cc f.Code = pm (some r) (fun x=>Bz):=by
    rw [← hr]; rfl
  rcases hq with ⟨rfl,hall⟩ | ⟨n,rfl⟩
  · refine ⟨true,?_,fun _=>⟨⟨h1,h2⟩,⟨by omega,by omega⟩,fun i hi=>?_⟩⟩
    · simp only [Bl,hI,pm_inl,Bz,po_of]
      rfl
    · obtain ⟨b,hb,h5⟩:=instMay_tells i
      have:=hall i hi
      rw [hb] at this
      simp at this
      exact h5 this
  · refine ⟨false,?_,fun h=>by cases h⟩
    simp only [Bl,hI,pm_inr,po_of]
    rw [decide_eq_true (Int.natCast_nonneg n)]
    rfl
theorem progMay_tells (p : Ar) : ∃ b,Ja p = some b ∧ (b = true → ProgOk p):=by
  have no : Jg p true = some false:=rfl
  have fin : ∀ X : Option Bool,X = some true → ∃ b,po X (fun x=>Jg p x) = some b ∧ (b = true → ProgOk p):=fun X e=>⟨false,by rw [e]; exact no,fun h=>by cases h⟩
  unfold Ja
  by_cases h1 : (p.Fns.length : Int) = 0
  · have d : ((p.Fns.length : Int) == 0) = true:=by simpa using h1
    exact fin _ (by rw [d]; rfl)
  have d1 : ((p.Fns.length : Int) == 0) = false:=by simpa using h1
  by_cases h2 : (p.Fns.length : Int) > 8
  · exact fin _ (by rw [d1,decide_eq_true h2]; rfl)
  have d2:=decide_eq_false h2
  obtain ⟨f0,hf0⟩ : ∃ f,p.Fns[0]? = some f:=⟨_,List.getElem?_eq_getElem (by omega)⟩
  by_cases h3 : f0.Args = 0
  case neg=>
    have d : (f0.Args != 0) = true:=by simpa using h3
    exact fin _ (by rw [d1,d2,hf0]; simp only [cond_false,po_of,d])
  have d3 : (f0.Args != 0) = false:=by simpa using h3
  rw [d1,d2,hf0]
  simp only [cond_false,po_of,d3,Jg]
  obtain ⟨r,hr,hq⟩:=index_any (l:=p.Fns) (q:=fun f=>!((Lz f).getD false)) (step:=fun x=>Bj p.Fns x) (by omega)
    (fun n f hf=>by
      obtain ⟨b,hb,_⟩:=fine_tells f
      have hlt:=get_lt hf
      have hd : decide ((n : Int) < (p.Fns.length : Int)) = true:=by simp; omega
      simp only [Bj,hd,cond_true,idx_nat,hf,po_of,Pf,hb,Option.getD_some,w64 (show n < 9223372036854775807 by omega)]
      cases b <;> rfl)
    (by
      have hd : decide ((p.Fns.length : Int) < (p.Fns.length : Int)) = false:=by simp
      simp only [Bj,hd,cond_false])
  have hI : Cp p.Fns = pm (some r) (fun x=>Ci):=by
    rw [← hr]; rfl
  rcases hq with ⟨rfl,hall⟩ | ⟨n,rfl⟩
  · refine ⟨true,?_,fun _=>⟨⟨by omega,by omega⟩,fun f hf=>?_,fun f hf=>?_⟩⟩
    · simp only [Bu,hI,pm_inl,Ci,po_of]
      rfl
    · obtain ⟨b,hb,h5⟩:=fine_tells f
      have:=hall f hf
      rw [hb] at this
      simp at this
      exact h5 this
    · rw [hf0] at hf
      injection hf with hf
      subst hf
      exact h3
  · refine ⟨false,?_,fun h=>by cases h⟩
    simp only [Bu,hI,pm_inr,po_of]
    rw [decide_eq_true (Int.natCast_nonneg n)]
    rfl
noncomputable def Db (a0 : Ae) (a1 : Int) : Option (Ae):=
  cond (a0.err == 0) (
  some (Ae.mk a0.p a0.e a0.fuel a0.used a1)) (
  some a0)
theorem Er {a0 : Ae} {a1 : Int} {r : Ae} (h : Db a0 a1 = some r) : Ctr prog 204 [.ref 0 0,ri a1] [(0,.box 259 (Ah a0))] (.tup []) [(0,.box 259 (Ah r))]:=by
 unfold Db at h;refine Ctr.ofW Bb func204 rfl call204 1 _ ntmps204 [] rfl rfl rfl (fun B=>?_);refine vs [0,1,8] fun _ k=>?_;push_cast;apply k;clear k;refine vc h (fun hb1 h=>?_) (fun hb1 h=>?_)
 ·refine vl fun _ k=>?_;push_cast;apply k;clear k;replace h:=Option.some.inj h;subst h;exact eN (by push_cast [hb1])
 ·refine VC.skip ?_;replace h:=Option.some.inj h;subst h;exact eN (by push_cast [hb1])
noncomputable def Ig (a0 : Ad) (a1 : Int) (s_1 : Ae) : Option (UInt32 × Ad × Ae):=
  pg (0 ≤ a1 ∧ a1 < 8) <|
  some ((a0.regs.get a1.toNat),a0,s_1)
noncomputable def Dx (a0 : Ad) (a0_r : Ae) (a1 : Int) : Option (UInt32 × Ad × Ae):=
  po (
  pg (0 ≤ a1 ∧ a1 < 8) <|
  cond (!(a0.set.get a1.toNat)) (
  po (Db a0_r 10) fun r4=>
  some r4) (
  some a0_r)) (fun x=>Ig a0 a1 x)
theorem Ih {a0 : Ad} {a0_r : Ae} {a1 : Int} {r : UInt32 × Ad × Ae} (h : Dx a0 a0_r a1 = some r) : Ctr prog 224 [.ref 0 0,ri a1] [(0,.box 283 (Ab a0 (.ref 1 0))),(1,.box 259 (Ah a0_r))] (ru r.1) [(0,.box 283 (Ab r.2.1 (.ref 1 0))),(1,.box 259 (Ah r.2.2))]:=by
 unfold Dx at h;refine Ctr.ofW Bb func224 rfl call224 2 _ ntmps224 [.tmp 4] rfl rfl rfl (fun B=>?_);refine vs [0,1] fun _ k=>?_;push_cast;apply k;clear k;refine vj h (fun x=>⟨[(0,.ref 0 0),(1,ri a1)],[(0,.box 283 (Ab a0 (.ref 1 0))),(1,.box 259 (Ah x))],15,23,2⟩) (fun v1 h hk1=>?_) ?_
 ·obtain ⟨hg2,h⟩:=Bs h;have hg2n : a1.toNat < 8:=by omega
  refine vs [0,1,11] fun _ k=>?_;push_cast [hg2,hg2n];(repeat refine ao ?_);apply k;clear k;refine vc h (fun hb3 h=>?_) (fun hb3 h=>?_)
  ·obtain ⟨r4,hr4,h⟩:=Aa h;refine vl fun _ k=>?_;push_cast;refine ch (H:=[(1,.box 259 (Ah a0_r))]) (Ctr.loH (Ctr.ren (Bij.swp 0 1 Bij.id) (Er hr4) (by push_cast) (by push_cast))) (by push_cast) ?_;push_cast;apply k;clear k;refine ar h hk1 ?_;exact sl (by push_cast [hb3])
  ·refine VC.skip ?_;refine ar h hk1 ?_;exact sl (by push_cast [hb3])
 ·rintro s_1 (h : Ig a0 a1 s_1 = some r);(try push_cast);unfold Ig at h;obtain ⟨hg5,h⟩:=Bs h;have hg5n : a1.toNat < 8:=by omega
  refine vs [4] fun _ k=>?_;push_cast [hg5,hg5n];(repeat refine ao ?_);apply k;clear k;refine VC.ret ?_;replace h:=Option.some.inj h;subst h;exact en (by push_cast)
noncomputable def Ek (a0 : Ad) (a0_r : Ae) (a1 : Int) (a2 : UInt32) : Option (Ad × Ae):=
  pg (0 ≤ a1 ∧ a1 < 8) <|
  pl (a0.regs.set a1.toNat a2) fun y2=>
  pl (a0.set.set a1.toNat true) fun y3=>
  some ((Ad.mk a0.fn a0.at_ y2 y3 a0.stack a0.over),a0_r)
theorem Kc {a0 : Ad} {a0_r : Ae} {a1 : Int} {a2 : UInt32} {r : Ad × Ae} (h : Ek a0 a0_r a1 a2 = some r) : Ctr prog 197 [.ref 0 0,ri a1,ru a2] [(0,.box 283 (Ab a0 (.ref 1 0))),(1,.box 259 (Ah a0_r))] (.tup []) [(0,.box 283 (Ab r.1 (.ref 1 0))),(1,.box 259 (Ah r.2))]:=by
 unfold Ek at h;refine Ctr.ofW Bb func197 rfl call197 2 _ ntmps197 [] rfl rfl rfl (fun B=>?_);obtain ⟨hg1,h⟩:=Bs h;have hg1n : a1.toNat < 8:=by omega
 obtain ⟨y2,hy2,h⟩:=Bn h;obtain ⟨y3,hy3,h⟩:=Bn h;refine vlD [some 6,some 7,some 8,some 9,some 10,some 11,some 12,some 13,none,some 14,some 15,some 16,none] fun _ k=>?_;refine Ce 8 fun _ l=>?_;push_cast [hg1,hg1n];(repeat refine ao ?_);apply l;clear l;simp only [List.drop_succ_cons,List.drop_zero];push_cast [hg1,hg1n];(repeat refine ao ?_);refine ⟨rfl,k _ ?_⟩;clear k;replace h:=Option.some.inj h;subst h;exact eN (by push_cast [hy2,hy3])
noncomputable def Fh (a0 : Ad) (a0_r : Ae) (a1 : Ap) : Option (UInt32 × Ad × Ae):=
  cond a1.Reg (
  po (Dx a0 a0_r a1.Src) fun r2=>
  some (r2.1,r2.2.1,r2.2.2)) (
  some (a1.Imm,a0,a0_r))
theorem Qp {a0 : Ad} {a0_r : Ae} {a1 : Ap} {r : UInt32 × Ad × Ae} (h : Fh a0 a0_r a1 = some r) : Ctr prog 223 [.ref 0 0,.agg (Aw a1)] [(0,.box 283 (Ab a0 (.ref 1 0))),(1,.box 259 (Ah a0_r))] (ru r.1) [(0,.box 283 (Ab r.2.1 (.ref 1 0))),(1,.box 259 (Ah r.2.2))]:=by
 unfold Fh at h;refine Ctr.ofW Bb func223 rfl call223 2 _ ntmps223 [.tmp 4] rfl rfl rfl (fun B=>?_);refine vs [0,3] fun _ k=>?_;push_cast;apply k;clear k;refine VC.seq ?_;refine vs [0,3,6] fun _ k=>?_;push_cast;apply k;clear k;refine vc h (fun hb1 h=>?_) (fun hb1 h=>?_)
 ·obtain ⟨r2,hr2,h⟩:=Aa h;refine vs [4] fun _ k=>?_;push_cast;refine ch (H:=[(0,.box 283 (Ab a0 (.ref 1 0))),(1,.box 259 (Ah a0_r))]) (Ctr.loH (Ctr.ren Bij.id (Ih hr2) (by push_cast) (by push_cast))) (by push_cast) ?_;push_cast;apply k;clear k;refine VC.sub (s':=⟨[(4,ru r2.1)],[(0,.box 283 (Ab r2.2.1 (.ref 1 0))),(1,.box 259 (Ah r2.2.2))],11,13,2⟩) (so (by push_cast [hb1])) ?_;refine VC.ret ?_;replace h:=Option.some.inj h;subst h;exact en (by push_cast [hb1])
 ·refine VC.skip ?_;refine vs [4] fun _ k=>?_;push_cast;apply k;clear k;refine VC.ret ?_;replace h:=Option.some.inj h;subst h;exact en (by push_cast [hb1])
noncomputable def Wn (a0 : UInt32) (a1 : UInt32) : Option (UInt32):=
  some a1
theorem Ft0 {a0 : UInt32} {a1 : UInt32} {r : UInt32} (h : Wn a0 a1 = some r) : Ctr prog 154 [ru a0,ru a1] [] (ru r) []:=by
 unfold Wn at h;refine Ctr.ofW Bb func154 rfl call154 0 _ ntmps154 [.tmp 4] rfl rfl rfl (fun B=>?_);refine vs [1] fun _ k=>?_;push_cast;apply k;clear k;refine vs [4] fun _ k=>?_;push_cast;apply k;clear k;refine VC.ret ?_;replace h:=Option.some.inj h;subst h;exact en (by push_cast)
noncomputable def Vv (a0 : UInt32) (a1 : UInt32) : Option (UInt32):=
  some (shl32 a0 (Int.tmod (a1.toNat : Int) 32))
theorem Er0 {a0 : UInt32} {a1 : UInt32} {r : UInt32} (h : Vv a0 a1 = some r) : Ctr prog 163 [ru a0,ru a1] [] (ru r) []:=by
 unfold Vv at h;refine Ctr.ofW Bb func163 rfl call163 0 _ ntmps163 [.tmp 4] rfl rfl rfl (fun B=>?_);refine vs [0,1] fun _ k=>?_;push_cast;apply k;clear k;refine vs [4] fun _ k=>?_;push_cast;apply k;clear k;refine VC.ret ?_;replace h:=Option.some.inj h;subst h;exact en (by push_cast)
noncomputable def Vw (a0 : UInt32) (a1 : UInt32) : Option (UInt32):=
  some (shr32 a0 (Int.tmod (a1.toNat : Int) 32))
theorem Ep0 {a0 : UInt32} {a1 : UInt32} {r : UInt32} (h : Vw a0 a1 = some r) : Ctr prog 164 [ru a0,ru a1] [] (ru r) []:=by
 unfold Vw at h;refine Ctr.ofW Bb func164 rfl call164 0 _ ntmps164 [.tmp 4] rfl rfl rfl (fun B=>?_);refine vs [0,1] fun _ k=>?_;push_cast;apply k;clear k;refine vs [4] fun _ k=>?_;push_cast;apply k;clear k;refine VC.ret ?_;replace h:=Option.some.inj h;subst h;exact en (by push_cast)
noncomputable def Xb (a0 : UInt32) (a1 : UInt32) : Option (UInt32):=
  some (a0 + a1)
theorem Fn0 {a0 : UInt32} {a1 : UInt32} {r : UInt32} (h : Xb a0 a1 = some r) : Ctr prog 155 [ru a0,ru a1] [] (ru r) []:=by
 unfold Xb at h;refine Ctr.ofW Bb func155 rfl call155 0 _ ntmps155 [.tmp 4] rfl rfl rfl (fun B=>?_);refine vs [0,1] fun _ k=>?_;push_cast;apply k;clear k;refine vs [4] fun _ k=>?_;push_cast;apply k;clear k;refine VC.ret ?_;replace h:=Option.some.inj h;subst h;exact en (by push_cast)
noncomputable def Wx (a0 : UInt32) (a1 : UInt32) : Option (UInt32):=
  some (a0 - a1)
theorem Fo0 {a0 : UInt32} {a1 : UInt32} {r : UInt32} (h : Wx a0 a1 = some r) : Ctr prog 156 [ru a0,ru a1] [] (ru r) []:=by
 unfold Wx at h;refine Ctr.ofW Bb func156 rfl call156 0 _ ntmps156 [.tmp 4] rfl rfl rfl (fun B=>?_);refine vs [0,1] fun _ k=>?_;push_cast;apply k;clear k;refine vs [4] fun _ k=>?_;push_cast;apply k;clear k;refine VC.ret ?_;replace h:=Option.some.inj h;subst h;exact en (by push_cast)
noncomputable def Wq (a0 : UInt32) (a1 : UInt32) : Option (UInt32):=
  some (a0 * a1)
theorem Fg0 {a0 : UInt32} {a1 : UInt32} {r : UInt32} (h : Wq a0 a1 = some r) : Ctr prog 157 [ru a0,ru a1] [] (ru r) []:=by
 unfold Wq at h;refine Ctr.ofW Bb func157 rfl call157 0 _ ntmps157 [.tmp 4] rfl rfl rfl (fun B=>?_);refine vs [0,1] fun _ k=>?_;push_cast;apply k;clear k;refine vs [4] fun _ k=>?_;push_cast;apply k;clear k;refine VC.ret ?_;replace h:=Option.some.inj h;subst h;exact en (by push_cast)
noncomputable def Ql (a0 : UInt32) (a1 : UInt32) : Option (UInt32):=
  cond ((a1.toNat : Int) == 0) (
  some 0) (
  pg ((a1.toNat : Int) ≠ 0) <|
  some (a0 / a1))
theorem Fk0 {a0 : UInt32} {a1 : UInt32} {r : UInt32} (h : Ql a0 a1 = some r) : Ctr prog 158 [ru a0,ru a1] [] (ru r) []:=by
 unfold Ql at h;refine Ctr.ofW Bb func158 rfl call158 0 _ ntmps158 [.tmp 4] rfl rfl rfl (fun B=>?_);refine vs [0,1] fun _ k=>?_;push_cast;apply k;clear k;refine VC.seq ?_;refine vs [0,1,6] fun _ k=>?_;push_cast;apply k;clear k;refine vc h (fun hb1 h=>?_) (fun hb1 h=>?_)
 ·refine vs [4] fun _ k=>?_;push_cast;apply k;clear k;refine VC.ret ?_;replace h:=Option.some.inj h;subst h;exact en (by push_cast [hb1])
 ·refine VC.skip ?_;obtain ⟨hg2,h⟩:=Bs h;refine vs [4] fun _ k=>?_;push_cast [hg2];(repeat refine ao ?_);apply k;clear k;refine VC.ret ?_;replace h:=Option.some.inj h;subst h;exact en (by push_cast [hb1])
noncomputable def Qk (a0 : UInt32) (a1 : UInt32) : Option (UInt32):=
  cond ((a1.toNat : Int) == 0) (
  some a0) (
  pg ((a1.toNat : Int) ≠ 0) <|
  some (a0 % a1))
theorem Fb0 {a0 : UInt32} {a1 : UInt32} {r : UInt32} (h : Qk a0 a1 = some r) : Ctr prog 159 [ru a0,ru a1] [] (ru r) []:=by
 unfold Qk at h;refine Ctr.ofW Bb func159 rfl call159 0 _ ntmps159 [.tmp 4] rfl rfl rfl (fun B=>?_);refine vs [0,1] fun _ k=>?_;push_cast;apply k;clear k;refine VC.seq ?_;refine vs [0,1,6] fun _ k=>?_;push_cast;apply k;clear k;refine vc h (fun hb1 h=>?_) (fun hb1 h=>?_)
 ·refine vs [4] fun _ k=>?_;push_cast;apply k;clear k;refine VC.ret ?_;replace h:=Option.some.inj h;subst h;exact en (by push_cast [hb1])
 ·refine VC.skip ?_;obtain ⟨hg2,h⟩:=Bs h;refine vs [4] fun _ k=>?_;push_cast [hg2];(repeat refine ao ?_);apply k;clear k;refine VC.ret ?_;replace h:=Option.some.inj h;subst h;exact en (by push_cast [hb1])
noncomputable def Wz (a0 : UInt32) (a1 : UInt32) : Option (UInt32):=
  some (a0 &&& a1)
theorem Fu0 {a0 : UInt32} {a1 : UInt32} {r : UInt32} (h : Wz a0 a1 = some r) : Ctr prog 160 [ru a0,ru a1] [] (ru r) []:=by
 unfold Wz at h;refine Ctr.ofW Bb func160 rfl call160 0 _ ntmps160 [.tmp 4] rfl rfl rfl (fun B=>?_);refine vs [0,1] fun _ k=>?_;push_cast;apply k;clear k;refine vs [4] fun _ k=>?_;push_cast;apply k;clear k;refine VC.ret ?_;replace h:=Option.some.inj h;subst h;exact en (by push_cast)
noncomputable def Wy (a0 : UInt32) (a1 : UInt32) : Option (UInt32):=
  some (a0 ||| a1)
theorem Fr0 {a0 : UInt32} {a1 : UInt32} {r : UInt32} (h : Wy a0 a1 = some r) : Ctr prog 161 [ru a0,ru a1] [] (ru r) []:=by
 unfold Wy at h;refine Ctr.ofW Bb func161 rfl call161 0 _ ntmps161 [.tmp 4] rfl rfl rfl (fun B=>?_);refine vs [0,1] fun _ k=>?_;push_cast;apply k;clear k;refine vs [4] fun _ k=>?_;push_cast;apply k;clear k;refine VC.ret ?_;replace h:=Option.some.inj h;subst h;exact en (by push_cast)
noncomputable def Ws (a0 : UInt32) (a1 : UInt32) : Option (UInt32):=
  some (a0 ^^^ a1)
theorem Fz0 {a0 : UInt32} {a1 : UInt32} {r : UInt32} (h : Ws a0 a1 = some r) : Ctr prog 162 [ru a0,ru a1] [] (ru r) []:=by
 unfold Ws at h;refine Ctr.ofW Bb func162 rfl call162 0 _ ntmps162 [.tmp 4] rfl rfl rfl (fun B=>?_);refine vs [0,1] fun _ k=>?_;push_cast;apply k;clear k;refine vs [4] fun _ k=>?_;push_cast;apply k;clear k;refine VC.ret ?_;replace h:=Option.some.inj h;subst h;exact en (by push_cast)
noncomputable def De0 : Option (Unit):=
  some ()
theorem Ho {r : Unit} (h : De0 = some r) : Ctr prog 116 [] [] (.agg [.fn (.func 154) [] [],.fn (.func 155) [] [],.fn (.func 156) [] [],.fn (.func 157) [] [],.fn (.func 158) [] [],.fn (.func 159) [] [],.fn (.func 160) [] [],.fn (.func 161) [] [],.fn (.func 162) [] [],.fn (.func 163) [] [],.fn (.func 164) [] []]) []:=by
 unfold De0 at h;refine Ctr.ofW Bb func116 rfl call116 0 _ ntmps116 [.cell 0 197] rfl rfl rfl (fun B=>?_);refine vs [0] fun _ k=>?_;push_cast (maxSteps:=9000000) [-Ay];apply k;clear k;refine vs [0] fun _ k=>?_;refine Af 8 fun _ l=>?_;push_cast (maxSteps:=9000000) [-Ay];apply l;clear l;simp only [List.drop_succ_cons,List.drop_zero];push_cast (maxSteps:=9000000) [-Ay];apply k;clear k;refine VC.ret ?_;replace h:=Option.some.inj h;subst h;exact en (by push_cast (maxSteps:=9000000) [-Ay])
noncomputable def Vz (a0 : Int) (a1 : UInt32) (a2 : UInt32) (i_1 : Bool) : Option (UInt32 × Bool):=
  cond i_1 (
  some (0,false)) (
  po (some ()) fun r5=>
  cond (a0 == 0) (
  po (Wn a1 a2) fun r7=>
  some (r7,true)) (
  cond (a0 == 1) (
  po (Xb a1 a2) fun r9=>
  some (r9,true)) (
  cond (a0 == 2) (
  po (Wx a1 a2) fun r11=>
  some (r11,true)) (
  cond (a0 == 3) (
  po (Wq a1 a2) fun r13=>
  some (r13,true)) (
  cond (a0 == 4) (
  po (Ql a1 a2) fun r15=>
  some (r15,true)) (
  cond (a0 == 5) (
  po (Qk a1 a2) fun r17=>
  some (r17,true)) (
  cond (a0 == 6) (
  po (Wz a1 a2) fun r19=>
  some (r19,true)) (
  cond (a0 == 7) (
  po (Wy a1 a2) fun r21=>
  some (r21,true)) (
  cond (a0 == 8) (
  po (Ws a1 a2) fun r23=>
  some (r23,true)) (
  cond (a0 == 9) (
  po (Vv a1 a2) fun r25=>
  some (r25,true)) (
  cond (a0 == 10) (
  po (Vw a1 a2) fun r27=>
  some (r27,true)) (
  none))))))))))))
noncomputable def Ue (a0 : Int) (a1 : UInt32) (a2 : UInt32) : Option (UInt32 × Bool):=
  po (
  cond (decide (a0 < 0)) (
  some true) (
  some (decide (a0 ≥ 11)))) (fun x=>Vz a0 a1 a2 x)
theorem Ji0 {a0 : Int} {a1 : UInt32} {a2 : UInt32} {r : UInt32 × Bool} (h : Ue a0 a1 a2 = some r) : Ctr prog 81 [ri a0,ru a1,ru a2] [] (.tup [ru r.1,rb r.2]) []:=by
 unfold Ue at h;refine Ctr.ofW Bb func81 rfl call81 0 _ ntmps81 [.tmp 6,.tmp 7] rfl rfl rfl (fun B=>?_);refine vs [0,1,2] fun _ k=>?_;push_cast;apply k;clear k;refine VC.seq ?_;refine vj h (fun x=>⟨[(0,ri a0),(1,ru a1),(2,ru a2),(13,rb x)],[],8,21,0⟩) (fun v1 h hk1=>?_) ?_
 ·rcases bt (decide (a0 < 0)) with hb2 | hb2
  ·replace h:=Ao hb2 h;refine vlG [some 8,some 9,some 10,some 11,some 12,some 13] fun _ k=>?_;push_cast [hb2];(repeat refine ao ?_);apply k;clear k;refine ar h hk1 ?_;exact sl (by push_cast [hb2])
  ·replace h:=Av hb2 h;refine vlG [some 8,some 9,some 10,some 11,some 12,some 13] fun _ k=>?_;push_cast [hb2];(repeat refine ao ?_);apply k;clear k;refine ar h hk1 ?_;exact sl (by push_cast [hb2])
 ·rintro i_1 (h : Vz a0 a1 a2 i_1 = some r);(try push_cast);unfold Vz at h;refine vc h (fun hb3 h=>?_) (fun hb3 h=>?_)
  ·refine vs [6,7] fun _ k=>?_;push_cast;apply k;clear k;refine VC.ret ?_;replace h:=Option.some.inj h;subst h;exact en (by push_cast [hb3])
  ·refine VC.skip ?_;obtain ⟨r5,hr5,h⟩:=Aa h;rcases bt (a0 == 0) with hb6 | hb6
   ·replace h:=Ao hb6 h;have hb6e : a0 = 0:=by simpa using hb6
    have hb6n : a0.toNat = 0:=by omega
    obtain ⟨r7,hr7,h⟩:=Aa h;refine vs [6,7] fun _ k=>?_;push_cast [hb6n];(repeat refine ao ?_);refine cp (Ho hr5) ?_;push_cast [hb6n];(repeat refine ao ?_);refine cp (Ft0 hr7) ?_;push_cast [hb6n];(repeat refine ao ?_);apply k;clear k;refine VC.ret ?_;replace h:=Option.some.inj h;subst h;exact en (by push_cast [hb3])
   ·replace h:=Av hb6 h;rcases bt (a0 == 1) with hb8 | hb8
    ·replace h:=Ao hb8 h;have hb8e : a0 = 1:=by simpa using hb8
     have hb8n : a0.toNat = 1:=by omega
     obtain ⟨r9,hr9,h⟩:=Aa h;refine vs [6,7] fun _ k=>?_;push_cast [hb8n];(repeat refine ao ?_);refine cp (Ho hr5) ?_;push_cast [hb8n];(repeat refine ao ?_);refine cp (Fn0 hr9) ?_;push_cast [hb8n];(repeat refine ao ?_);apply k;clear k;refine VC.ret ?_;replace h:=Option.some.inj h;subst h;exact en (by push_cast [hb3])
    ·replace h:=Av hb8 h;rcases bt (a0 == 2) with hb10 | hb10
     ·replace h:=Ao hb10 h;have hb10e : a0 = 2:=by simpa using hb10
      have hb10n : a0.toNat = 2:=by omega
      obtain ⟨r11,hr11,h⟩:=Aa h;refine vs [6,7] fun _ k=>?_;push_cast [hb10n];(repeat refine ao ?_);refine cp (Ho hr5) ?_;push_cast [hb10n];(repeat refine ao ?_);refine cp (Fo0 hr11) ?_;push_cast [hb10n];(repeat refine ao ?_);apply k;clear k;refine VC.ret ?_;replace h:=Option.some.inj h;subst h;exact en (by push_cast [hb3])
     ·replace h:=Av hb10 h;rcases bt (a0 == 3) with hb12 | hb12
      ·replace h:=Ao hb12 h;have hb12e : a0 = 3:=by simpa using hb12
       have hb12n : a0.toNat = 3:=by omega
       obtain ⟨r13,hr13,h⟩:=Aa h;refine vs [6,7] fun _ k=>?_;push_cast [hb12n];(repeat refine ao ?_);refine cp (Ho hr5) ?_;push_cast [hb12n];(repeat refine ao ?_);refine cp (Fg0 hr13) ?_;push_cast [hb12n];(repeat refine ao ?_);apply k;clear k;refine VC.ret ?_;replace h:=Option.some.inj h;subst h;exact en (by push_cast [hb3])
      ·replace h:=Av hb12 h;rcases bt (a0 == 4) with hb14 | hb14
       ·replace h:=Ao hb14 h;have hb14e : a0 = 4:=by simpa using hb14
        have hb14n : a0.toNat = 4:=by omega
        obtain ⟨r15,hr15,h⟩:=Aa h;refine vs [6,7] fun _ k=>?_;push_cast [hb14n];(repeat refine ao ?_);refine cp (Ho hr5) ?_;push_cast [hb14n];(repeat refine ao ?_);refine cp (Fk0 hr15) ?_;push_cast [hb14n];(repeat refine ao ?_);apply k;clear k;refine VC.ret ?_;replace h:=Option.some.inj h;subst h;exact en (by push_cast [hb3])
       ·replace h:=Av hb14 h;rcases bt (a0 == 5) with hb16 | hb16
        ·replace h:=Ao hb16 h;have hb16e : a0 = 5:=by simpa using hb16
         have hb16n : a0.toNat = 5:=by omega
         obtain ⟨r17,hr17,h⟩:=Aa h;refine vs [6,7] fun _ k=>?_;push_cast [hb16n];(repeat refine ao ?_);refine cp (Ho hr5) ?_;push_cast [hb16n];(repeat refine ao ?_);refine cp (Fb0 hr17) ?_;push_cast [hb16n];(repeat refine ao ?_);apply k;clear k;refine VC.ret ?_;replace h:=Option.some.inj h;subst h;exact en (by push_cast [hb3])
        ·replace h:=Av hb16 h;rcases bt (a0 == 6) with hb18 | hb18
         ·replace h:=Ao hb18 h;have hb18e : a0 = 6:=by simpa using hb18
          have hb18n : a0.toNat = 6:=by omega
          obtain ⟨r19,hr19,h⟩:=Aa h;refine vs [6,7] fun _ k=>?_;push_cast [hb18n];(repeat refine ao ?_);refine cp (Ho hr5) ?_;push_cast [hb18n];(repeat refine ao ?_);refine cp (Fu0 hr19) ?_;push_cast [hb18n];(repeat refine ao ?_);apply k;clear k;refine VC.ret ?_;replace h:=Option.some.inj h;subst h;exact en (by push_cast [hb3])
         ·replace h:=Av hb18 h;rcases bt (a0 == 7) with hb20 | hb20
          ·replace h:=Ao hb20 h;have hb20e : a0 = 7:=by simpa using hb20
           have hb20n : a0.toNat = 7:=by omega
           obtain ⟨r21,hr21,h⟩:=Aa h;refine vs [6,7] fun _ k=>?_;push_cast [hb20n];(repeat refine ao ?_);refine cp (Ho hr5) ?_;push_cast [hb20n];(repeat refine ao ?_);refine cp (Fr0 hr21) ?_;push_cast [hb20n];(repeat refine ao ?_);apply k;clear k;refine VC.ret ?_;replace h:=Option.some.inj h;subst h;exact en (by push_cast [hb3])
          ·replace h:=Av hb20 h;rcases bt (a0 == 8) with hb22 | hb22
           ·replace h:=Ao hb22 h;have hb22e : a0 = 8:=by simpa using hb22
            have hb22n : a0.toNat = 8:=by omega
            obtain ⟨r23,hr23,h⟩:=Aa h;refine vs [6,7] fun _ k=>?_;push_cast [hb22n];(repeat refine ao ?_);refine cp (Ho hr5) ?_;push_cast [hb22n];(repeat refine ao ?_);refine cp (Fz0 hr23) ?_;push_cast [hb22n];(repeat refine ao ?_);apply k;clear k;refine VC.ret ?_;replace h:=Option.some.inj h;subst h;exact en (by push_cast [hb3])
           ·replace h:=Av hb22 h;rcases bt (a0 == 9) with hb24 | hb24
            ·replace h:=Ao hb24 h;have hb24e : a0 = 9:=by simpa using hb24
             have hb24n : a0.toNat = 9:=by omega
             obtain ⟨r25,hr25,h⟩:=Aa h;refine vs [6,7] fun _ k=>?_;push_cast [hb24n];(repeat refine ao ?_);refine cp (Ho hr5) ?_;push_cast [hb24n];(repeat refine ao ?_);refine cp (Er0 hr25) ?_;push_cast [hb24n];(repeat refine ao ?_);apply k;clear k;refine VC.ret ?_;replace h:=Option.some.inj h;subst h;exact en (by push_cast [hb3])
            ·replace h:=Av hb24 h;rcases bt (a0 == 10) with hb26 | hb26
             ·replace h:=Ao hb26 h;have hb26e : a0 = 10:=by simpa using hb26
              have hb26n : a0.toNat = 10:=by omega
              obtain ⟨r27,hr27,h⟩:=Aa h;refine vs [6,7] fun _ k=>?_;push_cast [hb26n];(repeat refine ao ?_);refine cp (Ho hr5) ?_;push_cast [hb26n];(repeat refine ao ?_);refine cp (Ep0 hr27) ?_;push_cast [hb26n];(repeat refine ao ?_);apply k;clear k;refine VC.ret ?_;replace h:=Option.some.inj h;subst h;exact en (by push_cast [hb3])
             ·replace h:=Av hb26 h;cases h
noncomputable def Hy (a1 : Ap) (r1 : UInt32 × Ad × Ae) (s_1 : Ad) (s_2 : Ae) (i_3 : UInt32) : Option (Ad × Ae):=
  po (Ue a1.Fn i_3 r1.1) fun r5=>
  po (Ek s_1 s_2 a1.Dst r5.1) fun r6=>
  some (r6.1,r6.2)
noncomputable def Ij (a0 : Ad) (a0_r : Ae) (a1 : Ap) : Option (Ad × Ae):=
  po (Fh a0 a0_r a1) fun r1=>
  po (
  cond (a1.Fn != 0) (
  po (Dx r1.2.1 r1.2.2 a1.Dst) fun r4=>
  some (r4.2.1,r4.2.2,r4.1)) (
  some (r1.2.1,r1.2.2,0))) (fun x=>Hy a1 r1 x.1 x.2.1 x.2.2)
theorem Cn0 {a0 : Ad} {a0_r : Ae} {a1 : Ap} {r : Ad × Ae} (h : Ij a0 a0_r a1 = some r) : Ctr prog 198 [.ref 0 0,.agg (Aw a1)] [(0,.box 283 (Ab a0 (.ref 1 0))),(1,.box 259 (Ah a0_r))] (.tup []) [(0,.box 283 (Ab r.1 (.ref 1 0))),(1,.box 259 (Ah r.2))]:=by
 unfold Ij at h;refine Ctr.ofW Bb func198 rfl call198 2 _ ntmps198 [] rfl rfl rfl (fun B=>?_);refine vs [0,3] fun _ k=>?_;push_cast;apply k;clear k;obtain ⟨r1,hr1,h⟩:=Aa h;refine vs [0,3,4] fun _ k=>?_;push_cast;refine ch (H:=[(0,.box 283 (Ab a0 (.ref 1 0))),(1,.box 259 (Ah a0_r))]) (Ctr.loH (Ctr.ren Bij.id (Qp hr1) (by push_cast) (by push_cast))) (by push_cast) ?_;push_cast;apply k;clear k;refine VC.sub (s':=⟨[(0,.ref 0 0),(3,.ref 2 0),(4,ru r1.1)],[(0,.box 283 (Ab r1.2.1 (.ref 1 0))),(1,.box 259 (Ah r1.2.2)),(2,.box 37 (Aw a1))],7,31,2⟩) (so (by push_cast)) ?_;refine vs [0,3,4,5] fun _ k=>?_;push_cast;apply k;clear k;refine vj h (fun x=>⟨[(0,.ref 0 0),(3,.ref 2 0),(4,ru r1.1),(5,ru x.2.2)],[(0,.box 283 (Ab x.1 (.ref 1 0))),(1,.box 259 (Ah x.2.1)),(2,.box 37 (Aw a1))],16,31,2⟩) (fun v2 h hk2=>?_) ?_
 ·refine vs [0,3,4,5,13] fun _ k=>?_;push_cast;apply k;clear k;refine vc h (fun hb3 h=>?_) (fun hb3 h=>?_)
  ·obtain ⟨r4,hr4,h⟩:=Aa h;refine vl fun _ k=>?_;push_cast;refine ch (H:=[(0,.box 283 (Ab r1.2.1 (.ref 1 0))),(1,.box 259 (Ah r1.2.2))]) (Ctr.loH (Ctr.ren Bij.id (Ih hr4) (by push_cast) (by push_cast))) (by push_cast) ?_;push_cast;apply k;clear k;refine ar h hk2 ?_;exact sl (by push_cast [hb3])
  ·refine VC.skip ?_;refine ar h hk2 ?_;exact sl (by push_cast [hb3])
 ·rintro ⟨s_1,s_2,i_3⟩ (h : Hy a1 r1 s_1 s_2 i_3 = some r);(try push_cast);unfold Hy at h;obtain ⟨r5,hr5,h⟩:=Aa h;refine vs [0,3,6] fun _ k=>?_;push_cast;refine cp (Ji0 hr5) ?_;push_cast;apply k;clear k;obtain ⟨r6,hr6,h⟩:=Aa h;refine vl fun _ k=>?_;push_cast;refine ch (H:=[(0,.box 283 (Ab s_1 (.ref 1 0))),(1,.box 259 (Ah s_2))]) (Ctr.loH (Ctr.ren Bij.id (Kc hr6) (by push_cast) (by push_cast))) (by push_cast) ?_;push_cast;apply k;clear k;replace h:=Option.some.inj h;subst h;exact eN (by push_cast)
noncomputable def Oc (a0 : Int) (a1 : UInt32) (a2 : UInt32) : Option (Bool × Bool):=
  cond (a0 == 0) (
  some (true,true)) (
  cond (a0 == 1) (
  some (((a1.toNat : Int) == (a2.toNat : Int)),true)) (
  cond (a0 == 2) (
  some (((a1.toNat : Int) != (a2.toNat : Int)),true)) (
  cond (a0 == 3) (
  some ((decide (a1.toNat < a2.toNat)),true)) (
  cond (a0 == 4) (
  some ((decide (a1.toNat ≥ a2.toNat)),true)) (
  some (false,false))))))
theorem Hl0 {a0 : Int} {a1 : UInt32} {a2 : UInt32} {r : Bool × Bool} (h : Oc a0 a1 a2 = some r) : Ctr prog 83 [ri a0,ru a1,ru a2] [] (.tup [rb r.1,rb r.2]) []:=by
 unfold Oc at h;refine Ctr.ofW Bb func83 rfl call83 0 _ ntmps83 [.tmp 6,.tmp 7] rfl rfl rfl (fun B=>?_);refine vs [0,1,2] fun _ k=>?_;push_cast;apply k;clear k;refine VC.seq ?_;refine vs [1,2,8] fun _ k=>?_;push_cast;apply k;clear k;refine VC.block ?_;refine vs [1,2,8,9] fun _ k=>?_;push_cast;apply k;clear k;refine vc h (fun hb1 h=>?_) (fun hb1 h=>?_)
 ·refine vs [6,7] fun _ k=>?_;push_cast;apply k;clear k;refine VC.ret ?_;replace h:=Option.some.inj h;subst h;exact en (by push_cast [hb1])
 ·refine vs [1,2,8,11] fun _ k=>?_;push_cast;apply k;clear k;refine vc h (fun hb2 h=>?_) (fun hb2 h=>?_)
  ·refine vs [6,7] fun _ k=>?_;push_cast;apply k;clear k;refine VC.ret ?_;replace h:=Option.some.inj h;subst h;exact en (by push_cast [hb1,hb2])
  ·refine vs [1,2,8,16] fun _ k=>?_;push_cast;apply k;clear k;refine vc h (fun hb3 h=>?_) (fun hb3 h=>?_)
   ·refine vs [6,7] fun _ k=>?_;push_cast;apply k;clear k;refine VC.ret ?_;replace h:=Option.some.inj h;subst h;exact en (by push_cast [hb1,hb2,hb3])
   ·refine vs [1,2,8,21] fun _ k=>?_;push_cast;apply k;clear k;refine vc h (fun hb4 h=>?_) (fun hb4 h=>?_)
    ·refine vs [6,7] fun _ k=>?_;push_cast;apply k;clear k;refine VC.ret ?_;replace h:=Option.some.inj h;subst h;exact en (by push_cast [hb1,hb2,hb3,hb4])
    ·refine vs [1,2,26] fun _ k=>?_;push_cast;apply k;clear k;refine vc h (fun hb5 h=>?_) (fun hb5 h=>?_)
     ·refine vs [6,7] fun _ k=>?_;push_cast;apply k;clear k;refine VC.ret ?_;replace h:=Option.some.inj h;subst h;exact en (by push_cast [hb1,hb2,hb3,hb4,hb5])
     ·refine VC.skip ?_;refine vs [6,7] fun _ k=>?_;push_cast;apply k;clear k;refine VC.ret ?_;replace h:=Option.some.inj h;subst h;exact en (by push_cast [hb1,hb2,hb3,hb4,hb5])
noncomputable def Hj (a0 : Ad) (a0_r : Ae) (a1 : Ap) : Option (Ad × Ae):=
  cond (a1.Fn == 0) (
  some ((Ad.mk a0.fn (IntKind.i64.wrap (a0.at_ + a1.Off)) a0.regs a0.set a0.stack a0.over),a0_r)) (
  po (Dx a0 a0_r a1.Dst) fun r2=>
  po (Fh r2.2.1 r2.2.2 a1) fun r3=>
  po (Oc a1.Fn r2.1 r3.1) fun r4=>
  cond r4.1 (
  some ((Ad.mk r3.2.1.fn (IntKind.i64.wrap (r3.2.1.at_ + a1.Off)) r3.2.1.regs r3.2.1.set r3.2.1.stack r3.2.1.over),r3.2.2)) (
  some (r3.2.1,r3.2.2)))
theorem By0 {a0 : Ad} {a0_r : Ae} {a1 : Ap} {r : Ad × Ae} (h : Hj a0 a0_r a1 = some r) : Ctr prog 199 [.ref 0 0,.agg (Aw a1)] [(0,.box 283 (Ab a0 (.ref 1 0))),(1,.box 259 (Ah a0_r))] (.tup []) [(0,.box 283 (Ab r.1 (.ref 1 0))),(1,.box 259 (Ah r.2))]:=by
 unfold Hj at h;refine Ctr.ofW Bb func199 rfl call199 2 _ ntmps199 [] rfl rfl rfl (fun B=>?_);refine vs [0,3] fun _ k=>?_;push_cast;apply k;clear k;refine VC.seq ?_;refine vs [0,3,8] fun _ k=>?_;push_cast;apply k;clear k;refine vc h (fun hb1 h=>?_) (fun hb1 h=>?_)
 ·refine vsD [some 9,some 10,some 11,some 12,some 13,some 14,some 15,some 16,some 17,none] [] fun _ k=>?_;push_cast;refine ⟨rfl,k _ ?_⟩;clear k;refine VC.ret ?_;replace h:=Option.some.inj h;subst h;exact en (by push_cast [hb1])
 ·refine VC.skip ?_;obtain ⟨r2,hr2,h⟩:=Aa h;obtain ⟨r3,hr3,h⟩:=Aa h;obtain ⟨r4,hr4,h⟩:=Aa h;refine vsD [some 19,some 20,some 21,some 22,some 23,some 24,some 25,some 26,some 27,some 28,some 18,some 29,some 30,some 4,some 5] [0,3,4] fun _ k=>?_;refine Ce 8 fun _ l=>?_;push_cast;refine chD (H:=[(0,.box 283 (Ab a0 (.ref 1 0))),(1,.box 259 (Ah a0_r))]) (Ctr.loH (Ctr.ren Bij.id (Ih hr2) (by push_cast) (by push_cast))) (by push_cast) ?_;push_cast;apply l;clear l;simp only [List.drop_succ_cons,List.drop_zero];push_cast;refine chD (H:=[(0,.box 283 (Ab r2.2.1 (.ref 1 0))),(1,.box 259 (Ah r2.2.2))]) (Ctr.loH (Ctr.ren Bij.id (Qp hr3) (by push_cast) (by push_cast))) (by push_cast) ?_;push_cast;refine cpD (Hl0 hr4) ?_;push_cast;refine ⟨rfl,k _ ?_⟩;clear k;refine VC.sub (s':=⟨[(0,.ref 0 0),(3,.ref 2 0),(4,rb r4.1)],[(0,.box 283 (Ab r3.2.1 (.ref 1 0))),(1,.box 259 (Ah r3.2.2)),(2,.box 37 (Aw a1))],21,41,2⟩) (so (by push_cast [hb1])) ?_;refine vs [0,3,31] fun _ k=>?_;push_cast;apply k;clear k;refine vc h (fun hb5 h=>?_) (fun hb5 h=>?_)
  ·refine vlD [some 32,some 33,some 34,some 35,some 36,some 37,some 38,some 39,some 40,none] fun _ k=>?_;push_cast;refine ⟨rfl,k _ ?_⟩;clear k;replace h:=Option.some.inj h;subst h;exact eN (by push_cast [hb1,hb5])
  ·refine VC.skip ?_;replace h:=Option.some.inj h;subst h;exact eN (by push_cast [hb1,hb5])
noncomputable def Dj (a0 : Ad) (a0_r : Ae) (a1 : Ap) : Option (Ad × Ae):=
  pg (0 ≤ 0 ∧ 0 ≤ 16 ∧ 16 ≤ 16) <|
  po (Fh a0 a0_r a1) fun r2=>
  cond (a1.Op == 2) (
  pg (0 ≤ 0 ∧ 0 ≤ 4 ∧ 4 ≤ 4) <|
  cond (decide ((IntKind.u64.wrap (r2.1.toNat : Int)) ≥ 4)) (
  po (Db r2.2.2 10) fun r6=>
  some (r2.2.1,r6)) (
  pg (r2.1.toNat < 4) <|
  pl ((r2.2.2.e.Ctx.get r2.1.toNat)) fun c8=>
  po (Ek r2.2.1 r2.2.2 a1.Dst c8) fun r9=>
  some (r9.1,r9.2))) (
  cond (a1.Op == 3) (
  cond (decide ((IntKind.u64.wrap (r2.1.toNat : Int)) ≥ 16)) (
  po (Db r2.2.2 10) fun r12=>
  some (r2.2.1,r12)) (
  pg (r2.1.toNat < 16) <|
  pl ((r2.2.1.stack.get r2.1.toNat)) fun c14=>
  po (Ek r2.2.1 r2.2.2 a1.Dst c14) fun r15=>
  some (r15.1,r15.2))) (
  cond (a1.Op == 4) (
  po (Dx r2.2.1 r2.2.2 a1.Dst) fun r17=>
  cond (decide ((IntKind.u64.wrap (r2.1.toNat : Int)) ≥ 16)) (
  po (Db r17.2.2 10) fun r19=>
  some (r17.2.1,r19)) (
  pg (r2.1.toNat < 16) <|
  pl (r17.2.1.stack.set r2.1.toNat r17.1) fun y21=>
  some ((Ad.mk r17.2.1.fn r17.2.1.at_ r17.2.1.regs r17.2.1.set y21 r17.2.1.over),r17.2.2))) (
  some (r2.2.1,r2.2.2))))
theorem Qg {a0 : Ad} {a0_r : Ae} {a1 : Ap} {r : Ad × Ae} (h : Dj a0 a0_r a1 = some r) : Ctr prog 200 [.ref 0 0,.agg (Aw a1)] [(0,.box 283 (Ab a0 (.ref 1 0))),(1,.box 259 (Ah a0_r))] (.tup []) [(0,.box 283 (Ab r.1 (.ref 1 0))),(1,.box 259 (Ah r.2))]:=by
 unfold Dj at h;refine Ctr.ofW Bb func200 rfl call200 2 _ ntmps200 [] rfl rfl rfl (fun B=>?_);refine vs [0,3] fun _ k=>?_;push_cast;apply k;clear k;obtain ⟨hg1,h⟩:=Bs h;refine vs [0,3,4] fun _ k=>?_;push_cast [hg1];(repeat refine ao ?_);apply k;clear k;refine VC.sub (s':=⟨[(0,.ref 0 0),(3,.ref 2 0),(4,.bsl 0 19 16)],[(0,.box 283 (Ab a0 (.ref 1 0))),(1,.box 259 (Ah a0_r)),(2,.box 37 (Aw a1))],8,68,2⟩) (so (by push_cast)) ?_;obtain ⟨r2,hr2,h⟩:=Aa h;refine vs [0,3,4,5] fun _ k=>?_;push_cast;refine ch (H:=[(0,.box 283 (Ab a0 (.ref 1 0))),(1,.box 259 (Ah a0_r))]) (Ctr.loH (Ctr.ren Bij.id (Qp hr2) (by push_cast) (by push_cast))) (by push_cast) ?_;push_cast;apply k;clear k;refine VC.sub (s':=⟨[(0,.ref 0 0),(3,.ref 2 0),(4,.bsl 0 19 16),(5,ru r2.1)],[(0,.box 283 (Ab r2.2.1 (.ref 1 0))),(1,.box 259 (Ah r2.2.2)),(2,.box 37 (Aw a1))],12,68,2⟩) (so (by push_cast)) ?_;refine vs [0,3,4,5,15] fun _ k=>?_;push_cast;apply k;clear k;refine VC.block ?_;refine VC.seq ?_;refine VC.block ?_;refine VC.seq ?_;refine VC.block ?_;refine VC.seq ?_;refine VC.block ?_;refine VC.seq ?_;refine VC.seq ?_;refine vs [0,3,4,5,15,16] fun _ k=>?_;push_cast;apply k;clear k;refine vc h (fun hb3 h=>?_) (fun hb3 h=>?_)
 ·refine VC.exit ?_;obtain ⟨hg4,h⟩:=Bs h;refine vl fun _ k=>?_;push_cast [hg4];(repeat refine ao ?_);apply k;clear k;refine VC.seq ?_;refine VC.seq ?_;refine vs [0,3,4,5,35] fun _ k=>?_;push_cast;apply k;clear k;refine vc h (fun hb5 h=>?_) (fun hb5 h=>?_)
  ·obtain ⟨r6,hr6,h⟩:=Aa h;refine vs [] fun _ k=>?_;push_cast;refine ch (H:=[(1,.box 259 (Ah r2.2.2))]) (Ctr.loH (Ctr.ren (Bij.swp 0 1 Bij.id) (Er hr6) (by push_cast) (by push_cast))) (by push_cast) ?_;push_cast;apply k;clear k;refine VC.sub (s':=⟨[],[(0,.box 283 (Ab r2.2.1 (.ref 1 0))),(1,.box 259 (Ah r6))],36,68,2⟩) (so (by push_cast [hb3,hb5])) ?_;refine VC.ret ?_;replace h:=Option.some.inj h;subst h;exact en (by push_cast [hb3,hb5])
  ·refine VC.skip ?_;obtain ⟨hg7,h⟩:=Bs h;obtain ⟨c8,hc8,h⟩:=Bn h;have hc8i : (((r2.2.2.e.Ctx.get r2.1.toNat)).toNat : Int) = (c8.toNat : Int):=by rw [hc8]
   push_cast at hc8i;obtain ⟨r9,hr9,h⟩:=Aa h;refine vlD [some 41,some 42,some 43,some 44,some 45,some 46,some 47,some 48] fun _ k=>?_;push_cast [hg7,hc8i];(repeat refine ao ?_);refine chD (H:=[(0,.box 283 (Ab r2.2.1 (.ref 1 0))),(1,.box 259 (Ah r2.2.2))]) (Ctr.loH (Ctr.ren Bij.id (Kc hr9) (by push_cast [hg7,hc8i]) (by push_cast [hg7,hc8i]))) (by push_cast [hg7,hc8i]) ?_;push_cast [hg7,hc8i];(repeat refine ao ?_);refine ⟨rfl,k _ ?_⟩;clear k;refine VC.exit ?_;replace h:=Option.some.inj h;subst h;exact eN (by push_cast [hb3,hb5,hc8i])
 ·refine VC.skip ?_;refine VC.seq ?_;refine vs [0,3,4,5,15,18] fun _ k=>?_;push_cast;apply k;clear k;refine vc h (fun hb10 h=>?_) (fun hb10 h=>?_)
  ·refine VC.exit ?_;refine VC.seq ?_;refine VC.seq ?_;refine vs [0,3,4,5,35] fun _ k=>?_;push_cast;apply k;clear k;refine vc h (fun hb11 h=>?_) (fun hb11 h=>?_)
   ·obtain ⟨r12,hr12,h⟩:=Aa h;refine vs [] fun _ k=>?_;push_cast;refine ch (H:=[(1,.box 259 (Ah r2.2.2))]) (Ctr.loH (Ctr.ren (Bij.swp 0 1 Bij.id) (Er hr12) (by push_cast) (by push_cast))) (by push_cast) ?_;push_cast;apply k;clear k;refine VC.sub (s':=⟨[],[(0,.box 283 (Ab r2.2.1 (.ref 1 0))),(1,.box 259 (Ah r12))],29,68,2⟩) (so (by push_cast [hb3,hb10,hb11])) ?_;refine VC.ret ?_;replace h:=Option.some.inj h;subst h;exact en (by push_cast [hb3,hb10,hb11])
   ·refine VC.skip ?_;obtain ⟨hg13,h⟩:=Bs h;obtain ⟨c14,hc14,h⟩:=Bn h;have hc14i : (((r2.2.1.stack.get r2.1.toNat)).toNat : Int) = (c14.toNat : Int):=by rw [hc14]
    push_cast at hc14i;obtain ⟨r15,hr15,h⟩:=Aa h;refine vlD [some 41,some 42,some 43,some 44,some 45,some 46,some 47,some 48] fun _ k=>?_;push_cast [hg13,hc14i];(repeat refine ao ?_);refine chD (H:=[(0,.box 283 (Ab r2.2.1 (.ref 1 0))),(1,.box 259 (Ah r2.2.2))]) (Ctr.loH (Ctr.ren Bij.id (Kc hr15) (by push_cast [hg13,hc14i]) (by push_cast [hg13,hc14i]))) (by push_cast [hg13,hc14i]) ?_;push_cast [hg13,hc14i];(repeat refine ao ?_);refine ⟨rfl,k _ ?_⟩;clear k;refine VC.exit ?_;replace h:=Option.some.inj h;subst h;exact eN (by push_cast [hb3,hb10,hb11,hc14i])
  ·refine VC.skip ?_;refine vs [0,3,4,5,20] fun _ k=>?_;push_cast;apply k;clear k;refine vc h (fun hb16 h=>?_) (fun hb16 h=>?_)
   ·refine VC.exit ?_;refine VC.seq ?_;obtain ⟨r17,hr17,h⟩:=Aa h;refine vs [0,4,5,6] fun _ k=>?_;push_cast;refine ch (H:=[(0,.box 283 (Ab r2.2.1 (.ref 1 0))),(1,.box 259 (Ah r2.2.2))]) (Ctr.loH (Ctr.ren Bij.id (Ih hr17) (by push_cast) (by push_cast))) (by push_cast) ?_;push_cast;apply k;clear k;refine VC.sub (s':=⟨[(0,.ref 0 0),(4,.bsl 0 19 16),(5,ru r2.1),(6,ru r17.1)],[(0,.box 283 (Ab r17.2.1 (.ref 1 0))),(1,.box 259 (Ah r17.2.2))],25,68,2⟩) (so (by push_cast [hb3,hb10,hb16])) ?_;refine VC.seq ?_;refine vs [0,4,5,6,58] fun _ k=>?_;push_cast;apply k;clear k;refine vc h (fun hb18 h=>?_) (fun hb18 h=>?_)
    ·obtain ⟨r19,hr19,h⟩:=Aa h;refine vs [] fun _ k=>?_;push_cast;refine ch (H:=[(1,.box 259 (Ah r17.2.2))]) (Ctr.loH (Ctr.ren (Bij.swp 0 1 Bij.id) (Er hr19) (by push_cast) (by push_cast))) (by push_cast) ?_;push_cast;apply k;clear k;refine VC.sub (s':=⟨[],[(0,.box 283 (Ab r17.2.1 (.ref 1 0))),(1,.box 259 (Ah r19))],36,68,2⟩) (so (by push_cast [hb3,hb10,hb16,hb18])) ?_;refine VC.ret ?_;replace h:=Option.some.inj h;subst h;exact en (by push_cast [hb3,hb10,hb16,hb18])
    ·refine VC.skip ?_;obtain ⟨hg20,h⟩:=Bs h;obtain ⟨y21,hy21,h⟩:=Bn h;refine vl fun _ k=>?_;push_cast [hg20];(repeat refine ao ?_);apply k;clear k;refine VC.exit ?_;replace h:=Option.some.inj h;subst h;exact eN (by push_cast [hb3,hb10,hb16,hb18,hy21])
   ·refine VC.skip ?_;refine VC.exit ?_;replace h:=Option.some.inj h;subst h;exact eN (by push_cast [hb3,hb10,hb16])
noncomputable def Hn (r1 : Ad × Ae) (s_1 : Ad) (i_2 : Int) : Option ((Ad × Int) ⊕ (Ad × Ae)):=
  cond (decide (i_2 ≤ 5)) (
  pg (0 ≤ i_2 ∧ i_2 < 8) <|
  pl (s_1.regs.set i_2.toNat 0) fun y5=>
  pl (s_1.set.set i_2.toNat false) fun y6=>
  some (Sum.inl ((Ad.mk s_1.fn s_1.at_ y5 y6 s_1.stack s_1.over),(IntKind.i64.wrap (i_2 + 1))))) (
  some (Sum.inr (s_1,r1.2)))
noncomputable def Hg (a0 : Ad) (a0_r : Ae) (a1 : UInt32) : Option (Ad × Ae):=
  po (Ek a0 a0_r 0 a1) fun r1=>
  lpU (fun x=>Hn r1 x.1 x.2) (r1.1,1)
theorem Vi {a0 : Ad} {a0_r : Ae} {a1 : UInt32} {r : Ad × Ae} (h : Hg a0 a0_r a1 = some r) : Ctr prog 226 [.ref 0 0,ru a1] [(0,.box 283 (Ab a0 (.ref 1 0))),(1,.box 259 (Ah a0_r))] (.tup []) [(0,.box 283 (Ab r.1 (.ref 1 0))),(1,.box 259 (Ah r.2))]:=by
 unfold Hg at h;refine Ctr.ofW Bb func226 rfl call226 2 _ ntmps226 [] rfl rfl rfl (fun B=>?_);obtain ⟨r1,hr1,h⟩:=Aa h;refine vs [0] fun _ k=>?_;push_cast;refine ch (H:=[(0,.box 283 (Ab a0 (.ref 1 0))),(1,.box 259 (Ah a0_r))]) (Ctr.loH (Ctr.ren Bij.id (Kc hr1) (by push_cast) (by push_cast))) (by push_cast) ?_;push_cast;apply k;clear k;refine VC.sub (s':=⟨[(0,.ref 0 0)],[(0,.box 283 (Ab r1.1 (.ref 1 0))),(1,.box 259 (Ah r1.2))],5,22,2⟩) (so (by push_cast)) ?_;refine vs [0,4] fun _ k=>?_;push_cast;apply k;clear k;refine VC.block ?_;refine VC.loopP h (fun x=>⟨[(0,.ref 0 0),(4,ri x.2)],[(0,.box 283 (Ab x.1 (.ref 1 0))),(1,.box 259 (Ah r1.2))],23,22,2⟩) ?_ ?_
 ·exact sl (by push_cast)
 rintro ⟨s_1,i_2⟩ b2 (h : Hn r1 s_1 i_2 = some b2) hf2;(try push_cast);unfold Hn at h;refine VC.seq ?_;refine vs [0,4,9] fun _ k=>?_;push_cast;apply k;clear k;refine vc h (fun hb3 h=>?_) (fun hb3 h=>?_)
 ·refine VC.skip ?_;refine VC.seq ?_;refine VC.block ?_;obtain ⟨hg4,h⟩:=Bs h;have hg4n : i_2.toNat < 8:=by omega
  obtain ⟨y5,hy5,h⟩:=Bn h;obtain ⟨y6,hy6,h⟩:=Bn h;refine vlD [some 12,some 13,some 14,some 15,some 16,some 17,some 18,none,some 19,some 20,some 21,none] fun _ k=>?_;refine Ce 8 fun _ l=>?_;push_cast [hg4,hg4n];(repeat refine ao ?_);apply l;clear l;simp only [List.drop_succ_cons,List.drop_zero];push_cast [hg4,hg4n];(repeat refine ao ?_);refine ⟨rfl,k _ ?_⟩;clear k;refine vl fun _ k=>?_;push_cast;apply k;clear k;refine bk h ?_;exact sl (by push_cast [hb3,hy5,hy6])
 ·refine VC.exit ?_;replace h:=ol h hf2;replace h:=Option.some.inj h;subst h;exact eN (by push_cast [hb3])
noncomputable def Fk (a1 : Int) (s_1 : Ad) (s_2 : Ae) (l_3 : (List UInt32)) (i_4 : Int) : Option ((Ad × Ae × (List UInt32) × Int) ⊕ (Ad × Ae × (List UInt32))):=
  cond (decide (i_4 ≤ a1)) (
  po (Dx s_1 s_2 i_4) fun r4=>
  pg ((l_3.length + 1) * 4 ≤ 140737488355328) <|
  pl (l_3 ++ ([r4.1])) fun y6=>
  some (Sum.inl (r4.2.1,r4.2.2,y6,(IntKind.i64.wrap (i_4 + 1))))) (
  some (Sum.inr (s_1,s_2,l_3)))
noncomputable def Mp (s_9 : Ad) (s_10 : Ae) (l_11 : (List UInt32)) : Option ((List UInt32) × Ad × Ae):=
  some (l_11,s_9,s_10)
noncomputable def Fj (a0 : Ad) (a0_r : Ae) (a1 : Int) : Option ((List UInt32) × Ad × Ae):=
  po (
  lpU (fun x=>Fk a1 x.1 x.2.1 x.2.2.1 x.2.2.2) (a0,a0_r,[],1)) (fun x=>Mp x.1 x.2.1 x.2.2)
theorem Ul {a0 : Ad} {a0_r : Ae} {a1 : Int} {r : (List UInt32) × Ad × Ae} (h : Fj a0 a0_r a1 = some r) : Ctr prog 225 [.ref 0 0,ri a1] [(0,.box 283 (Ab a0 (.ref 1 0))),(1,.box 259 (Ah a0_r))] (.row 2 0 1 0 r.1.length) [(0,.box 283 (Ab r.2.1 (.ref 1 0))),(1,.box 259 (Ah r.2.2)),(2,.row 25 1 0 (r.1.map Ax))]:=by
 unfold Fj at h;refine Ctr.ofW Bb func225 rfl call225 2 _ ntmps225 [.tmp 4] rfl rfl rfl (fun B=>?_);refine vs [0,1] fun _ k=>?_;push_cast;apply k;clear k;refine vs [0,1,5] fun _ k=>?_;push_cast;apply k;clear k;refine vj h (fun x=>⟨[(5,.row 13 0 1 0 x.2.2.length)],[(0,.box 283 (Ab x.1 (.ref 1 0))),(1,.box 259 (Ah x.2.1)),(13,.row 25 1 0 (x.2.2.map Ax))],21,19,2⟩) (fun v1 h hk1=>?_) ?_
 ·refine vs [0,1,5,6] fun _ k=>?_;push_cast;apply k;clear k;refine VC.block ?_;refine VC.loopP h (fun x=>⟨[(0,.ref 0 0),(1,ri a1),(5,.row 13 0 1 0 x.2.2.1.length),(6,ri x.2.2.2)],[(0,.box 283 (Ab x.1 (.ref 1 0))),(1,.box 259 (Ah x.2.1)),(13,.row 25 1 0 (x.2.2.1.map Ax))],18,19,2⟩) ?_ ?_
  ·refine Sub.trans (so (s':=⟨[(0,.ref 0 0),(1,ri a1),(5,.sl true []),(6,ri 1)],[(0,.box 283 (Ab a0 (.ref 1 0))),(1,.box 259 (Ah a0_r))],5,19,2⟩) (by push_cast)) ?_;refine Sub.trans (Sub.adoptT (k:=5) (e:=25) (sz:=1) rfl) ?_;refine Sub.trans (Sub.renT (k:=5) (i':=13) rfl rfl (Nat.le_of_ble_eq_true rfl) (Nat.le_of_ble_eq_true rfl) rfl) ?_;exact sl (by push_cast)
  rintro ⟨s_1,s_2,l_3,i_4⟩ b2 (h : Fk a1 s_1 s_2 l_3 i_4 = some b2) hf2;(try push_cast);unfold Fk at h;refine VC.seq ?_;refine vs [0,1,5,6,9] fun _ k=>?_;push_cast;apply k;clear k;refine vc h (fun hb3 h=>?_) (fun hb3 h=>?_)
  ·refine VC.skip ?_;refine VC.seq ?_;refine VC.block ?_;obtain ⟨r4,hr4,h⟩:=Aa h;obtain ⟨hg5,h⟩:=Bs h;obtain ⟨y6,hy6,h⟩:=Bn h;refine vl fun _ k=>?_;push_cast [hg5];(repeat refine ao ?_);refine ch (H:=[(0,.box 283 (Ab s_1 (.ref 1 0))),(1,.box 259 (Ah s_2))]) (Ctr.loH (Ctr.ren Bij.id (Ih hr4) (by push_cast [hg5]) (by push_cast [hg5]))) (by push_cast [hg5]) ?_;push_cast [hg5];(repeat refine ao ?_);apply k;clear k;refine vl fun _ k=>?_;push_cast;apply k;clear k;refine bk h ?_;refine Sub.trans (so (s':=⟨[(0,.ref 0 0),(1,ri a1),(5,.row 13 1 1 0 y6.length),(6,ri (IntKind.i64.wrap (i_4 + 1)))],[(0,.box 283 (Ab r4.2.1 (.ref 1 0))),(1,.box 259 (Ah r4.2.2)),(13,.row 25 1 1 (y6.map Ax))],31,19,2⟩) (by push_cast [hb3,hy6])) ?_;refine Sub.trans (Sub.renT (k:=5) (i':=13) rfl rfl (Nat.le_of_ble_eq_true rfl) (Nat.le_of_ble_eq_true rfl) rfl) ?_;exact sl (by push_cast [hb3,hy6])
  ·refine VC.exit ?_;replace h:=ol h hf2;refine ar h hk1 ?_;exact sl (by push_cast [hb3])
 ·rintro ⟨s_9,s_10,l_11⟩ (h : Mp s_9 s_10 l_11 = some r);(try push_cast);unfold Mp at h;refine vs [4] fun _ k=>?_;push_cast;apply k;clear k;refine VC.ret ?_;replace h:=Option.some.inj h;subst h;refine Cf (so (s':=⟨[(4,.row 13 0 1 0 l_11.length)],[(0,.box 283 (Ab s_9 (.ref 1 0))),(1,.box 259 (Ah s_10)),(13,.row 25 1 0 (l_11.map Ax))],23,19,2⟩) (by push_cast)) ?_;refine Cf (Sub.renT (k:=4) (i':=2) rfl rfl (Nat.le_of_ble_eq_true rfl) (Nat.le_of_ble_eq_true rfl) rfl) ?_;exact en (by push_cast)
noncomputable def Hh (a0 : Ad) (a0_r : Ae) (a1 : Ap) : Option (Ad × Ae):=
  po (Li (a1.Imm.toNat : Int)) fun r1=>
  cond (decide (r1 < 0)) (
  po (Db a0_r 10) fun r3=>
  some (a0,r3)) (
  po (Fj a0 a0_r r1) fun r4=>
  cond (r4.2.2.err != 0) (
  some (r4.2.1,r4.2.2)) (
  po (Lk (a1.Imm.toNat : Int) r4.2.2.e r4.1) fun r6=>
  cond (r6.2.2 != 0) (
  po (Db r4.2.2 10) fun r8=>
  some (r4.2.1,r8)) (
  po (Hg r4.2.1 (Ae.mk r4.2.2.p r6.1 r4.2.2.fuel r4.2.2.used r4.2.2.err) r6.2.1) fun r9=>
  some (r9.1,r9.2))))
theorem Bf0 {a0 : Ad} {a0_r : Ae} {a1 : Ap} {r : Ad × Ae} (h : Hh a0 a0_r a1 = some r) : Ctr prog 201 [.ref 0 0,.agg (Aw a1)] [(0,.box 283 (Ab a0 (.ref 1 0))),(1,.box 259 (Ah a0_r))] (.tup []) [(0,.box 283 (Ab r.1 (.ref 1 0))),(1,.box 259 (Ah r.2))]:=by
 unfold Hh at h;refine Ctr.ofW Bb func201 rfl call201 2 _ ntmps201 [] rfl rfl rfl (fun B=>?_);refine vs [0,3] fun _ k=>?_;push_cast;apply k;clear k;obtain ⟨r1,hr1,h⟩:=Aa h;refine vs [0,3,4] fun _ k=>?_;push_cast;refine cp (Xd hr1) ?_;push_cast;apply k;clear k;refine VC.seq ?_;refine vs [0,3,4,14] fun _ k=>?_;push_cast;apply k;clear k;refine vc h (fun hb2 h=>?_) (fun hb2 h=>?_)
 ·obtain ⟨r3,hr3,h⟩:=Aa h;refine vs [] fun _ k=>?_;push_cast;refine ch (H:=[(1,.box 259 (Ah a0_r))]) (Ctr.loH (Ctr.ren (Bij.swp 0 1 Bij.id) (Er hr3) (by push_cast) (by push_cast))) (by push_cast) ?_;push_cast;apply k;clear k;refine VC.sub (s':=⟨[],[(0,.box 283 (Ab a0 (.ref 1 0))),(1,.box 259 (Ah r3))],15,64,2⟩) (so (by push_cast [hb2])) ?_;refine VC.ret ?_;replace h:=Option.some.inj h;subst h;exact en (by push_cast [hb2])
 ·refine VC.skip ?_;obtain ⟨r4,hr4,h⟩:=Aa h;refine vs [0,3,5] fun _ k=>?_;push_cast;refine ch (H:=[(0,.box 283 (Ab a0 (.ref 1 0))),(1,.box 259 (Ah a0_r))]) (Ctr.loH (Ctr.ren (Bij.swp 2 12 Bij.id) (Ul hr4) (by push_cast) (by push_cast))) (by push_cast) ?_;push_cast;apply k;clear k;refine VC.sub (s':=⟨[(0,.ref 0 0),(3,.ref 2 0),(5,.row 12 0 1 0 r4.1.length)],[(0,.box 283 (Ab r4.2.1 (.ref 1 0))),(1,.box 259 (Ah r4.2.2)),(2,.box 37 (Aw a1)),(12,.row 25 1 0 (r4.1.map Ax))],14,64,2⟩) (so (by push_cast [hb2])) ?_;refine VC.seq ?_;refine vs [0,3,5,30] fun _ k=>?_;push_cast;apply k;clear k;refine vc h (fun hb5 h=>?_) (fun hb5 h=>?_)
  ·refine VC.ret ?_;replace h:=Option.some.inj h;subst h;exact en (by push_cast [hb2,hb5])
  ·refine VC.skip ?_;refine VC.sub (Sub.freezeT prog (k:=5) rfl rfl (by push_cast [hb2,hb5] <;> omega) (by decide)) ?_;refine VC.sub (s':=⟨[(0,.ref 0 0),(3,.ref 2 0),(5,.sl false (r4.1.map Ax))],[(0,.box 283 (Ab r4.2.1 (.ref 1 0))),(1,.box 259 (Ah r4.2.2)),(2,.box 37 (Aw a1))],22,64,2⟩) (so (by push_cast [hb2,hb5])) ?_;obtain ⟨r6,hr6,h⟩:=Aa h;refine vsD [some 32,some 33,some 34,some 35,some 36,some 37,some 38,some 39,some 40,some 41,some 42,some 43,some 31,some 44,some 45,some 46,some 6,none,some 7,some 8] [0,6,7,8] fun _ k=>?_;refine Ce 8 fun _ l=>?_;push_cast;apply l;clear l;simp only [List.drop_succ_cons,List.drop_zero];refine Ce 8 fun _ l=>?_;push_cast;refine chD (H:=[]) (Ctr.loH (Ctr.ren (Bij.swp 0 33 Bij.id) (Ff0 hr6) (by push_cast) (by push_cast))) (by push_cast) ?_;push_cast;apply l;clear l;simp only [List.drop_succ_cons,List.drop_zero];push_cast;refine ⟨rfl,k _ ?_⟩;clear k;refine VC.sub (s':=⟨[(0,.ref 0 0),(6,.ref 38 0),(7,ru r6.2.1),(8,ri r6.2.2)],[(0,.box 283 (Ab r4.2.1 (.ref 1 0))),(1,.box 259 (Ah r4.2.2)),(33,.row 53 6 0 (r6.1.T.map Ba)),(38,.box 29 [ru r6.1.Ctx.a0,ru r6.1.Ctx.a1,ru r6.1.Ctx.a2,ru r6.1.Ctx.a3,.row 33 0 6 0 r6.1.T.length,ru r6.1.Seed])],42,64,2⟩) (so (by push_cast [hb2,hb5])) ?_;refine VC.seq ?_;refine vs [0,6,7,48] fun _ k=>?_;push_cast;apply k;clear k;refine vc h (fun hb7 h=>?_) (fun hb7 h=>?_)
   ·obtain ⟨r8,hr8,h⟩:=Aa h;refine vs [] fun _ k=>?_;push_cast;refine ch (H:=[(1,.box 259 (Ah r4.2.2))]) (Ctr.loH (Ctr.ren (Bij.swp 0 1 Bij.id) (Er hr8) (by push_cast) (by push_cast))) (by push_cast) ?_;push_cast;apply k;clear k;refine VC.sub (s':=⟨[],[(0,.box 283 (Ab r4.2.1 (.ref 1 0))),(1,.box 259 (Ah r8))],49,64,2⟩) (so (by push_cast [hb2,hb5,hb7])) ?_;refine VC.ret ?_;replace h:=Option.some.inj h;subst h;exact en (by push_cast [hb2,hb5,hb7])
   ·refine VC.skip ?_;refine vsD [some 54,some 55,some 56,some 57,some 58,some 59,some 60,none] [0,7] fun _ k=>?_;push_cast;refine ⟨rfl,k _ ?_⟩;clear k;refine VC.sub (Sub.freeze prog (b:=1) (j:=5) rfl rfl rfl (by push_cast [hb2,hb5,hb7] <;> omega) (by decide)) ?_;refine VC.sub (s':=⟨[(0,.ref 0 0),(7,ru r6.2.1)],[(0,.box 283 (Ab r4.2.1 (.ref 1 0))),(1,.box 259 (Ah (Ae.mk r4.2.2.p r6.1 r4.2.2.fuel r4.2.2.used r4.2.2.err)))],52,64,2⟩) (so (by push_cast [hb2,hb5,hb7])) ?_;obtain ⟨r9,hr9,h⟩:=Aa h;refine vl fun _ k=>?_;push_cast;refine ch (H:=[(0,.box 283 (Ab r4.2.1 (.ref 1 0))),(1,.box 259 (Ah (Ae.mk r4.2.2.p r6.1 r4.2.2.fuel r4.2.2.used r4.2.2.err)))]) (Ctr.loH (Ctr.ren Bij.id (Vi hr9) (by push_cast) (by push_cast))) (by push_cast) ?_;push_cast;apply k;clear k;replace h:=Option.some.inj h;subst h;exact eN (by push_cast [hb2,hb5,hb7])
noncomputable def Fg (pf : Ae → Int → (List UInt32) → Option (UInt32 × Ae)) (a0 : Ad) (a0_r : Ae) (a1 : Ap) (i_1 : Bool) : Option (Ad × Ae):=
  cond i_1 (
  po (Db a0_r 10) fun r4=>
  some (a0,r4)) (
  po (a0_r.p.Fns[a1.Imm.toNat]?) fun x5=>
  po (Fj a0 a0_r x5.Args) fun r6=>
  cond (r6.2.2.err != 0) (
  some (r6.2.1,r6.2.2)) (
  po (pf r6.2.2 (a1.Imm.toNat : Int) r6.1) fun r8=>
  po (Hg r6.2.1 r8.2 r8.1) fun r9=>
  some (r9.1,r9.2)))
noncomputable def Hk (pf : Ae → Int → (List UInt32) → Option (UInt32 × Ae)) (a0 : Ad) (a0_r : Ae) (a1 : Ap) : Option (Ad × Ae):=
  po (
  cond (decide ((IntKind.u64.wrap (a1.Imm.toNat : Int)) ≥ (IntKind.u64.wrap (a0_r.p.Fns.length : Int)))) (
  some true) (
  some (decide ((a1.Imm.toNat : Int) ≤ a0.fn)))) (fun x=>Fg pf a0 a0_r a1 x)
theorem Bk0 (pf : Ae → Int → (List UInt32) → Option (UInt32 × Ae)) (hpf : ∀ {a0 : Ae} {a1 : Int} {a2 : (List UInt32)} {r : UInt32 × Ae} (h : pf a0 a1 a2 = some r),Ctr prog 171 [.ref 0 0,ri a1,.sl false (a2.map Ax)] [(0,.box 259 (Ah a0))] (ru r.1) [(0,.box 259 (Ah r.2))]) {a0 : Ad} {a0_r : Ae} {a1 : Ap} {r : Ad × Ae} (h : Hk pf a0 a0_r a1 = some r) : Ctr prog 202 [.ref 0 0,.agg (Aw a1)] [(0,.box 283 (Ab a0 (.ref 1 0))),(1,.box 259 (Ah a0_r))] (.tup []) [(0,.box 283 (Ab r.1 (.ref 1 0))),(1,.box 259 (Ah r.2))]:=by
 unfold Hk at h;refine Ctr.ofW Bb func202 rfl call202 2 _ ntmps202 [] rfl rfl rfl (fun B=>?_);refine vs [0,3] fun _ k=>?_;push_cast;apply k;clear k;refine VC.seq ?_;refine vj h (fun x=>⟨[(0,.ref 0 0),(3,.ref 2 0),(28,rb x)],[(0,.box 283 (Ab a0 (.ref 1 0))),(1,.box 259 (Ah a0_r)),(2,.box 37 (Aw a1))],27,68,2⟩) (fun v1 h hk1=>?_) ?_
 ·rcases bt (decide ((IntKind.u64.wrap (a1.Imm.toNat : Int)) ≥ (IntKind.u64.wrap (a0_r.p.Fns.length : Int)))) with hb2 | hb2
  ·replace h:=Ao hb2 h;refine vlD [some 5,some 6,some 7,some 8,some 9,some 10,some 11,some 12,some 13,some 14,some 15,some 16,some 17,some 18,some 19,some 20,some 21,some 22,some 23,some 24,some 25,some 26,some 27,some 28] fun _ k=>?_;refine Ce 8 fun _ l=>?_;push_cast [hb2];(repeat refine ao ?_);apply l;clear l;simp only [List.drop_succ_cons,List.drop_zero];refine Ce 8 fun _ l=>?_;push_cast [hb2];(repeat refine ao ?_);apply l;clear l;simp only [List.drop_succ_cons,List.drop_zero];push_cast [hb2];(repeat refine ao ?_);refine ⟨rfl,k _ ?_⟩;clear k;refine ar h hk1 ?_;exact sl (by push_cast [hb2])
  ·replace h:=Av hb2 h;refine vlD [some 5,some 6,some 7,some 8,some 9,some 10,some 11,some 12,some 13,some 14,some 15,some 16,some 17,some 18,some 19,some 20,some 21,some 22,some 23,some 24,some 25,some 26,some 27,some 28] fun _ k=>?_;refine Ce 8 fun _ l=>?_;push_cast [hb2];(repeat refine ao ?_);apply l;clear l;simp only [List.drop_succ_cons,List.drop_zero];refine Ce 8 fun _ l=>?_;push_cast [hb2];(repeat refine ao ?_);apply l;clear l;simp only [List.drop_succ_cons,List.drop_zero];push_cast [hb2];(repeat refine ao ?_);refine ⟨rfl,k _ ?_⟩;clear k;refine ar h hk1 ?_;exact sl (by push_cast [hb2])
 ·rintro i_1 (h : Fg pf a0 a0_r a1 i_1 = some r);(try push_cast);unfold Fg at h;refine vc h (fun hb3 h=>?_) (fun hb3 h=>?_)
  ·obtain ⟨r4,hr4,h⟩:=Aa h;refine vs [] fun _ k=>?_;push_cast;refine ch (H:=[(1,.box 259 (Ah a0_r))]) (Ctr.loH (Ctr.ren (Bij.swp 0 1 Bij.id) (Er hr4) (by push_cast) (by push_cast))) (by push_cast) ?_;push_cast;apply k;clear k;refine VC.sub (s':=⟨[],[(0,.box 283 (Ab a0 (.ref 1 0))),(1,.box 259 (Ah r4))],32,68,2⟩) (so (by push_cast [hb3])) ?_;refine VC.ret ?_;replace h:=Option.some.inj h;subst h;exact en (by push_cast [hb3])
  ·refine VC.skip ?_;obtain ⟨x5,hx5,h⟩:=Aa h;replace hx5:=gL hx5;obtain ⟨r6,hr6,h⟩:=Aa h;refine vsD [some 34,some 35,some 36,some 37,some 38,some 39,some 40,some 41,some 42,some 43,some 44,some 45,some 46,some 47,some 48,some 4] [0,3,4] fun _ k=>?_;refine Ce 8 fun _ l=>?_;push_cast [hx5];(repeat refine ao ?_);apply l;clear l;simp only [List.drop_succ_cons,List.drop_zero];push_cast [hx5];(repeat refine ao ?_);refine chD (H:=[(0,.box 283 (Ab a0 (.ref 1 0))),(1,.box 259 (Ah a0_r))]) (Ctr.loH (Ctr.ren (Bij.swp 2 41 Bij.id) (Ul hr6) (by push_cast [hx5]) (by push_cast [hx5]))) (by push_cast [hx5]) ?_;push_cast [hx5];(repeat refine ao ?_);refine ⟨rfl,k _ ?_⟩;clear k;refine VC.sub (s':=⟨[(0,.ref 0 0),(3,.ref 2 0),(4,.row 41 0 1 0 r6.1.length)],[(0,.box 283 (Ab r6.2.1 (.ref 1 0))),(1,.box 259 (Ah r6.2.2)),(2,.box 37 (Aw a1)),(41,.row 25 1 0 (r6.1.map Ax))],43,68,2⟩) (so (by push_cast [hb3])) ?_;refine VC.seq ?_;refine vs [0,3,4,56] fun _ k=>?_;push_cast;apply k;clear k;refine vc h (fun hb7 h=>?_) (fun hb7 h=>?_)
   ·refine VC.ret ?_;replace h:=Option.some.inj h;subst h;exact en (by push_cast [hb3,hb7])
   ·refine VC.skip ?_;refine VC.sub (Sub.freezeT prog (k:=4) rfl rfl (by push_cast [hb3,hb7] <;> omega) (by decide)) ?_;refine VC.sub (s':=⟨[(0,.ref 0 0),(3,.ref 2 0),(4,.sl false (r6.1.map Ax))],[(0,.box 283 (Ab r6.2.1 (.ref 1 0))),(1,.box 259 (Ah r6.2.2)),(2,.box 37 (Aw a1))],51,68,2⟩) (so (by push_cast [hb3,hb7])) ?_;obtain ⟨r8,hr8,h⟩:=Aa h;obtain ⟨r9,hr9,h⟩:=Aa h;refine vlD [some 57,some 58,some 59,some 60,some 61,some 62,some 63,some 64,some 65,some 66,some 67] fun _ k=>?_;refine Ce 8 fun _ l=>?_;push_cast;apply l;clear l;simp only [List.drop_succ_cons,List.drop_zero];push_cast;refine chD (H:=[(1,.box 259 (Ah r6.2.2))]) (Ctr.loH (Ctr.ren (Bij.swp 0 1 Bij.id) (hpf hr8) (by push_cast) (by push_cast))) (by push_cast) ?_;push_cast;refine chD (H:=[(0,.box 283 (Ab r6.2.1 (.ref 1 0))),(1,.box 259 (Ah r8.2))]) (Ctr.loH (Ctr.ren Bij.id (Vi hr9) (by push_cast) (by push_cast))) (by push_cast) ?_;push_cast;refine ⟨rfl,k _ ?_⟩;clear k;replace h:=Option.some.inj h;subst h;exact eN (by push_cast [hb3,hb7])
noncomputable def Hi (a0 : Ad) (a0_r : Ae) (a1 : Ap) : Option (Ad × Ae):=
  po (Dx a0 a0_r 0) fun r1=>
  some ((Ad.mk r1.2.1.fn r1.2.1.at_ r1.2.1.regs r1.2.1.set r1.2.1.stack true),r1.2.2)
theorem Bq0 {a0 : Ad} {a0_r : Ae} {a1 : Ap} {r : Ad × Ae} (h : Hi a0 a0_r a1 = some r) : Ctr prog 203 [.ref 0 0,.agg (Aw a1)] [(0,.box 283 (Ab a0 (.ref 1 0))),(1,.box 259 (Ah a0_r))] (.tup []) [(0,.box 283 (Ab r.1 (.ref 1 0))),(1,.box 259 (Ah r.2))]:=by
 unfold Hi at h;refine Ctr.ofW Bb func203 rfl call203 2 _ ntmps203 [] rfl rfl rfl (fun B=>?_);refine vs [0] fun _ k=>?_;push_cast;apply k;clear k;obtain ⟨r1,hr1,h⟩:=Aa h;refine vs [0] fun _ k=>?_;push_cast;refine ch (H:=[(0,.box 283 (Ab a0 (.ref 1 0))),(1,.box 259 (Ah a0_r))]) (Ctr.loH (Ctr.ren Bij.id (Ih hr1) (by push_cast) (by push_cast))) (by push_cast) ?_;push_cast;apply k;clear k;refine VC.sub (s':=⟨[(0,.ref 0 0)],[(0,.box 283 (Ab r1.2.1 (.ref 1 0))),(1,.box 259 (Ah r1.2.2))],5,9,2⟩) (so (by push_cast)) ?_;refine vl fun _ k=>?_;push_cast;apply k;clear k;replace h:=Option.some.inj h;subst h;exact eN (by push_cast)
def failE (err e : Int) : Int:=if err = 0 then e else err
theorem fail_is (p : Ar) (e : Be) (fu us err x : Int) : Db ⟨p,e,fu,us,err⟩ x = some ⟨p,e,fu,us,failE err x⟩:=by
  unfold Db failE
  by_cases h : err = 0
  · have d : (err == 0) = true:=by simpa using h
    simp only [d,cond_true,if_pos h]
  · have d : (err == 0) = false:=by simpa using h
    simp only [d,cond_false,if_neg h]
def getE (f : Fra) (err : Int) (n : Nat) : Int:=if f.set.get n = true then err else failE err 10
theorem get_is (f : Fra) (p : Ar) (e : Be) (fu us err : Int) {n : Int} (h : 0 ≤ n ∧ n < 8) :
    Dx f ⟨p,e,fu,us,err⟩ n = some (f.regs.get n.toNat,f,⟨p,e,fu,us,getE f err n.toNat⟩):=by
  unfold Dx getE
  rw [El h]
  cases hs : f.set.get n.toNat with
  | true=>simp only [Bool.not_true,cond_false,po_of,Ig,El h,if_true]
  | false=>
    simp only [Bool.not_false,cond_true,fail_is,po_of,Ig,El h]
    rfl
def wordV (f : Fra) (i : Ap) : UInt32:=if i.Reg = true then f.regs.get i.Src.toNat else i.Imm
def wordE (f : Fra) (err : Int) (i : Ap) : Int:=if i.Reg = true then getE f err i.Src.toNat else err
theorem word_is (f : Fra) (p : Ar) (e : Be) (fu us err : Int) {i : Ap} (h : InstOk i) :
    Fh f ⟨p,e,fu,us,err⟩ i = some (wordV f i,f,⟨p,e,fu,us,wordE f err i⟩):=by
  unfold Fh wordV wordE
  cases hr : i.Reg with
  | true=>simp only [cond_true,get_is f p e fu us err h.src,po_of,if_true]
  | false=>simp [cond_false]
def putF (f : Fra) (n : Nat) (v : UInt32) : Fra:=⟨f.fn,f.at_,f.regs.set n v,f.set.set n true,f.stack,f.over⟩
theorem put_is' (f : Fra) (r : Rn) {n : Int} (h : 0 ≤ n ∧ n < 8) (v : UInt32) : Ek f r n v = some (putF f n.toNat v,r):=by
  unfold Ek
  rw [El h]
  rfl
noncomputable def aluV (fn : Int) (a b : UInt32) : UInt32:=((Ue fn a b).getD (0,true)).1
theorem alu_is {fn : Int} (h : 0 ≤ fn ∧ fn < 11) (a b : UInt32) : Ue fn a b = some (aluV fn a b,true):=by
  have key : ∃ v,Ue fn a b = some (v,true):=by
    unfold Ue
    have d1 : decide (fn < 0) = false:=by simp; omega
    have d2 : decide (fn ≥ 11) = false:=by simp; omega
    simp only [d1,d2,cond_false,po_of,Vz]
    have dz : ∀ k : UInt32,((k.toNat : Int) == 0) = true ∨ (((k.toNat : Int) == 0) = false ∧ (k.toNat : Int) ≠ 0):=fun k=>by
      by_cases hk : (k.toNat : Int) = 0
      · exact .inl (by simpa using hk)
      · exact .inr ⟨by simpa using hk,hk⟩
    have hc : fn = 0 ∨ fn = 1 ∨ fn = 2 ∨ fn = 3 ∨ fn = 4 ∨ fn = 5 ∨ fn = 6 ∨ fn = 7 ∨ fn = 8 ∨ fn = 9 ∨ fn = 10:=by omega
    rcases hc with rfl | rfl | rfl | rfl | rfl | rfl | rfl | rfl | rfl | rfl | rfl
    case inr.inr.inr.inr.inl=>
      have : ∃ v,Ql a b = some v:=by
        unfold Ql
        rcases dz b with d | ⟨d,hn⟩
        · exact ⟨0,by rw [d]; rfl⟩
        · exact ⟨a / b,by rw [d,El hn]; rfl⟩
      obtain ⟨v,hv⟩:=this
      exact ⟨v,by rw [hv]; rfl⟩
    case inr.inr.inr.inr.inr.inl=>
      have : ∃ v,Qk a b = some v:=by
        unfold Qk
        rcases dz b with d | ⟨d,hn⟩
        · exact ⟨a,by rw [d]; rfl⟩
        · exact ⟨a % b,by rw [d,El hn]; rfl⟩
      obtain ⟨v,hv⟩:=this
      exact ⟨v,by rw [hv]; rfl⟩
    all_goals exact ⟨_,rfl⟩
  obtain ⟨v,hv⟩:=key
  unfold aluV
  rw [hv]
  rfl
noncomputable def holdsV (c : Int) (a b : UInt32) : Bool:=((Oc c a b).getD (false,false)).1
theorem holds_is (c : Int) (a b : UInt32) : ∃ y,Oc c a b = some (holdsV c a b,y):=by
  have key : ∃ q,Oc c a b = some q:=by
    unfold Oc
    cases c == 0 <;> cases c == 1 <;> cases c == 2 <;> cases c == 3 <;> cases c == 4
    all_goals exact ⟨_,rfl⟩
  obtain ⟨q,hq⟩:=key
  unfold holdsV
  rw [hq]
  exact ⟨q.2,rfl⟩
def handV (f : Fra) : Nat → List UInt32
  | 0=>[]
  | k + 1=>handV f k ++ [f.regs.get (k + 1)]
def handE (f : Fra) (err : Int) : Nat → Int
  | 0=>err
  | k + 1=>getE f (handE f err k) (k + 1)
theorem handV_len (f : Fra) (k : Nat) : (handV f k).length = k:=by
  induction k with
  | zero=>rfl
  | succ k ih=>simp [handV,ih]
theorem hand_is (f : Fra) (p : Ar) (e : Be) (fu us err : Int) {n : Nat} (h : n ≤ 7) :
    Fj f ⟨p,e,fu,us,err⟩ (n : Int) = some (handV f n,f,⟨p,e,fu,us,handE f err n⟩):=by
  obtain ⟨r,h1,h2⟩:=lp_inv (step:=fun x=>Fk (n : Int) x.1 x.2.1 x.2.2.1 x.2.2.2) (fun s=>∃ k : Nat,k ≤ n ∧ s = (f,⟨p,e,fu,us,handE f err k⟩,handV f k,((k + 1 : Nat) : Int))) (fun s=>(n + 1 - s.2.2.2).toNat) (fun r=>r = (f,⟨p,e,fu,us,handE f err n⟩,handV f n)) (by
    rintro s ⟨k,hk,rfl⟩
    simp only [Fk]
    by_cases hlt : k < n
    · left
      have hd : decide (((k + 1 : Nat) : Int) ≤ (n : Int)) = true:=by simp; omega
      have hl : ((handV f k).length + 1) * 4 ≤ 140737488355328:=by rw [handV_len]; omega
      simp only [hd,cond_true,get_is f p e fu us (handE f err k) (show 0 ≤ ((k + 1 : Nat) : Int) ∧ ((k + 1 : Nat) : Int) < 8 by omega),po_of,El hl,pl,Int.toNat_natCast,w64 (show k + 1 < 9223372036854775807 by omega)]
      exact ⟨_,rfl,⟨k + 1,by omega,rfl⟩,by simp only; omega⟩
    · right
      have : k = n:=by omega
      subst this
      have hd : decide (((k + 1 : Nat) : Int) ≤ (k : Int)) = false:=by simp; omega
      simp only [hd,cond_false]
      exact ⟨_,rfl,rfl⟩) (f,⟨p,e,fu,us,err⟩,[],1) ⟨0,Nat.zero_le _,rfl⟩
  subst h2
  unfold Fj
  rw [h1]
  rfl
def clrF (f : Fra) : Nat → Fra
  | 0=>f
  | k + 1=>⟨(clrF f k).fn,(clrF f k).at_,(clrF f k).regs.set (k + 1) 0,(clrF f k).set.set (k + 1) false,(clrF f k).stack,(clrF f k).over⟩
def backF (f : Fra) (v : UInt32) : Fra:=clrF (putF f 0 v) 5
theorem back_is (f : Fra) (r : Rn) (v : UInt32) : Hg f r v = some (backF f v,r):=by
  unfold Hg
  rw [put_is' f r (by decide) v]
  simp only [po_of]
  obtain ⟨q,h1,h2⟩:=lp_inv (step:=fun x=>Hn (putF f (0 : Int).toNat v,r) x.1 x.2) (fun s=>∃ k : Nat,k ≤ 5 ∧ s = (clrF (putF f 0 v) k,((k + 1 : Nat) : Int))) (fun s=>(6 - s.2).toNat) (fun q=>q = (backF f v,r)) (by
    rintro s ⟨k,hk,rfl⟩
    simp only [Hn]
    by_cases hlt : k < 5
    · left
      have hd : decide (((k + 1 : Nat) : Int) ≤ 5) = true:=by simp; omega
      have hb : 0 ≤ ((k + 1 : Nat) : Int) ∧ ((k + 1 : Nat) : Int) < 8:=by omega
      simp only [hd,cond_true,El hb,pl,Int.toNat_natCast,w64 (show k + 1 < 9223372036854775807 by omega)]
      exact ⟨_,rfl,⟨k + 1,by omega,rfl⟩,by simp only; omega⟩
    · right
      have : k = 5:=by omega
      subst this
      simp only [show decide (((5 + 1 : Nat) : Int) ≤ 5) = false from rfl,cond_false]
      exact ⟨_,rfl,rfl⟩) (putF f 0 v,1) ⟨0,Nat.zero_le _,rfl⟩
  subst h2
  exact h1
noncomputable def aluS (f : Fra) (err : Int) (i : Ap) : Fra × Int:=
  (putF f i.Dst.toNat (aluV i.Fn (if i.Fn = 0 then 0 else f.regs.get i.Dst.toNat) (wordV f i)),if i.Fn = 0 then wordE f err i else getE f (wordE f err i) i.Dst.toNat)
theorem aluS_is (f : Fra) (p : Ar) (e : Be) (fu us err : Int) {i : Ap} (h : InstOk i) (h0 : i.Op = 0) :
    Ij f ⟨p,e,fu,us,err⟩ i = some ((aluS f err i).1,⟨p,e,fu,us,(aluS f err i).2⟩):=by
  unfold Ij aluS
  simp only [word_is f p e fu us err h,po_of]
  by_cases hf : i.Fn = 0
  · have d : (i.Fn != 0) = false:=by simpa using hf
    simp only [d,cond_false,po_of,Hy,alu_is (h.alu h0),put_is' _ _ h.dst,if_pos hf]
  · have d : (i.Fn != 0) = true:=by simpa using hf
    simp only [d,cond_true,po_of,get_is f p e fu us _ h.dst,Hy,alu_is (h.alu h0),put_is' _ _ h.dst,if_neg hf]
def atF (f : Fra) (n : Int) : Fra:=⟨f.fn,n,f.regs,f.set,f.stack,f.over⟩
noncomputable def jumpS (f : Fra) (err : Int) (i : Ap) : Fra × Int:=
  if i.Fn = 0 then (atF f (f.at_ + i.Off),err)
  else (if holdsV i.Fn (f.regs.get i.Dst.toNat) (wordV f i) = true then atF f (f.at_ + i.Off) else f,wordE f (getE f err i.Dst.toNat) i)
theorem jumpS_is (f : Fra) (p : Ar) (e : Be) (fu us err : Int) {i : Ap} (h : InstOk i) (ha : 0 ≤ f.at_ ∧ f.at_ ≤ 1000000) :
    Hj f ⟨p,e,fu,us,err⟩ i = some ((jumpS f err i).1,⟨p,e,fu,us,(jumpS f err i).2⟩):=by
  have hw : IntKind.i64.wrap (f.at_ + i.Off) = f.at_ + i.Off:=wrap_i64 (by have:=h.off; omega) (by have:=h.off; omega)
  unfold Hj jumpS
  by_cases hf : i.Fn = 0
  · have d : (i.Fn == 0) = true:=by simpa using hf
    simp only [d,cond_true,if_pos hf,hw]
    rfl
  · have d : (i.Fn == 0) = false:=by simpa using hf
    obtain ⟨y,hy⟩:=holds_is i.Fn (f.regs.get i.Dst.toNat) (wordV f i)
    simp only [d,cond_false,get_is f p e fu us err h.dst,po_of,word_is f p e fu us _ h,hy,if_neg hf,hw]
    cases holdsV i.Fn (f.regs.get i.Dst.toNat) (wordV f i) <;> rfl
def wordsS (f : Fra) (ctx : A4 UInt32) (err : Int) (i : Ap) : Fra × Int:=
  if i.Op = 2 then (if 4 ≤ (wordV f i).toNat then (f,failE (wordE f err i) 10) else (putF f i.Dst.toNat (ctx.get (wordV f i).toNat),wordE f err i))
  else if i.Op = 3 then (if 16 ≤ (wordV f i).toNat then (f,failE (wordE f err i) 10) else (putF f i.Dst.toNat (f.stack.get (wordV f i).toNat),wordE f err i))
  else if 16 ≤ (wordV f i).toNat then (f,failE (getE f (wordE f err i) i.Dst.toNat) 10)
  else (⟨f.fn,f.at_,f.regs,f.set,f.stack.set (wordV f i).toNat (f.regs.get i.Dst.toNat),f.over⟩,getE f (wordE f err i) i.Dst.toNat)
theorem w64u (x : UInt32) : IntKind.u64.wrap (x.toNat : Int) = (x.toNat : Int):=by
  have:=x.toNat_lt
  rw [IntKind.wrap_u64]
  omega
theorem wordsS_is (f : Fra) (p : Ar) (e : Be) (fu us err : Int) {i : Ap} (h : InstOk i) (hop : i.Op = 2 ∨ i.Op = 3 ∨ i.Op = 4) :
    Dj f ⟨p,e,fu,us,err⟩ i = some ((wordsS f e.Ctx err i).1,⟨p,e,fu,us,(wordsS f e.Ctx err i).2⟩):=by
  unfold Dj wordsS
  rw [El (by decide)]
  simp only [word_is f p e fu us err h,po_of,w64u]
  rcases hop with q | q | q
  · have d2 : (i.Op == 2) = true:=by simpa using q
    rw [El (by decide)]
    simp only [d2,cond_true,if_pos q]
    by_cases hx : 4 ≤ (wordV f i).toNat
    · have d : decide (((wordV f i).toNat : Int) ≥ 4) = true:=by simp; omega
      simp only [d,cond_true,fail_is,po_of,if_pos hx]
    · have d : decide (((wordV f i).toNat : Int) ≥ 4) = false:=by simp; omega
      simp only [d,cond_false,El (show (wordV f i).toNat < 4 by omega),put_is' _ _ h.dst,pl,po_of,if_neg hx]
  · have d2 : (i.Op == 2) = false:=by simp [q]
    have d3 : (i.Op == 3) = true:=by simpa using q
    simp only [d2,d3,cond_false,cond_true,if_neg (show ¬ i.Op = 2 by omega),if_pos q]
    by_cases hx : 16 ≤ (wordV f i).toNat
    · have d : decide (((wordV f i).toNat : Int) ≥ 16) = true:=by simp; omega
      simp only [d,cond_true,fail_is,po_of,if_pos hx]
    · have d : decide (((wordV f i).toNat : Int) ≥ 16) = false:=by simp; omega
      simp only [d,cond_false,El (show (wordV f i).toNat < 16 by omega),put_is' _ _ h.dst,pl,po_of,if_neg hx]
  · have d2 : (i.Op == 2) = false:=by simp [q]
    have d3 : (i.Op == 3) = false:=by simp [q]
    have d4 : (i.Op == 4) = true:=by simpa using q
    simp only [d2,d3,d4,cond_false,cond_true,get_is f p e fu us _ h.dst,po_of,if_neg (show ¬ i.Op = 2 by omega),if_neg (show ¬ i.Op = 3 by omega)]
    by_cases hx : 16 ≤ (wordV f i).toNat
    · have d : decide (((wordV f i).toNat : Int) ≥ 16) = true:=by simp; omega
      simp only [d,cond_true,fail_is,po_of,if_pos hx]
    · have d : decide (((wordV f i).toNat : Int) ≥ 16) = false:=by simp; omega
      simp only [d,cond_false,El (show (wordV f i).toNat < 16 by omega),pl,if_neg hx]
noncomputable def helpS (f : Fra) (e : Be) (err : Int) (i : Ap) : Fra × Be × Int:=
  if argsN (i.Imm.toNat : Int) < 0 then (f,e,failE err 10)
  else if handE f err (argsN (i.Imm.toNat : Int)).toNat ≠ 0 then (f,e,handE f err (argsN (i.Imm.toNat : Int)).toNat)
  else match Lk (i.Imm.toNat : Int) e (handV f (argsN (i.Imm.toNat : Int)).toNat) with
    | some (e',v,x)=>if x ≠ 0 then (f,e,10) else (backF f v,e',0)
    | none=>(f,e,0)
theorem argsN_le (n : Int) : argsN n ≤ 4:=by
  unfold argsN
  repeat' split
  all_goals omega
theorem helpS_is (f : Fra) (p : Ar) (e : Be) (fu us err : Int) (i : Ap) (hF : Fits e.T) :
    Hh f ⟨p,e,fu,us,err⟩ i = some ((helpS f e err i).1,⟨p,(helpS f e err i).2.1,fu,us,(helpS f e err i).2.2⟩):=by
  unfold Hh helpS
  simp only [args_is,po_of]
  by_cases h1 : argsN (i.Imm.toNat : Int) < 0
  · simp only [decide_eq_true h1,cond_true,fail_is,po_of,if_pos h1]
  · obtain ⟨k,hk⟩ : ∃ k : Nat,argsN (i.Imm.toNat : Int) = (k : Int):=⟨_,(Int.toNat_of_nonneg (by omega)).symm⟩
    have hle:=argsN_le (i.Imm.toNat : Int)
    simp only [decide_eq_false h1,cond_false,if_neg h1]
    rw [hk]
    simp only [hand_is f p e fu us err (show k ≤ 7 by omega),po_of,Int.toNat_natCast]
    by_cases h2 : handE f err k = 0
    · have d : (handE f err k != 0) = false:=by simpa using h2
      simp only [d,cond_false,if_neg (show ¬ (handE f err k ≠ 0) from fun q=>q h2)]
      obtain ⟨e',v,x,hr,_⟩:=call_nil (n:=(i.Imm.toNat : Int)) (a:=handV f k) hF
      simp only [hr,po_of]
      by_cases h3 : x = 0
      · have d : (x != 0) = false:=by simpa using h3
        simp only [d,cond_false,back_is,po_of,if_neg (show ¬ (x ≠ 0) from fun q=>q h3),h2]
      · have d : (x != 0) = true:=by simpa using h3
        simp only [d,cond_true,fail_is,po_of,if_pos h3,h2]
        rfl
    · have d : (handE f err k != 0) = true:=by simpa using h2
      simp only [d,cond_true,if_pos h2]
def exitS (f : Fra) (err : Int) : Fra × Int:=(⟨f.fn,f.at_,f.regs,f.set,f.stack,true⟩,getE f err 0)
theorem exitS_is (f : Fra) (p : Ar) (e : Be) (fu us err : Int) (i : Ap) :
    Hi f ⟨p,e,fu,us,err⟩ i = some ((exitS f err).1,⟨p,e,fu,us,(exitS f err).2⟩):=by
  unfold Hi exitS
  rw [get_is f p e fu us err (by decide)]
  rfl
noncomputable def opS (f : Fra) (e : Be) (err : Int) (i : Ap) : Fra × Be × Int:=
  if i.Op = 0 then ((aluS f err i).1,e,(aluS f err i).2)
  else if i.Op = 1 then ((jumpS f err i).1,e,(jumpS f err i).2)
  else if i.Op = 5 then helpS f e err i
  else if i.Op = 7 then ((exitS f err).1,e,(exitS f err).2)
  else ((wordsS f e.Ctx err i).1,e,(wordsS f e.Ctx err i).2)
theorem failE_or {err : Int} (h : err = 0 ∨ err = 10) : failE err 10 = 0 ∨ failE err 10 = 10:=by
  unfold failE
  split
  · exact .inr rfl
  · exact h
theorem getE_or {f : Fra} {err : Int} {n : Nat} (h : err = 0 ∨ err = 10) : getE f err n = 0 ∨ getE f err n = 10:=by
  unfold getE
  split
  · exact h
  · exact failE_or h
theorem wordE_or {f : Fra} {err : Int} {i : Ap} (h : err = 0 ∨ err = 10) : wordE f err i = 0 ∨ wordE f err i = 10:=by
  unfold wordE
  split
  · exact getE_or h
  · exact h
theorem handE_or {f : Fra} {err : Int} {n : Nat} (h : err = 0 ∨ err = 10) : handE f err n = 0 ∨ handE f err n = 10:=by
  induction n with
  | zero=>exact h
  | succ n ih=>exact getE_or ih
structure EKeep (e e' : Be) : Prop where
  ctx : e'.Ctx = e.Ctx
  len : e'.T.length = e.T.length
  fits : Fits e'.T
theorem EKeep.refl {e : Be} (h : Fits e.T) : EKeep e e:=⟨rfl,rfl,h⟩
theorem EKeep.trans {a b c : Be} (h : EKeep a b) (k : EKeep b c) : EKeep a c:=⟨k.ctx.trans h.ctx,k.len.trans h.len,k.fits⟩
theorem call_keeps {n : Int} {e e' : Be} {a : List UInt32} {v : UInt32} (hF : Fits e.T) (h : Lk n e a = some (e',v,0)) : EKeep e e':=by
  obtain ⟨e2,v2,x,hr,hR⟩:=call_nil (n:=n) (a:=a) hF
  rw [h] at hr
  injection hr with hr
  injection hr with h1 hr
  injection hr with h2 h3
  subst h1
  obtain ⟨q1,q2⟩:=hR h3.symm
  exact ⟨q1,by rw [q2,hF.nil],⟨q2⟩⟩
structure OpKeep (f : Fra) (e : Be) (q : Fra × Be × Int) : Prop where
  fn : q.1.fn = f.fn
  at_ : f.at_ ≤ q.1.at_ ∧ q.1.at_ ≤ f.at_ + 65535
  e : EKeep e q.2.1
  err : q.2.2 = 0 ∨ q.2.2 = 10
theorem clrF_at (f : Fra) (k : Nat) : (clrF f k).fn = f.fn ∧ (clrF f k).at_ = f.at_:=by
  induction k with
  | zero=>exact ⟨rfl,rfl⟩
  | succ k ih=>exact ih
theorem op_keeps (f : Fra) {e : Be} {i : Ap} (h : InstOk i) (hF : Fits e.T) : OpKeep f e (opS f e 0 i):=by
  have o0 : (0 : Int) = 0 ∨ (0 : Int) = 10:=.inl rfl
  have same : ∀ (g : Fra) (err : Int),g.fn = f.fn → f.at_ ≤ g.at_ ∧ g.at_ ≤ f.at_ + 65535 → (err = 0 ∨ err = 10) → OpKeep f e (g,e,err):=fun g err h1 h2 h3=>⟨h1,h2,.refl hF,h3⟩
  have ho:=h.off
  unfold opS
  split
  · refine same _ _ rfl ⟨Int.le_refl _,by show f.at_ ≤ _; omega⟩ ?_
    unfold aluS
    simp only
    split
    · exact wordE_or o0
    · exact getE_or (wordE_or o0)
  · split
    · unfold jumpS
      split
      · exact same _ _ rfl ⟨by show f.at_ ≤ f.at_ + i.Off; omega,by show f.at_ + i.Off ≤ _; omega⟩ o0
      · refine same _ _ ?_ ?_ (wordE_or (getE_or o0))
        · simp only
          split <;> rfl
        · simp only
          split
          · exact ⟨by show f.at_ ≤ f.at_ + i.Off; omega,by show f.at_ + i.Off ≤ _; omega⟩
          · exact ⟨Int.le_refl _,by show f.at_ ≤ _; omega⟩
    · split
      · unfold helpS
        split
        · exact same _ _ rfl ⟨Int.le_refl _,by show f.at_ ≤ _; omega⟩ (failE_or o0)
        · split
          · exact same _ _ rfl ⟨Int.le_refl _,by show f.at_ ≤ _; omega⟩ (handE_or o0)
          · split
            · rename_i e' v x hc
              split
              · exact same _ _ rfl ⟨Int.le_refl _,by show f.at_ ≤ _; omega⟩ (.inr rfl)
              · rename_i hx
                have hx0 : x = 0:=by omega
                subst hx0
                have hat:=clrF_at (putF f 0 v) 5
                refine ⟨hat.1,?_,call_keeps hF hc,.inl rfl⟩
                have h5 : (backF f v).at_ = f.at_:=hat.2
                show f.at_ ≤ (backF f v).at_ ∧ (backF f v).at_ ≤ _
                rw [h5]
                omega
            · exact same _ _ rfl ⟨Int.le_refl _,by show f.at_ ≤ _; omega⟩ o0
      · split
        · exact same _ _ rfl ⟨Int.le_refl _,by show f.at_ ≤ _; omega⟩ (getE_or o0)
        · unfold wordsS
          split
          · split
            · exact same _ _ rfl ⟨Int.le_refl _,by show f.at_ ≤ _; omega⟩ (failE_or (wordE_or o0))
            · exact same _ _ rfl ⟨Int.le_refl _,by show f.at_ ≤ _; omega⟩ (wordE_or o0)
          · split
            · split
              · exact same _ _ rfl ⟨Int.le_refl _,by show f.at_ ≤ _; omega⟩ (failE_or (wordE_or o0))
              · exact same _ _ rfl ⟨Int.le_refl _,by show f.at_ ≤ _; omega⟩ (wordE_or o0)
            · split
              · exact same _ _ rfl ⟨Int.le_refl _,by show f.at_ ≤ _; omega⟩ (failE_or (getE_or (wordE_or o0)))
              · exact same _ _ rfl ⟨Int.le_refl _,by show f.at_ ≤ _; omega⟩ (getE_or (wordE_or o0))
end Go.Proofs.YtcffmheeofjifaaGreat
