/- Packed texts: NboundsEnds, Nboundsspantold, NboundsJoin, NboundsOf, Uarenaend, It, Gp, Ge, Ninstin, Ninstrules, NinstMay, Ncoursemay1, Nprogfine1, NslicesIndexFuncapiInstapiInstprogfine1, NslicesContainsFuncapiInstapiInstprogfine1, NslicesIndexFuncapiInstapiInstcoursemay1, NslicesContainsFuncapiInstapiInstcoursemay1, Ncoursemay, Ncoursenext, NcourseLongest, Nprogfine, NprogMay1, NslicesIndexFuncapiFnapiFnprogMay1, NslicesContainsFuncapiFnapiFnprogMay1, NprogMay, NcourseBudget, Ndrydockref01Words, Nschemain, NschemaMay, NschemaStep, NshapeMay, Nshapeall, Nshapein, NshapePut, NshapeJoin, Nverifyworkto, NshapeNew, NverifyShapes1, Nverifyworkalu, Nverifyworkcall, Nverifyworkhere, Nverifyworkthen, Nverifyworkput, Nverifyworkwithin, NshapeGet, NshapeWord, Nverifyworkword, Nverifyworkctx, Nverifyworkget, Nverifyworkexit, Nverifyworkhelp, Nverifyworkjump, Nverifyworkload, Nverifyworkstore, Nverifykinds, NslicesIndexFuncapiSchemaapiSchemaverifyShapes1, NslicesContainsFuncapiSchemaapiSchemaverifyShapes1, NverifyShapes, Nverifyinside, NverifyVerify, NshiftFits, Nshiftmay, Ninterpframealu, Ninterpframecall, Ninterprunfail, Ninterpframeget, Ninterpframeexit, Ninterpframehelp, Ninterpframejump, Ninterpframeput, Ninterpframeword, Ninterpframewords. -/
import Derived.Test.YtcffmheeofjifaaGreatSb3
set_option linter.unusedVariables false
set_option linter.unusedSimpArgs false
set_option maxHeartbeats 4000000
set_option maxRecDepth 100000
namespace Go.Proofs.YtcffmheeofjifaaGreat
open Go Go.RowKit Go.Proofs.Tryz
noncomputable def p_bounds_Ends (a0 : C128) : Option (UInt32 × UInt32 × Bool) :=
  po (p_bounds_May a0) fun r1 =>
  cond (!r1) (
  some (0, 0, false)) (
  po (p_bounds_of a0) fun r3 =>
  some (r3.low.toUInt32, r3.high.toUInt32, true))
theorem c_bounds_Ends {a0 : C128} {r : UInt32 × UInt32 × Bool} (h : p_bounds_Ends a0 = some r) : Ctr prog 219 [.raw (.complex .f64 a0.re a0.im)] [] (.tup [ru r.1, ru r.2.1, rb r.2.2]) [] := by
 unfold p_bounds_Ends at h;refine Ctr.ofW tabOk func219 rfl call219 0 _ ntmps219 [.tmp 2,.tmp 3,.tmp 4] rfl rfl rfl (fun B => ?_);refine vs [0] (fun K hK => ?_);push_cast;refine hK _ ?_;clear hK K;refine VC.seq ?_;obtain ⟨r1,hr1,h⟩ := po_some h;refine vs [0,8] (fun K hK => ?_);push_cast;refine cp (c_bounds_May hr1) ?_;push_cast;refine hK _ ?_;clear hK K;refine vc h (fun hb2 h => ?_) (fun hb2 h => ?_)
 ·refine vs [2,3,4] (fun K hK => ?_);push_cast;refine hK _ ?_;clear hK K;refine VC.ret ?_;replace h := Option.some.inj h;subst h;exact en (by push_cast [hb2])
 ·refine VC.skip ?_;obtain ⟨r3,hr3,h⟩ := po_some h;refine vs [5] (fun K hK => ?_);push_cast;refine cp (c_bounds_of hr3) ?_;push_cast;refine hK _ ?_;clear hK K;refine vsD [some 11,some 12,some 13,some 14,some 15,some 16,some 2,some 3,some 4] [2,3,4] (fun K hK => ?_);push_cast;refine ⟨rfl,hK _ ?_⟩;clear hK K;refine VC.ret ?_;replace h := Option.some.inj h;subst h;exact en (by push_cast [hb2])
noncomputable def p_bounds_span_told (a0 : T_bounds_span) : Option (C128) :=
  some (C128.mk (i2f (a0.low.toNat : Int)) (i2f (a0.high.toNat : Int)))
theorem c_bounds_span_told {a0 : T_bounds_span} {r : C128} (h : p_bounds_span_told a0 = some r) : Ctr prog 227 [.agg (enc_bounds_span a0)] [] (.raw (.complex .f64 r.re r.im)) [] := by
 unfold p_bounds_span_told at h;refine Ctr.ofW tabOk func227 rfl call227 0 _ ntmps227 [.tmp 2] rfl rfl rfl (fun B => ?_);refine vs [1] (fun K hK => ?_);push_cast;refine hK _ ?_;clear hK K;refine vs [2] (fun K hK => ?_);push_cast;refine hK _ ?_;clear hK K;refine VC.ret ?_;replace h := Option.some.inj h;subst h;exact en (by push_cast)
noncomputable def p_bounds_Join (a0 : C128) (a1 : C128) : Option (C128) :=
  po (p_bounds_of a0) fun r1 =>
  po (p_bounds_of a1) fun r2 =>
  pl ((min64 r1.low r2.low)) fun c3 =>
  pl ((max64 r1.high r2.high)) fun c4 =>
  po (p_bounds_span_told (T_bounds_span.mk c3 c4)) fun r5 =>
  some r5
theorem c_bounds_Join {a0 : C128} {a1 : C128} {r : C128} (h : p_bounds_Join a0 a1 = some r) : Ctr prog 208 [.raw (.complex .f64 a0.re a0.im), .raw (.complex .f64 a1.re a1.im)] [] (.raw (.complex .f64 r.re r.im)) [] := by
 unfold p_bounds_Join at h;refine Ctr.ofW tabOk func208 rfl call208 0 _ ntmps208 [.tmp 4] rfl rfl rfl (fun B => ?_);refine vs [0,1] (fun K hK => ?_);push_cast;refine hK _ ?_;clear hK K;obtain ⟨r1,hr1,h⟩ := po_some h;obtain ⟨r2,hr2,h⟩ := po_some h;refine vs [5,6] (fun K hK => ?_);push_cast;refine cp (c_bounds_of hr1) ?_;push_cast;refine cp (c_bounds_of hr2) ?_;push_cast;refine hK _ ?_;clear hK K;obtain ⟨c3,hc3,h⟩ := pl_some h;have hc3i : (((min64 r1.low r2.low)).toNat : Int) = (c3.toNat : Int) := by rw [hc3]
 push_cast at hc3i;obtain ⟨c4,hc4,h⟩ := pl_some h;have hc4i : (((max64 r1.high r2.high)).toNat : Int) = (c4.toNat : Int) := by rw [hc4]
 push_cast at hc4i;obtain ⟨r5,hr5,h⟩ := po_some h;refine vs [4] (fun K hK => ?_);refine runOps_cut 8 (fun K2 hK2 => ?_);push_cast [hc3i,hc4i];(repeat refine .intro (by omega) ?_);refine hK2 _ _ ?_;clear hK2 K2;simp only [List.drop_succ_cons,List.drop_zero];push_cast [hc3i,hc4i];(repeat refine .intro (by omega) ?_);refine cp (c_bounds_span_told hr5) ?_;push_cast [hc3i,hc4i];(repeat refine .intro (by omega) ?_);refine hK _ ?_;clear hK K;refine VC.ret ?_;replace h := Option.some.inj h;subst h;exact en (by push_cast [hc3i,hc4i])
noncomputable def p_bounds_Of (a0 : UInt32) (a1 : UInt32) : Option (C128) :=
  pl ((min32 a0 a1).toUInt64) fun c1 =>
  pl ((max32 a0 a1).toUInt64) fun c2 =>
  po (p_bounds_span_told (T_bounds_span.mk c1 c2)) fun r3 =>
  some r3
theorem c_bounds_Of {a0 : UInt32} {a1 : UInt32} {r : C128} (h : p_bounds_Of a0 a1 = some r) : Ctr prog 205 [ru a0, ru a1] [] (.raw (.complex .f64 r.re r.im)) [] := by
 unfold p_bounds_Of at h;refine Ctr.ofW tabOk func205 rfl call205 0 _ ntmps205 [.tmp 4] rfl rfl rfl (fun B => ?_);refine vs [0,1] (fun K hK => ?_);push_cast;refine hK _ ?_;clear hK K;obtain ⟨c1,hc1,h⟩ := pl_some h;have hc1i : (((min32 a0 a1).toUInt64).toNat : Int) = (c1.toNat : Int) := by rw [hc1]
 push_cast at hc1i;obtain ⟨c2,hc2,h⟩ := pl_some h;have hc2i : (((max32 a0 a1).toUInt64).toNat : Int) = (c2.toNat : Int) := by rw [hc2]
 push_cast at hc2i;obtain ⟨r3,hr3,h⟩ := po_some h;refine vs [4] (fun K hK => ?_);refine runOps_cut 8 (fun K2 hK2 => ?_);push_cast [hc1i,hc2i];(repeat refine .intro (by omega) ?_);refine hK2 _ _ ?_;clear hK2 K2;simp only [List.drop_succ_cons,List.drop_zero];push_cast [hc1i,hc2i];(repeat refine .intro (by omega) ?_);refine cp (c_bounds_span_told hr3) ?_;push_cast [hc1i,hc2i];(repeat refine .intro (by omega) ?_);refine hK _ ?_;clear hK K;refine VC.ret ?_;replace h := Option.some.inj h;subst h;exact en (by push_cast [hc1i,hc2i])
theorem IR.zero {I : World → (Nat → Prop) → Prop} {s : St} {a : Act} {W : World} (h : IR I s a W) (ht : (s.tm.all fun p => p.2.in3 (Hp.has [])) = true) : IR I ⟨s.tm, [], 0, s.nt, 0⟩ a W := by
  obtain ⟨own, x, h1, h2, hC, h3⟩ := h
  have hS : SubH [] ([] : Hp) := fun id o h => h
  have hno : ∀ id g, ¬ (x.only (Hp.has [])).dom id g := fun id g h => by
    have := h.2
    simp [Hp.has, look] at this
  exact ⟨own, x.only (Hp.has []), h1, h2, ⟨hC.h.sub hS (Hp.has []) fun id o h => by simp [look] at h, fun t u hu => ((hC.t t u hu).in3_ (look_all ht hu)).mono (Mo.sub hS), hC.n, hC.d, Tr.refl _ _ _, Mo.refl _ _ _, fun id g h => absurd h (hno id g), Nat.le_refl _, fun id g h => absurd h (hno id g)⟩, h3⟩
theorem YV.zero {P : Program} {c : Code} {Q : Exit → St → (World → (Nat → Prop) → Prop) → Prop} {s : St} {I : World → (Nat → Prop) → Prop} (ht : (s.tm.all fun p => p.2.in3 (Hp.has [])) = true) (h : YV P c Q ⟨s.tm, [], 0, s.nt, 0⟩ I) : YV P c Q s I := fun a W hI => h a W (hI.zero ht)
attribute [push_cast] runPre argOk gdOk
/-! ### arena.gaps -/
theorem itC_len {P : Program} {gf : Nat} {sz i off : Nat} {pre : List AV} {t : Bool} {els : List (List AV)} {rest : List AV} {us : List (List AV)} (h : els.length < 9223372036854775808 → ItC P gf [.dat sz [pre ++ .sl t els :: rest] 0 0] us) : ItC P gf [.dat sz [pre ++ .sl t els :: rest] 0 0] us := by
  intro W0 x0 lb hH hsz hrel
  refine h ?_ W0 x0 lb hH hsz hrel
  have hv := hrel 0 _ rfl
  generalize lb.getD 0 undef = v at hv
  cases hv with
  | dat h => cases h
  | datp els' i off sz a vals hok hsz hcell hd =>
    have := hd (pre ++ .sl t els :: rest) pre.length (.sl t els) rfl (by simp)
    generalize vals pre.length = q at this
    cases this with
    | sl _ _ A c sz vals hc hm ht hsz hA hcell hd => 
      unfold maxLen at hm
      omega
/-! ### slices.Backward -/
def backL {α : Type} (l : List α) : List Int := ((List.range l.length).reverse).map fun (i : Nat) => (i : Int)
def encBk (u : Int) : List AV := [ri u, .dead]
theorem backL_len {α : Type} (l : List α) : (backL l).length = l.length := by simp [backL]
theorem backL_at {α : Type} {l : List α} {n : Nat} (h : n < l.length) : (backL l)[l.length - (n + 1)]? = some (n : Int) := by
  unfold backL
  rw [List.getElem?_map, List.getElem?_reverse (by simp; omega)]
  simp only [List.length_range]
  rw [show l.length - 1 - (l.length - (n + 1)) = n by omega, List.getElem?_range h]
  rfl
theorem c_slices_Backward_api_Fn_api_Fn (a : List T_Fn) : Ctr prog 131 [.sl false (a.map enc_Fn)] [] (.fn (.func 183) [] [.dat 1 [[.sl false (a.map enc_Fn)]] 0 0]) [] := by
  refine Ctr.ofW tabOk func131 rfl call131 0 _ ntmps131 [.tmp 2] rfl rfl rfl (fun B => ?_)
  refine vs [1] (fun K hK => ?_)
  push_cast
  refine hK _ ?_
  clear hK K
  refine VC.sub (Sub.freezeP (k := 1) rfl rfl rfl) ?_
  refine VC.sub (s' := ⟨[(1, .dat 1 [[.sl false (a.map enc_Fn)]] 0 0)], [], 2, 4, 0⟩) (so (by push_cast)) ?_
  refine vs [2] (fun K hK => ?_)
  push_cast
  refine hK _ ?_
  clear hK K
  refine VC.ret ?_
  exact en (by push_cast)
def bkS (l : Nat) (a : List T_Fn) (n : Nat) : St := ⟨[(0, .fn (.yield l) [] []), (1, .dat 1 [[.sl false (a.map enc_Fn)]] 0 0), (3, ri ((n : Int) - 1))], [], 0, 19, 0⟩
theorem it_slices_Backward_api_Fn_api_Fn (a : List T_Fn) : ItC prog 183 [.dat 1 [[.sl false (a.map enc_Fn)]] 0 0] ((backL a).map encBk) := by
  refine itC_len (pre := []) (rest := []) (i := 0) (off := 0) fun hlen => ?_
  simp only [List.length_map] at hlen
  have hul : ((backL a).map encBk).length = a.length := by rw [List.length_map, backL_len]
  refine ItC.of func183 rfl 19 ntmps183 rfl rfl rfl (fun l J Jx hJ hJx hJb hY => ?_)
  rw [hul]
  have hgx : GrowI (fun W (_ : Nat → Prop) => Jx W) := fun A A' own h hg => hJx A A' h hg
  refine YV.seq ?_
  refine YV.seg (hJ 0) (fun B => ?_)
  refine vl (fun K hK => ?_)
  have hw : IntKind.i64.wrap ((a.length : Int) - 1) = (a.length : Int) - 1 := wrap_i64 (by omega) (by omega)
  push_cast [hw]
  refine hK _ ?_
  clear hK K
  refine ⟨bkS l a a.length, so (by push_cast [bkS]), rfl, ?_⟩
  refine YV.block ?_
  refine YV.loop (bkS l a) (fun n => J (a.length - n)) (fun n => n ≤ a.length) (fun n => n) a.length (Nat.le_refl _) rfl (by rw [Nat.sub_self]) ?_
  intro n hn
  refine YV.seq ?_
  refine YV.seq ?_
  refine YV.seg (hJ _) (fun B => ?_)
  refine vl (fun K hK => ?_)
  push_cast [bkS]
  refine hK _ ?_
  clear hK K
  refine ⟨⟨(8, rb (decide ((n : Int) - 1 ≥ 0))) :: (bkS l a n).tm, [], 0, 19, 0⟩, so (by push_cast [bkS]), rfl, ?_⟩
  refine YV.cond rfl rfl (fun hc => ?_) (fun hc => ?_)
  case refine_2 =>
    refine YV.exit ?_
    have h0 : n = 0 := by
      have := of_decide_eq_false hc
      omega
    subst h0
    exact ⟨.inl rfl, .inl rfl⟩
  case refine_1 =>
    refine YV.skip ?_
    obtain ⟨m, rfl⟩ : ∃ m, n = m + 1 := by
      have := of_decide_eq_true hc
      exact ⟨n - 1, by omega⟩
    have hm : m < a.length := by omega
    have hmI : (m : Int) < (a.length : Int) := by omega
    have e1 : (((m + 1 : Nat) : Int) - 1) = (m : Int) := by omega
    obtain ⟨b, hb⟩ : ∃ b, a[m]? = some b := ⟨_, List.getElem?_eq_getElem hm⟩
    have hb2 : (a.map enc_Fn)[m]? = some (enc_Fn b) := by rw [List.getElem?_map, hb]; rfl
    have hu : ((backL a).map encBk)[a.length - (m + 1)]? = some (encBk (m : Int)) := by rw [List.getElem?_map, backL_at hm]; rfl
    show YV prog _ _ _ (J (a.length - (m + 1)))
    refine YV.seq ?_
    refine YV.block ?_
    refine YV.seq ?_
    simp only [bkS, e1]
    refine YV.yieldAt 6 (evOperF_ok tabOkF) rfl hJ hJx hJb hY hu rfl rfl (by exact rfl) rfl (fun K hK => ?_)
    push_cast [encBk, hb, hm, hmI]
    intro c
    refine hK _ _ ?_
    clear hK K
    refine ⟨⟨[(18, rb (!c)), (0, .fn (.yield l) [] []), (1, .dat 1 [[.sl false (a.map enc_Fn)]] 0 0), (3, ri (m : Int))], [], 6, 19, 6⟩, so (by push_cast), rfl, ?_⟩
    refine YV.zero rfl ?_
    refine YV.cond rfl rfl (fun h => ?_) (fun h => ?_)
    · have hcf : c = false := by simpa using h
      subst hcf
      exact YV.ret ⟨.inr rfl, .inr rfl⟩
    · have hct : c = true := by simpa using h
      subst hct
      refine YV.skip ?_
      have e2 : a.length - (m + 1) + 1 = a.length - m := by omega
      show YV prog _ _ _ (J (a.length - (m + 1) + 1))
      rw [e2]
      refine YV.seg (hJ _) (fun B => ?_)
      refine vl (fun K hK => ?_)
      have hw : IntKind.i64.wrap ((m : Int) - 1) = (m : Int) - 1 := wrap_i64 (by omega) (by omega)
      push_cast [hw]
      refine hK _ ?_
      clear hK K
      exact ⟨bkS l a m, so (by push_cast [bkS]), rfl, m, by omega, by show m < m + 1; omega, rfl, rfl⟩
theorem sh_gS (a : A8 Bool) (r : List AV) {n : Nat} (hn : n < 8) : (.raw (.bool a.a0) :: .raw (.bool a.a1) :: .raw (.bool a.a2) :: .raw (.bool a.a3) :: .raw (.bool a.a4) :: .raw (.bool a.a5) :: .raw (.bool a.a6) :: .raw (.bool a.a7) :: r)[n]? = some (.raw (.bool (a.get n))) := by
  rcases A8.cases hn with rfl | rfl | rfl | rfl | rfl | rfl | rfl | rfl <;> rfl
theorem sh_gR (c0 c1 c2 c3 c4 c5 c6 c7 : AV) (b : A8 C128) (r : List AV) {n : Nat} (hn : n < 8) : (c0 :: c1 :: c2 :: c3 :: c4 :: c5 :: c6 :: c7 :: .raw (.complex .f64 b.a0.re b.a0.im) :: .raw (.complex .f64 b.a1.re b.a1.im) :: .raw (.complex .f64 b.a2.re b.a2.im) :: .raw (.complex .f64 b.a3.re b.a3.im) :: .raw (.complex .f64 b.a4.re b.a4.im) :: .raw (.complex .f64 b.a5.re b.a5.im) :: .raw (.complex .f64 b.a6.re b.a6.im) :: .raw (.complex .f64 b.a7.re b.a7.im) :: r)[8 + n]? = some (.raw (.complex .f64 (b.get n).re (b.get n).im)) := by
  rcases A8.cases hn with rfl | rfl | rfl | rfl | rfl | rfl | rfl | rfl <;> rfl
theorem sh_sS (a : A8 Bool) (r : List AV) (v : Bool) {n : Nat} (hn : n < 8) : (.raw (.bool a.a0) :: .raw (.bool a.a1) :: .raw (.bool a.a2) :: .raw (.bool a.a3) :: .raw (.bool a.a4) :: .raw (.bool a.a5) :: .raw (.bool a.a6) :: .raw (.bool a.a7) :: r).set n (.raw (.bool v)) = .raw (.bool (a.set n v).a0) :: .raw (.bool (a.set n v).a1) :: .raw (.bool (a.set n v).a2) :: .raw (.bool (a.set n v).a3) :: .raw (.bool (a.set n v).a4) :: .raw (.bool (a.set n v).a5) :: .raw (.bool (a.set n v).a6) :: .raw (.bool (a.set n v).a7) :: r := by
  rcases A8.cases hn with rfl | rfl | rfl | rfl | rfl | rfl | rfl | rfl <;> rfl
theorem sh_sR (c0 c1 c2 c3 c4 c5 c6 c7 : AV) (b : A8 C128) (r : List AV) (x y : Nat) {n : Nat} (hn : n < 8) : (c0 :: c1 :: c2 :: c3 :: c4 :: c5 :: c6 :: c7 :: .raw (.complex .f64 b.a0.re b.a0.im) :: .raw (.complex .f64 b.a1.re b.a1.im) :: .raw (.complex .f64 b.a2.re b.a2.im) :: .raw (.complex .f64 b.a3.re b.a3.im) :: .raw (.complex .f64 b.a4.re b.a4.im) :: .raw (.complex .f64 b.a5.re b.a5.im) :: .raw (.complex .f64 b.a6.re b.a6.im) :: .raw (.complex .f64 b.a7.re b.a7.im) :: r).set (8 + n) (.raw (.complex .f64 x y)) = c0 :: c1 :: c2 :: c3 :: c4 :: c5 :: c6 :: c7 :: .raw (.complex .f64 (b.set n ⟨x, y⟩).a0.re (b.set n ⟨x, y⟩).a0.im) :: .raw (.complex .f64 (b.set n ⟨x, y⟩).a1.re (b.set n ⟨x, y⟩).a1.im) :: .raw (.complex .f64 (b.set n ⟨x, y⟩).a2.re (b.set n ⟨x, y⟩).a2.im) :: .raw (.complex .f64 (b.set n ⟨x, y⟩).a3.re (b.set n ⟨x, y⟩).a3.im) :: .raw (.complex .f64 (b.set n ⟨x, y⟩).a4.re (b.set n ⟨x, y⟩).a4.im) :: .raw (.complex .f64 (b.set n ⟨x, y⟩).a5.re (b.set n ⟨x, y⟩).a5.im) :: .raw (.complex .f64 (b.set n ⟨x, y⟩).a6.re (b.set n ⟨x, y⟩).a6.im) :: .raw (.complex .f64 (b.set n ⟨x, y⟩).a7.re (b.set n ⟨x, y⟩).a7.im) :: r := by
  rcases A8.cases hn with rfl | rfl | rfl | rfl | rfl | rfl | rfl | rfl <;> rfl
def tabf (l : List (Nat × Nat)) (k : Nat) : Nat := (look l k).getD k
def tabi (l : List (Nat × Nat)) : List (Nat × Nat) := l.map fun p => (p.2, p.1)
def tabc (l : List (Nat × Nat)) : Bool := l.all fun p => tabf (tabi l) p.2 == p.1 && tabf l p.1 == p.2 && (look l p.2).isSome && (look (tabi l) p.1).isSome
theorem look_mem {α : Type} {l : List (Nat × α)} {k : Nat} {v : α} (h : look l k = some v) : (k, v) ∈ l := by
  induction l with
  | nil => cases h
  | cons p l ih =>
    obtain ⟨j, u⟩ := p
    simp only [look] at h
    split at h
    · rename_i e
      injection h with h
      rw [e, h]
      exact List.mem_cons_self
    · exact List.mem_cons_of_mem _ (ih h)
theorem Bij.tab {l : List (Nat × Nat)} (h : tabc l = true) : Bij (tabf l) (tabf (tabi l)) := by
  have key : ∀ p ∈ l, (tabf (tabi l) p.2 = p.1 ∧ tabf l p.1 = p.2) ∧ (look l p.2).isSome = true ∧ (look (tabi l) p.1).isSome = true := by
    intro p hp
    have := (List.all_eq_true.1 h) p hp
    simp only [Bool.and_eq_true, beq_iff_eq] at this
    exact ⟨⟨this.1.1.1, this.1.1.2⟩, this.1.2, this.2⟩
  constructor
  · intro k
    cases hl : look l k with
    | some v =>
      have e : tabf l k = v := by simp [tabf, hl]
      rw [e]
      exact (key _ (look_mem hl)).1.1
    | none =>
      have e : tabf l k = k := by simp [tabf, hl]
      rw [e]
      cases hi : look (tabi l) k with
      | none => simp [tabf, hi]
      | some u =>
        obtain ⟨q, hq, e2⟩ := List.mem_map.1 (look_mem hi)
        injection e2 with e3 e4
        have := (key q hq).2.1
        rw [e3, hl] at this
        cases this
  · intro k
    cases hi : look (tabi l) k with
    | some u =>
      have e : tabf (tabi l) k = u := by simp [tabf, hi]
      rw [e]
      obtain ⟨q, hq, e2⟩ := List.mem_map.1 (look_mem hi)
      injection e2 with e3 e4
      have := (key q hq).1.2
      rw [e4, e3] at this
      exact this
    | none =>
      have e : tabf (tabi l) k = k := by simp [tabf, hi]
      rw [e]
      cases hl : look l k with
      | none => simp [tabf, hl]
      | some v =>
        have := (key _ (look_mem hl)).2.2
        rw [hi] at this
        cases this
attribute [push_cast] tabf tabi
theorem maxI_un (a b : Int) : maxI a b = if b > a then b else a := rfl
theorem minI_un (a b : Int) : minI a b = if b < a then b else a := rfl
attribute [push_cast] maxI_un minI_un
attribute [push_cast] enc_Shape sh_gS sh_gR sh_sS sh_sR
theorem at_A8_inst_rule (a : A8 T_inst_rule) {n : Nat} (hn : n < 8) : ((encA8 enc_inst_rule a).drop (n * 5)).take 5 = enc_inst_rule (a.get n) := encA8_at (f := enc_inst_rule) (k := 5) (fun _ => rfl) a hn
attribute [push_cast] at_A8_inst_rule
theorem len_A8_inst_rule (a : A8 T_inst_rule) : (encA8 enc_inst_rule a).length = 40 := rfl
attribute [push_cast] len_A8_inst_rule
noncomputable def p_inst_in_J1 (i_1 : Bool) : Option (Bool) :=
  some i_1
noncomputable def p_inst_in (a0 : Int) (a1 : Int) : Option (Bool) :=
  po (
  cond (decide (a0 ≥ 0)) (
  some (decide (a0 < a1))) (
  some false)) (fun x => p_inst_in_J1 x)
theorem c_inst_in {a0 : Int} {a1 : Int} {r : Bool} (h : p_inst_in a0 a1 = some r) : Ctr prog 152 [ri a0, ri a1] [] (rb r) [] := by
 unfold p_inst_in at h;refine Ctr.ofW tabOk func152 rfl call152 0 _ ntmps152 [.tmp 4] rfl rfl rfl (fun B => ?_);refine vs [0,1] (fun K hK => ?_);push_cast;refine hK _ ?_;clear hK K;refine vj h (fun x => ⟨[(4,rb x)],[],9,12,0⟩) (fun v1 h hk1 => ?_) ?_
 ·rcases Bool.eq_false_or_eq_true (decide (a0 ≥ 0)) with hb2 | hb2
  ·replace h := cond_yes hb2 h;refine vlG [some 5,some 6,some 7,some 8,some 9,some 10,some 11,some 4] (fun K hK => ?_);push_cast [hb2];(repeat refine .intro (by omega) ?_);refine hK _ ?_;clear hK K;refine ar h hk1 ?_;exact sl (by push_cast [hb2])
  ·replace h := cond_no hb2 h;refine vlG [some 5,some 6,some 7,some 8,some 9,some 10,some 11,some 4] (fun K hK => ?_);push_cast [hb2];(repeat refine .intro (by omega) ?_);refine hK _ ?_;clear hK K;refine ar h hk1 ?_;exact sl (by push_cast [hb2])
 ·rintro i_1 (h : p_inst_in_J1 i_1 = some r);(try push_cast);unfold p_inst_in_J1 at h;refine VC.ret ?_;replace h := Option.some.inj h;subst h;exact en (by push_cast)
noncomputable def p_inst_rules : Option ((A8 T_inst_rule)) :=
  some (A8.mk (T_inst_rule.mk 11 true true 0 true) (T_inst_rule.mk 5 true true 65535 true) (T_inst_rule.mk 1 true true 0 true) (T_inst_rule.mk 1 true true 0 true) (T_inst_rule.mk 1 true true 0 true) (T_inst_rule.mk 1 false false 0 true) (T_inst_rule.mk 1 false false 0 true) (T_inst_rule.mk 1 false false 0 false))
theorem c_inst_rules {r : (A8 T_inst_rule)} (h : p_inst_rules = some r) : Ctr prog 153 [] [] (.agg ((encA8 enc_inst_rule) r)) [] := by
 unfold p_inst_rules at h;refine Ctr.ofW tabOk func153 rfl call153 0 _ ntmps153 [.cell 0 247] rfl rfl rfl (fun B => ?_);refine vs [0] (fun K hK => ?_);push_cast (maxSteps := 9000000) [-partsQ];refine hK _ ?_;clear hK K;refine vs [0] (fun K hK => ?_);push_cast (maxSteps := 9000000) [-partsQ];refine hK _ ?_;clear hK K;refine VC.ret ?_;replace h := Option.some.inj h;subst h;exact en (by push_cast (maxSteps := 9000000) [-partsQ,encA8])
noncomputable def p_inst_May_J11 (a0 : T_Inst) (r8 : (A8 T_inst_rule)) (i_2 : Bool) : Option (T_inst_rule) :=
  cond i_2 (
  some (T_inst_rule.mk ((r8.get a0.Op.toNat).fns) false false ((r8.get a0.Op.toNat).off) false)) (
  some (r8.get a0.Op.toNat))
noncomputable def p_inst_May_J30 (i_5 : Bool) : Option (Bool) :=
  some i_5
noncomputable def p_inst_May_J32 (i_6 : Bool) : Option (Bool) :=
  some i_6
noncomputable def p_inst_May_J14 (a0 : T_Inst) (i_4 : Bool) : Option (Bool) :=
  cond a0.Reg (
  po (
  cond i_4 (
  some ((a0.Imm.toNat : Int) == 0)) (
  some false)) (fun x => p_inst_May_J30 x)) (
  po (
  cond i_4 (
  some (a0.Src == 0)) (
  some false)) (fun x => p_inst_May_J32 x))
noncomputable def p_inst_May_J10 (a0 : T_Inst) (s_3 : T_inst_rule) : Option (Bool) :=
  po (
  po (p_inst_in a0.Fn s_3.fns) fun r15 =>
  cond r15 (
  po (p_inst_in a0.Off (IntKind.i64.wrap (s_3.off + 1))) fun r17 =>
  cond r17 (
  cond s_3.dst (
  cond s_3.word (
  cond s_3.imm (
  some true) (
  some ((a0.Imm.toNat : Int) == 0))) (
  cond a0.Reg (
  some false) (
  cond s_3.imm (
  some true) (
  some ((a0.Imm.toNat : Int) == 0))))) (
  cond (a0.Dst == 0) (
  cond s_3.word (
  cond s_3.imm (
  some true) (
  some ((a0.Imm.toNat : Int) == 0))) (
  cond a0.Reg (
  some false) (
  cond s_3.imm (
  some true) (
  some ((a0.Imm.toNat : Int) == 0))))) (
  some false))) (
  some false)) (
  some false)) (fun x => p_inst_May_J14 a0 x)
noncomputable def p_inst_May_J1 (a0 : T_Inst) (i_1 : Bool) : Option (Bool) :=
  cond i_1 (
  some false) (
  po (p_inst_rules) fun r8 =>
  pg (0 ≤ a0.Op ∧ a0.Op < 8) <|
  po (
  po (
  cond (a0.Op == 1) (
  some (a0.Fn == 0)) (
  some false)) (fun x => p_inst_May_J11 a0 r8 x)) (fun x => p_inst_May_J10 a0 x))
noncomputable def p_inst_May (a0 : T_Inst) : Option (Bool) :=
  po (
  po (p_inst_in a0.Op 8) fun r2 =>
  cond r2 (
  po (p_inst_in a0.Dst 8) fun r4 =>
  cond r4 (
  po (p_inst_in a0.Src 8) fun r6 =>
  some (!r6)) (
  some true)) (
  some true)) (fun x => p_inst_May_J1 a0 x)
theorem c_inst_May {a0 : T_Inst} {r : Bool} (h : p_inst_May a0 = some r) : Ctr prog 115 [.agg (enc_Inst a0)] [] (rb r) [] := by
 unfold p_inst_May at h;refine Ctr.ofW tabOk func115 rfl call115 0 _ ntmps115 [.tmp 2] rfl rfl rfl (fun B => ?_);refine vs [1] (fun K hK => ?_);push_cast;refine hK _ ?_;clear hK K;refine VC.seq ?_;refine vj h (fun x => ⟨[(1,.ref 0 0),(20,rb x)],[(0,.box 37 (enc_Inst a0))],18,90,0⟩) (fun v1 h hk1 => ?_) ?_
 ·obtain ⟨r2,hr2,h⟩ := po_some h;rcases Bool.eq_false_or_eq_true r2 with hb3 | hb3
  ·replace h := cond_yes hb3 h;obtain ⟨r4,hr4,h⟩ := po_some h;rcases Bool.eq_false_or_eq_true r4 with hb5 | hb5
   ·replace h := cond_yes hb5 h;obtain ⟨r6,hr6,h⟩ := po_some h;refine vlG [some 5,some 6,some 7,some 8,some 9,some 10,some 11,some 12,some 13,some 14,some 15,some 16,some 17,some 18,some 19,some 20] (fun K hK => ?_);refine runOps_cut 8 (fun K2 hK2 => ?_);push_cast [hb3,hb5];(repeat refine .intro (by omega) ?_);refine cp (c_inst_in hr2) ?_;push_cast [hb3,hb5];(repeat refine .intro (by omega) ?_);refine cp (c_inst_in hr4) ?_;push_cast [hb3,hb5];(repeat refine .intro (by omega) ?_);refine hK2 _ _ ?_;clear hK2 K2;simp only [List.drop_succ_cons,List.drop_zero];push_cast [hb3,hb5];(repeat refine .intro (by omega) ?_);refine cp (c_inst_in hr6) ?_;push_cast [hb3,hb5];(repeat refine .intro (by omega) ?_);refine hK _ ?_;clear hK K;refine ar h hk1 ?_;exact sl (by push_cast [hb3,hb5])
   ·replace h := cond_no hb5 h;refine vlG [some 5,some 6,some 7,some 8,some 9,some 10,some 11,some 12,some 13,some 14,some 15,some 16,some 17,some 18,some 19,some 20] (fun K hK => ?_);refine runOps_cut 8 (fun K2 hK2 => ?_);push_cast [hb3,hb5];(repeat refine .intro (by omega) ?_);refine cp (c_inst_in hr2) ?_;push_cast [hb3,hb5];(repeat refine .intro (by omega) ?_);refine cp (c_inst_in hr4) ?_;push_cast [hb3,hb5];(repeat refine .intro (by omega) ?_);refine hK2 _ _ ?_;clear hK2 K2;simp only [List.drop_succ_cons,List.drop_zero];push_cast [hb3,hb5];(repeat refine .intro (by omega) ?_);refine hK _ ?_;clear hK K;refine ar h hk1 ?_;exact sl (by push_cast [hb3,hb5])
  ·replace h := cond_no hb3 h;refine vlG [some 5,some 6,some 7,some 8,some 9,some 10,some 11,some 12,some 13,some 14,some 15,some 16,some 17,some 18,some 19,some 20] (fun K hK => ?_);refine runOps_cut 8 (fun K2 hK2 => ?_);push_cast [hb3];(repeat refine .intro (by omega) ?_);refine cp (c_inst_in hr2) ?_;push_cast [hb3];(repeat refine .intro (by omega) ?_);refine hK2 _ _ ?_;clear hK2 K2;simp only [List.drop_succ_cons,List.drop_zero];push_cast [hb3];(repeat refine .intro (by omega) ?_);refine hK _ ?_;clear hK K;refine ar h hk1 ?_;exact sl (by push_cast [hb3])
 ·rintro i_1 (h : p_inst_May_J1 a0 i_1 = some r);(try push_cast);unfold p_inst_May_J1 at h;refine vc h (fun hb7 h => ?_) (fun hb7 h => ?_)
  ·refine vs [2] (fun K hK => ?_);push_cast;refine hK _ ?_;clear hK K;refine VC.ret ?_;replace h := Option.some.inj h;subst h;exact en (by push_cast [hb7])
  ·refine VC.skip ?_;obtain ⟨r8,hr8,h⟩ := po_some h;obtain ⟨hg9,h⟩ := pg_some h;have hg9n : a0.Op.toNat < 8 := by omega
   refine vsD [some 21,some 22,some 23,some 24,some 3,none] [1,3] (fun K hK => ?_);push_cast [hg9,hg9n];(repeat refine .intro (by omega) ?_);refine cpD (c_inst_rules hr8) ?_;push_cast [hg9,hg9n];(repeat refine .intro (by omega) ?_);refine ⟨rfl,hK _ ?_⟩;clear hK K;refine vj h (fun x => ⟨[(1,.ref 0 0),(3,.ref 22 0)],[(0,.box 37 (enc_Inst a0)),(22,.box 246 (enc_inst_rule x))],38,90,0⟩) (fun v10 h hk10 => ?_) ?_
   ·refine vj h (fun x => ⟨[(1,.ref 0 0),(3,.ref 22 0),(32,rb x)],[(0,.box 37 (enc_Inst a0)),(22,.box 246 (enc_inst_rule (r8.get a0.Op.toNat)))],32,90,0⟩) (fun v11 h hk11 => ?_) ?_
    ·rcases Bool.eq_false_or_eq_true (a0.Op == 1) with hb12 | hb12
     ·replace h := cond_yes hb12 h;refine vlG [some 25,some 26,some 27,some 28,some 29,some 30,some 31,some 32] (fun K hK => ?_);push_cast [hb12];(repeat refine .intro (by omega) ?_);refine hK _ ?_;clear hK K;refine ar h hk11 ?_;exact sl (by push_cast [hb7,hb12])
     ·replace h := cond_no hb12 h;refine vlG [some 25,some 26,some 27,some 28,some 29,some 30,some 31,some 32] (fun K hK => ?_);push_cast [hb12];(repeat refine .intro (by omega) ?_);refine hK _ ?_;clear hK K;refine ar h hk11 ?_;exact sl (by push_cast [hb7,hb12])
    ·rintro i_2 (h : p_inst_May_J11 a0 r8 i_2 = some v10);(try push_cast);unfold p_inst_May_J11 at h;refine vc h (fun hb13 h => ?_) (fun hb13 h => ?_)
     ·refine vl (fun K hK => ?_);push_cast;refine hK _ ?_;clear hK K;refine ar h hk10 ?_;exact sl (by push_cast [hb7,hb13])
     ·refine VC.skip ?_;refine ar h hk10 ?_;exact sl (by push_cast [hb7,hb13])
   ·rintro s_3 (h : p_inst_May_J10 a0 s_3 = some r);(try push_cast);unfold p_inst_May_J10 at h;refine vj h (fun x => ⟨[(1,.ref 0 0),(4,rb x)],[(0,.box 37 (enc_Inst a0))],79,90,0⟩) (fun v14 h hk14 => ?_) ?_
    ·obtain ⟨r15,hr15,h⟩ := po_some h;rcases Bool.eq_false_or_eq_true r15 with hb16 | hb16
     ·replace h := cond_yes hb16 h;obtain ⟨r17,hr17,h⟩ := po_some h;rcases Bool.eq_false_or_eq_true r17 with hb18 | hb18
      ·replace h := cond_yes hb18 h;rcases Bool.eq_false_or_eq_true s_3.dst with hb19 | hb19
       ·replace h := cond_yes hb19 h;rcases Bool.eq_false_or_eq_true s_3.word with hb20 | hb20
        ·replace h := cond_yes hb20 h;rcases Bool.eq_false_or_eq_true s_3.imm with hb21 | hb21
         ·replace h := cond_yes hb21 h;refine vlG [some 36,some 37,some 38,some 39,some 40,some 41,some 42,some 43,some 44,some 45,some 46,some 47,some 48,some 49,some 50,some 51,some 52,some 53,some 54,some 55,some 56,some 57,some 58,some 59,some 60,some 61,some 62,some 63,some 64,some 65,some 66,some 67,some 68,some 69,some 70,some 71,some 72,some 73,some 74,some 75,some 4] (fun K hK => ?_);refine runOps_cut 8 (fun K2 hK2 => ?_);push_cast [hb16,hb18,hb19,hb20,hb21];(repeat refine .intro (by omega) ?_);refine cp (c_inst_in hr15) ?_;push_cast [hb16,hb18,hb19,hb20,hb21];(repeat refine .intro (by omega) ?_);refine hK2 _ _ ?_;clear hK2 K2;simp only [List.drop_succ_cons,List.drop_zero];refine runOps_cut 8 (fun K2 hK2 => ?_);push_cast [hb16,hb18,hb19,hb20,hb21];(repeat refine .intro (by omega) ?_);refine cp (c_inst_in hr17) ?_;push_cast [hb16,hb18,hb19,hb20,hb21];(repeat refine .intro (by omega) ?_);refine hK2 _ _ ?_;clear hK2 K2;simp only [List.drop_succ_cons,List.drop_zero];refine runOps_cut 8 (fun K2 hK2 => ?_);push_cast [hb16,hb18,hb19,hb20,hb21];(repeat refine .intro (by omega) ?_);refine hK2 _ _ ?_;clear hK2 K2;simp only [List.drop_succ_cons,List.drop_zero];refine runOps_cut 8 (fun K2 hK2 => ?_);push_cast [hb16,hb18,hb19,hb20,hb21];(repeat refine .intro (by omega) ?_);refine hK2 _ _ ?_;clear hK2 K2;simp only [List.drop_succ_cons,List.drop_zero];push_cast [hb16,hb18,hb19,hb20,hb21];(repeat refine .intro (by omega) ?_);refine hK _ ?_;clear hK K;refine ar h hk14 ?_;exact sl (by push_cast [hb7,hb16,hb18,hb19,hb20,hb21])
         ·replace h := cond_no hb21 h;refine vlG [some 36,some 37,some 38,some 39,some 40,some 41,some 42,some 43,some 44,some 45,some 46,some 47,some 48,some 49,some 50,some 51,some 52,some 53,some 54,some 55,some 56,some 57,some 58,some 59,some 60,some 61,some 62,some 63,some 64,some 65,some 66,some 67,some 68,some 69,some 70,some 71,some 72,some 73,some 74,some 75,some 4] (fun K hK => ?_);refine runOps_cut 8 (fun K2 hK2 => ?_);push_cast [hb16,hb18,hb19,hb20,hb21];(repeat refine .intro (by omega) ?_);refine cp (c_inst_in hr15) ?_;push_cast [hb16,hb18,hb19,hb20,hb21];(repeat refine .intro (by omega) ?_);refine hK2 _ _ ?_;clear hK2 K2;simp only [List.drop_succ_cons,List.drop_zero];refine runOps_cut 8 (fun K2 hK2 => ?_);push_cast [hb16,hb18,hb19,hb20,hb21];(repeat refine .intro (by omega) ?_);refine cp (c_inst_in hr17) ?_;push_cast [hb16,hb18,hb19,hb20,hb21];(repeat refine .intro (by omega) ?_);refine hK2 _ _ ?_;clear hK2 K2;simp only [List.drop_succ_cons,List.drop_zero];refine runOps_cut 8 (fun K2 hK2 => ?_);push_cast [hb16,hb18,hb19,hb20,hb21];(repeat refine .intro (by omega) ?_);refine hK2 _ _ ?_;clear hK2 K2;simp only [List.drop_succ_cons,List.drop_zero];refine runOps_cut 8 (fun K2 hK2 => ?_);push_cast [hb16,hb18,hb19,hb20,hb21];(repeat refine .intro (by omega) ?_);refine hK2 _ _ ?_;clear hK2 K2;simp only [List.drop_succ_cons,List.drop_zero];push_cast [hb16,hb18,hb19,hb20,hb21];(repeat refine .intro (by omega) ?_);refine hK _ ?_;clear hK K;refine ar h hk14 ?_;exact sl (by push_cast [hb7,hb16,hb18,hb19,hb20,hb21])
        ·replace h := cond_no hb20 h;rcases Bool.eq_false_or_eq_true a0.Reg with hb22 | hb22
         ·replace h := cond_yes hb22 h;refine vlG [some 36,some 37,some 38,some 39,some 40,some 41,some 42,some 43,some 44,some 45,some 46,some 47,some 48,some 49,some 50,some 51,some 52,some 53,some 54,some 55,some 56,some 57,some 58,some 59,some 60,some 61,some 62,some 63,some 64,some 65,some 66,some 67,some 68,some 69,some 70,some 71,some 72,some 73,some 74,some 75,some 4] (fun K hK => ?_);refine runOps_cut 8 (fun K2 hK2 => ?_);push_cast [hb16,hb18,hb19,hb20,hb22];(repeat refine .intro (by omega) ?_);refine cp (c_inst_in hr15) ?_;push_cast [hb16,hb18,hb19,hb20,hb22];(repeat refine .intro (by omega) ?_);refine hK2 _ _ ?_;clear hK2 K2;simp only [List.drop_succ_cons,List.drop_zero];refine runOps_cut 8 (fun K2 hK2 => ?_);push_cast [hb16,hb18,hb19,hb20,hb22];(repeat refine .intro (by omega) ?_);refine cp (c_inst_in hr17) ?_;push_cast [hb16,hb18,hb19,hb20,hb22];(repeat refine .intro (by omega) ?_);refine hK2 _ _ ?_;clear hK2 K2;simp only [List.drop_succ_cons,List.drop_zero];refine runOps_cut 8 (fun K2 hK2 => ?_);push_cast [hb16,hb18,hb19,hb20,hb22];(repeat refine .intro (by omega) ?_);refine hK2 _ _ ?_;clear hK2 K2;simp only [List.drop_succ_cons,List.drop_zero];refine runOps_cut 8 (fun K2 hK2 => ?_);push_cast [hb16,hb18,hb19,hb20,hb22];(repeat refine .intro (by omega) ?_);refine hK2 _ _ ?_;clear hK2 K2;simp only [List.drop_succ_cons,List.drop_zero];push_cast [hb16,hb18,hb19,hb20,hb22];(repeat refine .intro (by omega) ?_);refine hK _ ?_;clear hK K;refine ar h hk14 ?_;exact sl (by push_cast [hb7,hb16,hb18,hb19,hb20,hb22])
         ·replace h := cond_no hb22 h;rcases Bool.eq_false_or_eq_true s_3.imm with hb23 | hb23
          ·replace h := cond_yes hb23 h;refine vlG [some 36,some 37,some 38,some 39,some 40,some 41,some 42,some 43,some 44,some 45,some 46,some 47,some 48,some 49,some 50,some 51,some 52,some 53,some 54,some 55,some 56,some 57,some 58,some 59,some 60,some 61,some 62,some 63,some 64,some 65,some 66,some 67,some 68,some 69,some 70,some 71,some 72,some 73,some 74,some 75,some 4] (fun K hK => ?_);refine runOps_cut 8 (fun K2 hK2 => ?_);push_cast [hb16,hb18,hb19,hb20,hb22,hb23];(repeat refine .intro (by omega) ?_);refine cp (c_inst_in hr15) ?_;push_cast [hb16,hb18,hb19,hb20,hb22,hb23];(repeat refine .intro (by omega) ?_);refine hK2 _ _ ?_;clear hK2 K2;simp only [List.drop_succ_cons,List.drop_zero];refine runOps_cut 8 (fun K2 hK2 => ?_);push_cast [hb16,hb18,hb19,hb20,hb22,hb23];(repeat refine .intro (by omega) ?_);refine cp (c_inst_in hr17) ?_;push_cast [hb16,hb18,hb19,hb20,hb22,hb23];(repeat refine .intro (by omega) ?_);refine hK2 _ _ ?_;clear hK2 K2;simp only [List.drop_succ_cons,List.drop_zero];refine runOps_cut 8 (fun K2 hK2 => ?_);push_cast [hb16,hb18,hb19,hb20,hb22,hb23];(repeat refine .intro (by omega) ?_);refine hK2 _ _ ?_;clear hK2 K2;simp only [List.drop_succ_cons,List.drop_zero];refine runOps_cut 8 (fun K2 hK2 => ?_);push_cast [hb16,hb18,hb19,hb20,hb22,hb23];(repeat refine .intro (by omega) ?_);refine hK2 _ _ ?_;clear hK2 K2;simp only [List.drop_succ_cons,List.drop_zero];push_cast [hb16,hb18,hb19,hb20,hb22,hb23];(repeat refine .intro (by omega) ?_);refine hK _ ?_;clear hK K;refine ar h hk14 ?_;exact sl (by push_cast [hb7,hb16,hb18,hb19,hb20,hb22,hb23])
          ·replace h := cond_no hb23 h;refine vlG [some 36,some 37,some 38,some 39,some 40,some 41,some 42,some 43,some 44,some 45,some 46,some 47,some 48,some 49,some 50,some 51,some 52,some 53,some 54,some 55,some 56,some 57,some 58,some 59,some 60,some 61,some 62,some 63,some 64,some 65,some 66,some 67,some 68,some 69,some 70,some 71,some 72,some 73,some 74,some 75,some 4] (fun K hK => ?_);refine runOps_cut 8 (fun K2 hK2 => ?_);push_cast [hb16,hb18,hb19,hb20,hb22,hb23];(repeat refine .intro (by omega) ?_);refine cp (c_inst_in hr15) ?_;push_cast [hb16,hb18,hb19,hb20,hb22,hb23];(repeat refine .intro (by omega) ?_);refine hK2 _ _ ?_;clear hK2 K2;simp only [List.drop_succ_cons,List.drop_zero];refine runOps_cut 8 (fun K2 hK2 => ?_);push_cast [hb16,hb18,hb19,hb20,hb22,hb23];(repeat refine .intro (by omega) ?_);refine cp (c_inst_in hr17) ?_;push_cast [hb16,hb18,hb19,hb20,hb22,hb23];(repeat refine .intro (by omega) ?_);refine hK2 _ _ ?_;clear hK2 K2;simp only [List.drop_succ_cons,List.drop_zero];refine runOps_cut 8 (fun K2 hK2 => ?_);push_cast [hb16,hb18,hb19,hb20,hb22,hb23];(repeat refine .intro (by omega) ?_);refine hK2 _ _ ?_;clear hK2 K2;simp only [List.drop_succ_cons,List.drop_zero];refine runOps_cut 8 (fun K2 hK2 => ?_);push_cast [hb16,hb18,hb19,hb20,hb22,hb23];(repeat refine .intro (by omega) ?_);refine hK2 _ _ ?_;clear hK2 K2;simp only [List.drop_succ_cons,List.drop_zero];push_cast [hb16,hb18,hb19,hb20,hb22,hb23];(repeat refine .intro (by omega) ?_);refine hK _ ?_;clear hK K;refine ar h hk14 ?_;exact sl (by push_cast [hb7,hb16,hb18,hb19,hb20,hb22,hb23])
       ·replace h := cond_no hb19 h;rcases Bool.eq_false_or_eq_true (a0.Dst == 0) with hb24 | hb24
        ·replace h := cond_yes hb24 h;rcases Bool.eq_false_or_eq_true s_3.word with hb25 | hb25
         ·replace h := cond_yes hb25 h;rcases Bool.eq_false_or_eq_true s_3.imm with hb26 | hb26
          ·replace h := cond_yes hb26 h;refine vlG [some 36,some 37,some 38,some 39,some 40,some 41,some 42,some 43,some 44,some 45,some 46,some 47,some 48,some 49,some 50,some 51,some 52,some 53,some 54,some 55,some 56,some 57,some 58,some 59,some 60,some 61,some 62,some 63,some 64,some 65,some 66,some 67,some 68,some 69,some 70,some 71,some 72,some 73,some 74,some 75,some 4] (fun K hK => ?_);refine runOps_cut 8 (fun K2 hK2 => ?_);push_cast [hb16,hb18,hb19,hb24,hb25,hb26];(repeat refine .intro (by omega) ?_);refine cp (c_inst_in hr15) ?_;push_cast [hb16,hb18,hb19,hb24,hb25,hb26];(repeat refine .intro (by omega) ?_);refine hK2 _ _ ?_;clear hK2 K2;simp only [List.drop_succ_cons,List.drop_zero];refine runOps_cut 8 (fun K2 hK2 => ?_);push_cast [hb16,hb18,hb19,hb24,hb25,hb26];(repeat refine .intro (by omega) ?_);refine cp (c_inst_in hr17) ?_;push_cast [hb16,hb18,hb19,hb24,hb25,hb26];(repeat refine .intro (by omega) ?_);refine hK2 _ _ ?_;clear hK2 K2;simp only [List.drop_succ_cons,List.drop_zero];refine runOps_cut 8 (fun K2 hK2 => ?_);push_cast [hb16,hb18,hb19,hb24,hb25,hb26];(repeat refine .intro (by omega) ?_);refine hK2 _ _ ?_;clear hK2 K2;simp only [List.drop_succ_cons,List.drop_zero];refine runOps_cut 8 (fun K2 hK2 => ?_);push_cast [hb16,hb18,hb19,hb24,hb25,hb26];(repeat refine .intro (by omega) ?_);refine hK2 _ _ ?_;clear hK2 K2;simp only [List.drop_succ_cons,List.drop_zero];push_cast [hb16,hb18,hb19,hb24,hb25,hb26];(repeat refine .intro (by omega) ?_);refine hK _ ?_;clear hK K;refine ar h hk14 ?_;exact sl (by push_cast [hb7,hb16,hb18,hb19,hb24,hb25,hb26])
          ·replace h := cond_no hb26 h;refine vlG [some 36,some 37,some 38,some 39,some 40,some 41,some 42,some 43,some 44,some 45,some 46,some 47,some 48,some 49,some 50,some 51,some 52,some 53,some 54,some 55,some 56,some 57,some 58,some 59,some 60,some 61,some 62,some 63,some 64,some 65,some 66,some 67,some 68,some 69,some 70,some 71,some 72,some 73,some 74,some 75,some 4] (fun K hK => ?_);refine runOps_cut 8 (fun K2 hK2 => ?_);push_cast [hb16,hb18,hb19,hb24,hb25,hb26];(repeat refine .intro (by omega) ?_);refine cp (c_inst_in hr15) ?_;push_cast [hb16,hb18,hb19,hb24,hb25,hb26];(repeat refine .intro (by omega) ?_);refine hK2 _ _ ?_;clear hK2 K2;simp only [List.drop_succ_cons,List.drop_zero];refine runOps_cut 8 (fun K2 hK2 => ?_);push_cast [hb16,hb18,hb19,hb24,hb25,hb26];(repeat refine .intro (by omega) ?_);refine cp (c_inst_in hr17) ?_;push_cast [hb16,hb18,hb19,hb24,hb25,hb26];(repeat refine .intro (by omega) ?_);refine hK2 _ _ ?_;clear hK2 K2;simp only [List.drop_succ_cons,List.drop_zero];refine runOps_cut 8 (fun K2 hK2 => ?_);push_cast [hb16,hb18,hb19,hb24,hb25,hb26];(repeat refine .intro (by omega) ?_);refine hK2 _ _ ?_;clear hK2 K2;simp only [List.drop_succ_cons,List.drop_zero];refine runOps_cut 8 (fun K2 hK2 => ?_);push_cast [hb16,hb18,hb19,hb24,hb25,hb26];(repeat refine .intro (by omega) ?_);refine hK2 _ _ ?_;clear hK2 K2;simp only [List.drop_succ_cons,List.drop_zero];push_cast [hb16,hb18,hb19,hb24,hb25,hb26];(repeat refine .intro (by omega) ?_);refine hK _ ?_;clear hK K;refine ar h hk14 ?_;exact sl (by push_cast [hb7,hb16,hb18,hb19,hb24,hb25,hb26])
         ·replace h := cond_no hb25 h;rcases Bool.eq_false_or_eq_true a0.Reg with hb27 | hb27
          ·replace h := cond_yes hb27 h;refine vlG [some 36,some 37,some 38,some 39,some 40,some 41,some 42,some 43,some 44,some 45,some 46,some 47,some 48,some 49,some 50,some 51,some 52,some 53,some 54,some 55,some 56,some 57,some 58,some 59,some 60,some 61,some 62,some 63,some 64,some 65,some 66,some 67,some 68,some 69,some 70,some 71,some 72,some 73,some 74,some 75,some 4] (fun K hK => ?_);refine runOps_cut 8 (fun K2 hK2 => ?_);push_cast [hb16,hb18,hb19,hb24,hb25,hb27];(repeat refine .intro (by omega) ?_);refine cp (c_inst_in hr15) ?_;push_cast [hb16,hb18,hb19,hb24,hb25,hb27];(repeat refine .intro (by omega) ?_);refine hK2 _ _ ?_;clear hK2 K2;simp only [List.drop_succ_cons,List.drop_zero];refine runOps_cut 8 (fun K2 hK2 => ?_);push_cast [hb16,hb18,hb19,hb24,hb25,hb27];(repeat refine .intro (by omega) ?_);refine cp (c_inst_in hr17) ?_;push_cast [hb16,hb18,hb19,hb24,hb25,hb27];(repeat refine .intro (by omega) ?_);refine hK2 _ _ ?_;clear hK2 K2;simp only [List.drop_succ_cons,List.drop_zero];refine runOps_cut 8 (fun K2 hK2 => ?_);push_cast [hb16,hb18,hb19,hb24,hb25,hb27];(repeat refine .intro (by omega) ?_);refine hK2 _ _ ?_;clear hK2 K2;simp only [List.drop_succ_cons,List.drop_zero];refine runOps_cut 8 (fun K2 hK2 => ?_);push_cast [hb16,hb18,hb19,hb24,hb25,hb27];(repeat refine .intro (by omega) ?_);refine hK2 _ _ ?_;clear hK2 K2;simp only [List.drop_succ_cons,List.drop_zero];push_cast [hb16,hb18,hb19,hb24,hb25,hb27];(repeat refine .intro (by omega) ?_);refine hK _ ?_;clear hK K;refine ar h hk14 ?_;exact sl (by push_cast [hb7,hb16,hb18,hb19,hb24,hb25,hb27])
          ·replace h := cond_no hb27 h;rcases Bool.eq_false_or_eq_true s_3.imm with hb28 | hb28
           ·replace h := cond_yes hb28 h;refine vlG [some 36,some 37,some 38,some 39,some 40,some 41,some 42,some 43,some 44,some 45,some 46,some 47,some 48,some 49,some 50,some 51,some 52,some 53,some 54,some 55,some 56,some 57,some 58,some 59,some 60,some 61,some 62,some 63,some 64,some 65,some 66,some 67,some 68,some 69,some 70,some 71,some 72,some 73,some 74,some 75,some 4] (fun K hK => ?_);refine runOps_cut 8 (fun K2 hK2 => ?_);push_cast [hb16,hb18,hb19,hb24,hb25,hb27,hb28];(repeat refine .intro (by omega) ?_);refine cp (c_inst_in hr15) ?_;push_cast [hb16,hb18,hb19,hb24,hb25,hb27,hb28];(repeat refine .intro (by omega) ?_);refine hK2 _ _ ?_;clear hK2 K2;simp only [List.drop_succ_cons,List.drop_zero];refine runOps_cut 8 (fun K2 hK2 => ?_);push_cast [hb16,hb18,hb19,hb24,hb25,hb27,hb28];(repeat refine .intro (by omega) ?_);refine cp (c_inst_in hr17) ?_;push_cast [hb16,hb18,hb19,hb24,hb25,hb27,hb28];(repeat refine .intro (by omega) ?_);refine hK2 _ _ ?_;clear hK2 K2;simp only [List.drop_succ_cons,List.drop_zero];refine runOps_cut 8 (fun K2 hK2 => ?_);push_cast [hb16,hb18,hb19,hb24,hb25,hb27,hb28];(repeat refine .intro (by omega) ?_);refine hK2 _ _ ?_;clear hK2 K2;simp only [List.drop_succ_cons,List.drop_zero];refine runOps_cut 8 (fun K2 hK2 => ?_);push_cast [hb16,hb18,hb19,hb24,hb25,hb27,hb28];(repeat refine .intro (by omega) ?_);refine hK2 _ _ ?_;clear hK2 K2;simp only [List.drop_succ_cons,List.drop_zero];push_cast [hb16,hb18,hb19,hb24,hb25,hb27,hb28];(repeat refine .intro (by omega) ?_);refine hK _ ?_;clear hK K;refine ar h hk14 ?_;exact sl (by push_cast [hb7,hb16,hb18,hb19,hb24,hb25,hb27,hb28])
           ·replace h := cond_no hb28 h;refine vlG [some 36,some 37,some 38,some 39,some 40,some 41,some 42,some 43,some 44,some 45,some 46,some 47,some 48,some 49,some 50,some 51,some 52,some 53,some 54,some 55,some 56,some 57,some 58,some 59,some 60,some 61,some 62,some 63,some 64,some 65,some 66,some 67,some 68,some 69,some 70,some 71,some 72,some 73,some 74,some 75,some 4] (fun K hK => ?_);refine runOps_cut 8 (fun K2 hK2 => ?_);push_cast [hb16,hb18,hb19,hb24,hb25,hb27,hb28];(repeat refine .intro (by omega) ?_);refine cp (c_inst_in hr15) ?_;push_cast [hb16,hb18,hb19,hb24,hb25,hb27,hb28];(repeat refine .intro (by omega) ?_);refine hK2 _ _ ?_;clear hK2 K2;simp only [List.drop_succ_cons,List.drop_zero];refine runOps_cut 8 (fun K2 hK2 => ?_);push_cast [hb16,hb18,hb19,hb24,hb25,hb27,hb28];(repeat refine .intro (by omega) ?_);refine cp (c_inst_in hr17) ?_;push_cast [hb16,hb18,hb19,hb24,hb25,hb27,hb28];(repeat refine .intro (by omega) ?_);refine hK2 _ _ ?_;clear hK2 K2;simp only [List.drop_succ_cons,List.drop_zero];refine runOps_cut 8 (fun K2 hK2 => ?_);push_cast [hb16,hb18,hb19,hb24,hb25,hb27,hb28];(repeat refine .intro (by omega) ?_);refine hK2 _ _ ?_;clear hK2 K2;simp only [List.drop_succ_cons,List.drop_zero];refine runOps_cut 8 (fun K2 hK2 => ?_);push_cast [hb16,hb18,hb19,hb24,hb25,hb27,hb28];(repeat refine .intro (by omega) ?_);refine hK2 _ _ ?_;clear hK2 K2;simp only [List.drop_succ_cons,List.drop_zero];push_cast [hb16,hb18,hb19,hb24,hb25,hb27,hb28];(repeat refine .intro (by omega) ?_);refine hK _ ?_;clear hK K;refine ar h hk14 ?_;exact sl (by push_cast [hb7,hb16,hb18,hb19,hb24,hb25,hb27,hb28])
        ·replace h := cond_no hb24 h;refine vlG [some 36,some 37,some 38,some 39,some 40,some 41,some 42,some 43,some 44,some 45,some 46,some 47,some 48,some 49,some 50,some 51,some 52,some 53,some 54,some 55,some 56,some 57,some 58,some 59,some 60,some 61,some 62,some 63,some 64,some 65,some 66,some 67,some 68,some 69,some 70,some 71,some 72,some 73,some 74,some 75,some 4] (fun K hK => ?_);refine runOps_cut 8 (fun K2 hK2 => ?_);push_cast [hb16,hb18,hb19,hb24];(repeat refine .intro (by omega) ?_);refine cp (c_inst_in hr15) ?_;push_cast [hb16,hb18,hb19,hb24];(repeat refine .intro (by omega) ?_);refine hK2 _ _ ?_;clear hK2 K2;simp only [List.drop_succ_cons,List.drop_zero];refine runOps_cut 8 (fun K2 hK2 => ?_);push_cast [hb16,hb18,hb19,hb24];(repeat refine .intro (by omega) ?_);refine cp (c_inst_in hr17) ?_;push_cast [hb16,hb18,hb19,hb24];(repeat refine .intro (by omega) ?_);refine hK2 _ _ ?_;clear hK2 K2;simp only [List.drop_succ_cons,List.drop_zero];refine runOps_cut 8 (fun K2 hK2 => ?_);push_cast [hb16,hb18,hb19,hb24];(repeat refine .intro (by omega) ?_);refine hK2 _ _ ?_;clear hK2 K2;simp only [List.drop_succ_cons,List.drop_zero];refine runOps_cut 8 (fun K2 hK2 => ?_);push_cast [hb16,hb18,hb19,hb24];(repeat refine .intro (by omega) ?_);refine hK2 _ _ ?_;clear hK2 K2;simp only [List.drop_succ_cons,List.drop_zero];push_cast [hb16,hb18,hb19,hb24];(repeat refine .intro (by omega) ?_);refine hK _ ?_;clear hK K;refine ar h hk14 ?_;exact sl (by push_cast [hb7,hb16,hb18,hb19,hb24])
      ·replace h := cond_no hb18 h;refine vlG [some 36,some 37,some 38,some 39,some 40,some 41,some 42,some 43,some 44,some 45,some 46,some 47,some 48,some 49,some 50,some 51,some 52,some 53,some 54,some 55,some 56,some 57,some 58,some 59,some 60,some 61,some 62,some 63,some 64,some 65,some 66,some 67,some 68,some 69,some 70,some 71,some 72,some 73,some 74,some 75,some 4] (fun K hK => ?_);refine runOps_cut 8 (fun K2 hK2 => ?_);push_cast [hb16,hb18];(repeat refine .intro (by omega) ?_);refine cp (c_inst_in hr15) ?_;push_cast [hb16,hb18];(repeat refine .intro (by omega) ?_);refine hK2 _ _ ?_;clear hK2 K2;simp only [List.drop_succ_cons,List.drop_zero];refine runOps_cut 8 (fun K2 hK2 => ?_);push_cast [hb16,hb18];(repeat refine .intro (by omega) ?_);refine cp (c_inst_in hr17) ?_;push_cast [hb16,hb18];(repeat refine .intro (by omega) ?_);refine hK2 _ _ ?_;clear hK2 K2;simp only [List.drop_succ_cons,List.drop_zero];refine runOps_cut 8 (fun K2 hK2 => ?_);push_cast [hb16,hb18];(repeat refine .intro (by omega) ?_);refine hK2 _ _ ?_;clear hK2 K2;simp only [List.drop_succ_cons,List.drop_zero];refine runOps_cut 8 (fun K2 hK2 => ?_);push_cast [hb16,hb18];(repeat refine .intro (by omega) ?_);refine hK2 _ _ ?_;clear hK2 K2;simp only [List.drop_succ_cons,List.drop_zero];push_cast [hb16,hb18];(repeat refine .intro (by omega) ?_);refine hK _ ?_;clear hK K;refine ar h hk14 ?_;exact sl (by push_cast [hb7,hb16,hb18])
     ·replace h := cond_no hb16 h;refine vlG [some 36,some 37,some 38,some 39,some 40,some 41,some 42,some 43,some 44,some 45,some 46,some 47,some 48,some 49,some 50,some 51,some 52,some 53,some 54,some 55,some 56,some 57,some 58,some 59,some 60,some 61,some 62,some 63,some 64,some 65,some 66,some 67,some 68,some 69,some 70,some 71,some 72,some 73,some 74,some 75,some 4] (fun K hK => ?_);refine runOps_cut 8 (fun K2 hK2 => ?_);push_cast [hb16];(repeat refine .intro (by omega) ?_);refine cp (c_inst_in hr15) ?_;push_cast [hb16];(repeat refine .intro (by omega) ?_);refine hK2 _ _ ?_;clear hK2 K2;simp only [List.drop_succ_cons,List.drop_zero];refine runOps_cut 8 (fun K2 hK2 => ?_);push_cast [hb16];(repeat refine .intro (by omega) ?_);refine hK2 _ _ ?_;clear hK2 K2;simp only [List.drop_succ_cons,List.drop_zero];refine runOps_cut 8 (fun K2 hK2 => ?_);push_cast [hb16];(repeat refine .intro (by omega) ?_);refine hK2 _ _ ?_;clear hK2 K2;simp only [List.drop_succ_cons,List.drop_zero];refine runOps_cut 8 (fun K2 hK2 => ?_);push_cast [hb16];(repeat refine .intro (by omega) ?_);refine hK2 _ _ ?_;clear hK2 K2;simp only [List.drop_succ_cons,List.drop_zero];push_cast [hb16];(repeat refine .intro (by omega) ?_);refine hK _ ?_;clear hK K;refine ar h hk14 ?_;exact sl (by push_cast [hb7,hb16])
    ·rintro i_4 (h : p_inst_May_J14 a0 i_4 = some r);(try push_cast);unfold p_inst_May_J14 at h;refine VC.seq ?_;refine vs [1,4,77] (fun K hK => ?_);push_cast;refine hK _ ?_;clear hK K;refine vc h (fun hb29 h => ?_) (fun hb29 h => ?_)
     ·refine vj h (fun x => ⟨[(2,rb x)],[],88,90,0⟩) (fun v30 h hk30 => ?_) ?_
      ·rcases Bool.eq_false_or_eq_true i_4 with hb31 | hb31
       ·replace h := cond_yes hb31 h;refine vlG [some 78,some 79,some 80,some 81,some 82,some 83,some 2] (fun K hK => ?_);push_cast [hb31];(repeat refine .intro (by omega) ?_);refine hK _ ?_;clear hK K;refine ar h hk30 ?_;exact sl (by push_cast [hb7,hb29,hb31])
       ·replace h := cond_no hb31 h;refine vlG [some 78,some 79,some 80,some 81,some 82,some 83,some 2] (fun K hK => ?_);push_cast [hb31];(repeat refine .intro (by omega) ?_);refine hK _ ?_;clear hK K;refine ar h hk30 ?_;exact sl (by push_cast [hb7,hb29,hb31])
      ·rintro i_5 (h : p_inst_May_J30 i_5 = some r);(try push_cast);unfold p_inst_May_J30 at h;refine VC.ret ?_;replace h := Option.some.inj h;subst h;exact en (by push_cast [hb7,hb29])
     ·refine VC.skip ?_;refine vj h (fun x => ⟨[(2,rb x)],[],88,90,0⟩) (fun v32 h hk32 => ?_) ?_
      ·rcases Bool.eq_false_or_eq_true i_4 with hb33 | hb33
       ·replace h := cond_yes hb33 h;refine vlG [some 84,some 85,some 86,some 87,some 88,some 89,some 2] (fun K hK => ?_);push_cast [hb33];(repeat refine .intro (by omega) ?_);refine hK _ ?_;clear hK K;refine ar h hk32 ?_;exact sl (by push_cast [hb7,hb29,hb33])
       ·replace h := cond_no hb33 h;refine vlG [some 84,some 85,some 86,some 87,some 88,some 89,some 2] (fun K hK => ?_);push_cast [hb33];(repeat refine .intro (by omega) ?_);refine hK _ ?_;clear hK K;refine ar h hk32 ?_;exact sl (by push_cast [hb7,hb29,hb33])
      ·rintro i_6 (h : p_inst_May_J32 i_6 = some r);(try push_cast);unfold p_inst_May_J32 at h;refine VC.ret ?_;replace h := Option.some.inj h;subst h;exact en (by push_cast [hb7,hb29])
noncomputable def p_course_may_1 (a0 : T_Inst) : Option (Bool) :=
  po (p_inst_May a0) fun r1 =>
  some (!r1)
theorem c_course_may_1 {a0 : T_Inst} {r : Bool} (h : p_course_may_1 a0 = some r) : Ctr prog 221 [.agg (enc_Inst a0)] [] (rb r) [] := by
 unfold p_course_may_1 at h;refine Ctr.ofW tabOk func221 rfl call221 0 _ ntmps221 [.tmp 2] rfl rfl rfl (fun B => ?_);refine vs [1] (fun K hK => ?_);push_cast;refine hK _ ?_;clear hK K;obtain ⟨r1,hr1,h⟩ := po_some h;refine vs [2] (fun K hK => ?_);push_cast;refine cp (c_inst_May hr1) ?_;push_cast;refine hK _ ?_;clear hK K;refine VC.ret ?_;replace h := Option.some.inj h;subst h;exact en (by push_cast)
noncomputable def p_prog_fine_1 (a0 : T_Inst) : Option (Bool) :=
  po (p_inst_May a0) fun r1 =>
  some (!r1)
theorem c_prog_fine_1 {a0 : T_Inst} {r : Bool} (h : p_prog_fine_1 a0 = some r) : Ctr prog 146 [.agg (enc_Inst a0)] [] (rb r) [] := by
 unfold p_prog_fine_1 at h;refine Ctr.ofW tabOk func146 rfl call146 0 _ ntmps146 [.tmp 2] rfl rfl rfl (fun B => ?_);refine vs [1] (fun K hK => ?_);push_cast;refine hK _ ?_;clear hK K;obtain ⟨r1,hr1,h⟩ := po_some h;refine vs [2] (fun K hK => ?_);push_cast;refine cp (c_inst_May hr1) ?_;push_cast;refine hK _ ?_;clear hK K;refine VC.ret ?_;replace h := Option.some.inj h;subst h;exact en (by push_cast)
noncomputable def p_slices_IndexFunc_api_Inst_api_Inst_prog_fine_1_L2 (a0 : (List T_Inst)) (i_1 : Int) : Option ((Int) ⊕ ((Unit) ⊕ (Int))) :=
  cond (decide (i_1 < (a0.length : Int))) (
  po (idx a0 i_1) fun x4 =>
  po (p_prog_fine_1 x4) fun r5 =>
  cond r5 (
  some (Sum.inr (Sum.inr i_1))) (
  some (Sum.inl (IntKind.i64.wrap (i_1 + 1))))) (
  some (Sum.inr (Sum.inl ())))
noncomputable def p_slices_IndexFunc_api_Inst_api_Inst_prog_fine_1_J1 : Option (Int) :=
  some (-1)
noncomputable def p_slices_IndexFunc_api_Inst_api_Inst_prog_fine_1 (a0 : (List T_Inst)) : Option (Int) :=
  pm (
  lpU (fun x => p_slices_IndexFunc_api_Inst_api_Inst_prog_fine_1_L2 a0 x) 0) (fun x => p_slices_IndexFunc_api_Inst_api_Inst_prog_fine_1_J1)
theorem c_slices_IndexFunc_api_Inst_api_Inst_prog_fine_1 {a0 : (List T_Inst)} {r : Int} (h : p_slices_IndexFunc_api_Inst_api_Inst_prog_fine_1 a0 = some r) : Ctr prog 192 [.sl false (a0.map enc_Inst), .fn (.func 146) [] []] [] (ri r) [] := by
 unfold p_slices_IndexFunc_api_Inst_api_Inst_prog_fine_1 at h;refine Ctr.ofW tabOk func192 rfl call192 0 _ ntmps192 [.tmp 4] rfl rfl rfl (fun B => ?_);refine vs [0,1] (fun K hK => ?_);push_cast;refine hK _ ?_;clear hK K;refine vm h (fun x => ⟨[],[],16,19,0⟩) (fun v1 h hk1 => ?_) ?_
 ·refine vs [0,1,7,8] (fun K hK => ?_);push_cast;refine hK _ ?_;clear hK K;refine VC.block ?_;refine VC.loopP h (fun x => ⟨[(0,.sl false (a0.map enc_Inst)),(1,.fn (.func 146) [] []),(7,ri (a0.length : Int)),(8,ri x)],[],15,19,0⟩) ?_ ?_
  ·exact sl (by push_cast)
  rintro i_1 b2 (h : p_slices_IndexFunc_api_Inst_api_Inst_prog_fine_1_L2 a0 i_1 = some b2) hf2;(try push_cast);unfold p_slices_IndexFunc_api_Inst_api_Inst_prog_fine_1_L2 at h;refine vs [0,1,7,8,9] (fun K hK => ?_);push_cast;refine hK _ ?_;clear hK K;refine VC.seq ?_;refine vc h (fun hb3 h => ?_) (fun hb3 h => ?_)
  ·refine VC.skip ?_;refine VC.seq ?_;refine VC.block ?_;refine vs [0,1,5,7,8] (fun K hK => ?_);push_cast;refine hK _ ?_;clear hK K;obtain ⟨x4,hx4,h⟩ := po_some h;replace hx4 := idx_some4 hx4;obtain ⟨r5,hr5,h⟩ := po_some h;refine vs [0,1,5,7,8,16] (fun K hK => ?_);push_cast [hx4];(repeat refine .intro (by omega) ?_);refine cp (c_prog_fine_1 hr5) ?_;push_cast [hx4];(repeat refine .intro (by omega) ?_);refine hK _ ?_;clear hK K;refine vc h (fun hb6 h => ?_) (fun hb6 h => ?_)
   ·refine vs [4] (fun K hK => ?_);push_cast;refine hK _ ?_;clear hK K;refine VC.ret ?_;replace h := ol h hf2;replace h := om h hk1;replace h := Option.some.inj h;subst h;exact en (by push_cast [hb3,hb6])
   ·refine VC.skip ?_;refine vl (fun K hK => ?_);push_cast;refine hK _ ?_;clear hK K;refine bk h ?_;exact sl (by push_cast [hb3,hb6])
  ·refine VC.exit ?_;replace h := ol h hf2;refine am h hk1 ?_;exact sl (by push_cast [hb3])
 ·rintro ⟨⟩ (h : p_slices_IndexFunc_api_Inst_api_Inst_prog_fine_1_J1 = some r);(try push_cast);unfold p_slices_IndexFunc_api_Inst_api_Inst_prog_fine_1_J1 at h;refine vs [4] (fun K hK => ?_);push_cast;refine hK _ ?_;clear hK K;refine VC.ret ?_;replace h := Option.some.inj h;subst h;exact en (by push_cast)
noncomputable def p_slices_ContainsFunc_api_Inst_api_Inst_prog_fine_1 (a0 : (List T_Inst)) : Option (Bool) :=
  po (p_slices_IndexFunc_api_Inst_api_Inst_prog_fine_1 a0) fun r1 =>
  some (decide (r1 ≥ 0))
theorem c_slices_ContainsFunc_api_Inst_api_Inst_prog_fine_1 {a0 : (List T_Inst)} {r : Bool} (h : p_slices_ContainsFunc_api_Inst_api_Inst_prog_fine_1 a0 = some r) : Ctr prog 147 [.sl false (a0.map enc_Inst), .fn (.func 146) [] []] [] (rb r) [] := by
 unfold p_slices_ContainsFunc_api_Inst_api_Inst_prog_fine_1 at h;refine Ctr.ofW tabOk func147 rfl call147 0 _ ntmps147 [.tmp 4] rfl rfl rfl (fun B => ?_);refine vs [0,1] (fun K hK => ?_);push_cast;refine hK _ ?_;clear hK K;obtain ⟨r1,hr1,h⟩ := po_some h;refine vs [4] (fun K hK => ?_);push_cast;refine cp (c_slices_IndexFunc_api_Inst_api_Inst_prog_fine_1 hr1) ?_;push_cast;refine hK _ ?_;clear hK K;refine VC.ret ?_;replace h := Option.some.inj h;subst h;exact en (by push_cast)
noncomputable def p_slices_IndexFunc_api_Inst_api_Inst_course_may_1_L2 (a0 : (List T_Inst)) (i_1 : Int) : Option ((Int) ⊕ ((Unit) ⊕ (Int))) :=
  cond (decide (i_1 < (a0.length : Int))) (
  po (idx a0 i_1) fun x4 =>
  po (p_course_may_1 x4) fun r5 =>
  cond r5 (
  some (Sum.inr (Sum.inr i_1))) (
  some (Sum.inl (IntKind.i64.wrap (i_1 + 1))))) (
  some (Sum.inr (Sum.inl ())))
noncomputable def p_slices_IndexFunc_api_Inst_api_Inst_course_may_1_J1 : Option (Int) :=
  some (-1)
noncomputable def p_slices_IndexFunc_api_Inst_api_Inst_course_may_1 (a0 : (List T_Inst)) : Option (Int) :=
  pm (
  lpU (fun x => p_slices_IndexFunc_api_Inst_api_Inst_course_may_1_L2 a0 x) 0) (fun x => p_slices_IndexFunc_api_Inst_api_Inst_course_may_1_J1)
theorem c_slices_IndexFunc_api_Inst_api_Inst_course_may_1 {a0 : (List T_Inst)} {r : Int} (h : p_slices_IndexFunc_api_Inst_api_Inst_course_may_1 a0 = some r) : Ctr prog 192 [.sl false (a0.map enc_Inst), .fn (.func 221) [] []] [] (ri r) [] := by
 unfold p_slices_IndexFunc_api_Inst_api_Inst_course_may_1 at h;refine Ctr.ofW tabOk func192 rfl call192 0 _ ntmps192 [.tmp 4] rfl rfl rfl (fun B => ?_);refine vs [0,1] (fun K hK => ?_);push_cast;refine hK _ ?_;clear hK K;refine vm h (fun x => ⟨[],[],16,19,0⟩) (fun v1 h hk1 => ?_) ?_
 ·refine vs [0,1,7,8] (fun K hK => ?_);push_cast;refine hK _ ?_;clear hK K;refine VC.block ?_;refine VC.loopP h (fun x => ⟨[(0,.sl false (a0.map enc_Inst)),(1,.fn (.func 221) [] []),(7,ri (a0.length : Int)),(8,ri x)],[],15,19,0⟩) ?_ ?_
  ·exact sl (by push_cast)
  rintro i_1 b2 (h : p_slices_IndexFunc_api_Inst_api_Inst_course_may_1_L2 a0 i_1 = some b2) hf2;(try push_cast);unfold p_slices_IndexFunc_api_Inst_api_Inst_course_may_1_L2 at h;refine vs [0,1,7,8,9] (fun K hK => ?_);push_cast;refine hK _ ?_;clear hK K;refine VC.seq ?_;refine vc h (fun hb3 h => ?_) (fun hb3 h => ?_)
  ·refine VC.skip ?_;refine VC.seq ?_;refine VC.block ?_;refine vs [0,1,5,7,8] (fun K hK => ?_);push_cast;refine hK _ ?_;clear hK K;obtain ⟨x4,hx4,h⟩ := po_some h;replace hx4 := idx_some4 hx4;obtain ⟨r5,hr5,h⟩ := po_some h;refine vs [0,1,5,7,8,16] (fun K hK => ?_);push_cast [hx4];(repeat refine .intro (by omega) ?_);refine cp (c_course_may_1 hr5) ?_;push_cast [hx4];(repeat refine .intro (by omega) ?_);refine hK _ ?_;clear hK K;refine vc h (fun hb6 h => ?_) (fun hb6 h => ?_)
   ·refine vs [4] (fun K hK => ?_);push_cast;refine hK _ ?_;clear hK K;refine VC.ret ?_;replace h := ol h hf2;replace h := om h hk1;replace h := Option.some.inj h;subst h;exact en (by push_cast [hb3,hb6])
   ·refine VC.skip ?_;refine vl (fun K hK => ?_);push_cast;refine hK _ ?_;clear hK K;refine bk h ?_;exact sl (by push_cast [hb3,hb6])
  ·refine VC.exit ?_;replace h := ol h hf2;refine am h hk1 ?_;exact sl (by push_cast [hb3])
 ·rintro ⟨⟩ (h : p_slices_IndexFunc_api_Inst_api_Inst_course_may_1_J1 = some r);(try push_cast);unfold p_slices_IndexFunc_api_Inst_api_Inst_course_may_1_J1 at h;refine vs [4] (fun K hK => ?_);push_cast;refine hK _ ?_;clear hK K;refine VC.ret ?_;replace h := Option.some.inj h;subst h;exact en (by push_cast)
noncomputable def p_slices_ContainsFunc_api_Inst_api_Inst_course_may_1 (a0 : (List T_Inst)) : Option (Bool) :=
  po (p_slices_IndexFunc_api_Inst_api_Inst_course_may_1 a0) fun r1 =>
  some (decide (r1 ≥ 0))
theorem c_slices_ContainsFunc_api_Inst_api_Inst_course_may_1 {a0 : (List T_Inst)} {r : Bool} (h : p_slices_ContainsFunc_api_Inst_api_Inst_course_may_1 a0 = some r) : Ctr prog 147 [.sl false (a0.map enc_Inst), .fn (.func 221) [] []] [] (rb r) [] := by
 unfold p_slices_ContainsFunc_api_Inst_api_Inst_course_may_1 at h;refine Ctr.ofW tabOk func147 rfl call147 0 _ ntmps147 [.tmp 4] rfl rfl rfl (fun B => ?_);refine vs [0,1] (fun K hK => ?_);push_cast;refine hK _ ?_;clear hK K;obtain ⟨r1,hr1,h⟩ := po_some h;refine vs [4] (fun K hK => ?_);push_cast;refine cp (c_slices_IndexFunc_api_Inst_api_Inst_course_may_1 hr1) ?_;push_cast;refine hK _ ?_;clear hK K;refine VC.ret ?_;replace h := Option.some.inj h;subst h;exact en (by push_cast)
noncomputable def p_course_may_J1 (i_1 : Bool) : Option (Bool) :=
  some i_1
noncomputable def p_course_may (a0 : (List T_Inst)) : Option (Bool) :=
  po (
  cond (decide ((a0.length : Int) > 0)) (
  cond (decide ((a0.length : Int) ≤ 64)) (
  po (p_slices_ContainsFunc_api_Inst_api_Inst_course_may_1 a0) fun r4 =>
  some (!r4)) (
  some false)) (
  some false)) (fun x => p_course_may_J1 x)
theorem c_course_may {a0 : (List T_Inst)} {r : Bool} (h : p_course_may a0 = some r) : Ctr prog 184 [.sl false (a0.map enc_Inst)] [] (rb r) [] := by
 unfold p_course_may at h;refine Ctr.ofW tabOk func184 rfl call184 0 _ ntmps184 [.tmp 2] rfl rfl rfl (fun B => ?_);refine vs [0] (fun K hK => ?_);push_cast;refine hK _ ?_;clear hK K;refine vj h (fun x => ⟨[(2,rb x)],[],15,16,0⟩) (fun v1 h hk1 => ?_) ?_
 ·rcases Bool.eq_false_or_eq_true (decide ((a0.length : Int) > 0)) with hb2 | hb2
  ·replace h := cond_yes hb2 h;rcases Bool.eq_false_or_eq_true (decide ((a0.length : Int) ≤ 64)) with hb3 | hb3
   ·replace h := cond_yes hb3 h;obtain ⟨r4,hr4,h⟩ := po_some h;refine vlG [some 3,some 4,some 5,some 6,some 7,some 8,some 9,some 10,some 11,some 12,some 13,some 14,some 15,some 2] (fun K hK => ?_);refine runOps_cut 8 (fun K2 hK2 => ?_);push_cast [hb2,hb3];(repeat refine .intro (by omega) ?_);refine hK2 _ _ ?_;clear hK2 K2;simp only [List.drop_succ_cons,List.drop_zero];push_cast [hb2,hb3];(repeat refine .intro (by omega) ?_);refine cp (c_slices_ContainsFunc_api_Inst_api_Inst_course_may_1 hr4) ?_;push_cast [hb2,hb3];(repeat refine .intro (by omega) ?_);refine hK _ ?_;clear hK K;refine ar h hk1 ?_;exact sl (by push_cast [hb2,hb3])
   ·replace h := cond_no hb3 h;refine vlG [some 3,some 4,some 5,some 6,some 7,some 8,some 9,some 10,some 11,some 12,some 13,some 14,some 15,some 2] (fun K hK => ?_);refine runOps_cut 8 (fun K2 hK2 => ?_);push_cast [hb2,hb3];(repeat refine .intro (by omega) ?_);refine hK2 _ _ ?_;clear hK2 K2;simp only [List.drop_succ_cons,List.drop_zero];push_cast [hb2,hb3];(repeat refine .intro (by omega) ?_);refine hK _ ?_;clear hK K;refine ar h hk1 ?_;exact sl (by push_cast [hb2,hb3])
  ·replace h := cond_no hb2 h;refine vlG [some 3,some 4,some 5,some 6,some 7,some 8,some 9,some 10,some 11,some 12,some 13,some 14,some 15,some 2] (fun K hK => ?_);refine runOps_cut 8 (fun K2 hK2 => ?_);push_cast [hb2];(repeat refine .intro (by omega) ?_);refine hK2 _ _ ?_;clear hK2 K2;simp only [List.drop_succ_cons,List.drop_zero];push_cast [hb2];(repeat refine .intro (by omega) ?_);refine hK _ ?_;clear hK K;refine ar h hk1 ?_;exact sl (by push_cast [hb2])
 ·rintro i_1 (h : p_course_may_J1 i_1 = some r);(try push_cast);unfold p_course_may_J1 at h;refine VC.ret ?_;replace h := Option.some.inj h;subst h;exact en (by push_cast)
noncomputable def p_course_next_J6 (a1 : Int) (x1 : T_Inst) (i_2 : Bool) : Option ((List Int)) :=
  cond i_2 (
  some ([(IntKind.i64.wrap (a1 + 1)), (IntKind.i64.wrap ((IntKind.i64.wrap (a1 + x1.Off)) + 1))])) (
  some ([(IntKind.i64.wrap (a1 + 1))]))
noncomputable def p_course_next_J3 (a1 : Int) (x1 : T_Inst) (i_1 : Bool) : Option ((List Int)) :=
  cond i_1 (
  some ([(IntKind.i64.wrap ((IntKind.i64.wrap (a1 + x1.Off)) + 1))])) (
  po (
  cond (x1.Op == 1) (
  some (decide (x1.Off > 0))) (
  some false)) (fun x => p_course_next_J6 a1 x1 x))
noncomputable def p_course_next (a0 : (List T_Inst)) (a1 : Int) : Option ((List Int)) :=
  po (idx a0 a1) fun x1 =>
  cond (x1.Op == 7) (
  some []) (
  po (
  cond (x1.Op == 1) (
  some (x1.Fn == 0)) (
  some false)) (fun x => p_course_next_J3 a1 x1 x))
theorem c_course_next {a0 : (List T_Inst)} {a1 : Int} {r : (List Int)} (h : p_course_next a0 a1 = some r) : Ctr prog 185 [.sl false (a0.map enc_Inst), ri a1] [] (.row 0 0 1 0 r.length) [(0, .row 3 1 0 (r.map encI64))] := by
 unfold p_course_next at h;refine Ctr.ofW tabOk func185 rfl call185 0 _ ntmps185 [.tmp 4] rfl rfl rfl (fun B => ?_);refine vs [0,1] (fun K hK => ?_);push_cast;refine hK _ ?_;clear hK K;obtain ⟨x1,hx1,h⟩ := po_some h;replace hx1 := idx_some4 hx1;refine vs [1,5] (fun K hK => ?_);push_cast [hx1];(repeat refine .intro (by omega) ?_);refine hK _ ?_;clear hK K;refine VC.seq ?_;refine VC.block ?_;refine vs [1,5,10] (fun K hK => ?_);push_cast;refine hK _ ?_;clear hK K;refine vc h (fun hb2 h => ?_) (fun hb2 h => ?_)
 ·refine vs [4] (fun K hK => ?_);push_cast;refine hK _ ?_;clear hK K;refine VC.ret ?_;replace h := Option.some.inj h;subst h;refine endS (so (s' := ⟨[(4,.sl true [])],[],12,49,0⟩) (by push_cast [hb2])) ?_;refine endS (Sub.adoptT (k := 4) (e := 3) (sz := 1) rfl) ?_;refine endS (Sub.renT (k := 4) (i' := 0) rfl rfl (Nat.le_of_ble_eq_true rfl) (Nat.le_of_ble_eq_true rfl) rfl) ?_;exact en (by push_cast [hb2])
 ·refine vj h (fun x => ⟨[(1,ri a1),(5,.ref 5 0),(14,rb x)],[(5,.box 37 (enc_Inst x1))],20,49,0⟩) (fun v3 h hk3 => ?_) ?_
  ·rcases Bool.eq_false_or_eq_true (x1.Op == 1) with hb4 | hb4
   ·replace h := cond_yes hb4 h;refine vlG [some 15,some 16,some 17,some 18,some 19,some 20,some 21,some 22,some 14] (fun K hK => ?_);push_cast [hb4];(repeat refine .intro (by omega) ?_);refine hK _ ?_;clear hK K;refine ar h hk3 ?_;exact sl (by push_cast [hb2,hb4])
   ·replace h := cond_no hb4 h;refine vlG [some 15,some 16,some 17,some 18,some 19,some 20,some 21,some 22,some 14] (fun K hK => ?_);push_cast [hb4];(repeat refine .intro (by omega) ?_);refine hK _ ?_;clear hK K;refine ar h hk3 ?_;exact sl (by push_cast [hb2,hb4])
  ·rintro i_1 (h : p_course_next_J3 a1 x1 i_1 = some r);(try push_cast);unfold p_course_next_J3 at h;refine vc h (fun hb5 h => ?_) (fun hb5 h => ?_)
   ·refine vs [4] (fun K hK => ?_);push_cast;refine hK _ ?_;clear hK K;refine VC.sub (s' := ⟨[(4,.row 25 0 1 0 1)],[(25,.row 3 1 0 (([(IntKind.i64.wrap ((IntKind.i64.wrap (a1 + x1.Off)) + 1))]).map encI64))],27,49,0⟩) (so (by push_cast [hb2,hb5])) ?_;refine VC.ret ?_;replace h := Option.some.inj h;subst h;refine endS (so (s' := ⟨[(4,.row 25 0 1 0 1)],[(25,.row 3 1 0 (([(IntKind.i64.wrap ((IntKind.i64.wrap (a1 + x1.Off)) + 1))]).map encI64))],27,49,0⟩) (by push_cast [hb2,hb5])) ?_;refine endS (Sub.renT (k := 4) (i' := 0) rfl rfl (Nat.le_of_ble_eq_true rfl) (Nat.le_of_ble_eq_true rfl) rfl) ?_;exact en (by push_cast [hb2,hb5])
   ·refine vj h (fun x => ⟨[(1,ri a1),(5,.ref 5 0),(29,rb x)],[(5,.box 37 (enc_Inst x1))],29,49,0⟩) (fun v6 h hk6 => ?_) ?_
    ·rcases Bool.eq_false_or_eq_true (x1.Op == 1) with hb7 | hb7
     ·replace h := cond_yes hb7 h;refine vlG [some 30,some 31,some 32,some 33,some 34,some 35,some 36,some 37,some 29] (fun K hK => ?_);push_cast [hb7];(repeat refine .intro (by omega) ?_);refine hK _ ?_;clear hK K;refine ar h hk6 ?_;exact sl (by push_cast [hb2,hb5,hb7])
     ·replace h := cond_no hb7 h;refine vlG [some 30,some 31,some 32,some 33,some 34,some 35,some 36,some 37,some 29] (fun K hK => ?_);push_cast [hb7];(repeat refine .intro (by omega) ?_);refine hK _ ?_;clear hK K;refine ar h hk6 ?_;exact sl (by push_cast [hb2,hb5,hb7])
    ·rintro i_2 (h : p_course_next_J6 a1 x1 i_2 = some r);(try push_cast);unfold p_course_next_J6 at h;refine vc h (fun hb8 h => ?_) (fun hb8 h => ?_)
     ·refine vs [4] (fun K hK => ?_);push_cast;refine hK _ ?_;clear hK K;refine VC.sub (s' := ⟨[(4,.row 36 0 1 0 2)],[(36,.row 3 1 0 (([(IntKind.i64.wrap (a1 + 1)),(IntKind.i64.wrap ((IntKind.i64.wrap (a1 + x1.Off)) + 1))]).map encI64))],38,49,0⟩) (so (by push_cast [hb2,hb5,hb8])) ?_;refine VC.ret ?_;replace h := Option.some.inj h;subst h;refine endS (so (s' := ⟨[(4,.row 36 0 1 0 2)],[(36,.row 3 1 0 (([(IntKind.i64.wrap (a1 + 1)),(IntKind.i64.wrap ((IntKind.i64.wrap (a1 + x1.Off)) + 1))]).map encI64))],38,49,0⟩) (by push_cast [hb2,hb5,hb8])) ?_;refine endS (Sub.renT (k := 4) (i' := 0) rfl rfl (Nat.le_of_ble_eq_true rfl) (Nat.le_of_ble_eq_true rfl) rfl) ?_;exact en (by push_cast [hb2,hb5,hb8])
     ·refine VC.skip ?_;refine vs [4] (fun K hK => ?_);push_cast;refine hK _ ?_;clear hK K;refine VC.sub (s' := ⟨[(4,.row 31 0 1 0 1)],[(31,.row 3 1 0 (([(IntKind.i64.wrap (a1 + 1))]).map encI64))],33,49,0⟩) (so (by push_cast [hb2,hb5,hb8])) ?_;refine VC.ret ?_;replace h := Option.some.inj h;subst h;refine endS (so (s' := ⟨[(4,.row 31 0 1 0 1)],[(31,.row 3 1 0 (([(IntKind.i64.wrap (a1 + 1))]).map encI64))],33,49,0⟩) (by push_cast [hb2,hb5,hb8])) ?_;refine endS (Sub.renT (k := 4) (i' := 0) rfl rfl (Nat.le_of_ble_eq_true rfl) (Nat.le_of_ble_eq_true rfl) rfl) ?_;exact en (by push_cast [hb2,hb5,hb8])
noncomputable def p_course_Longest_J8 (i_61 : Int) (i_62 : Int) (l_63 : (List Int)) : Option ((Int × (List Int) × Int) ⊕ (Int)) :=
  some (Sum.inl (i_62, l_63, (IntKind.i64.wrap (i_61 + 1))))
noncomputable def p_course_Longest_L6 (a0 : (List T_Inst)) (w_27 : (AN 65)) (r5 : (List Int)) (i_59 : Int) (l_60 : (List Int)) (i_61 : Int) : Option ((Int × (List Int) × Int) ⊕ (Int)) :=
  cond (decide (i_61 < (r5.length : Int))) (
  po (
  po (idx l_60 i_61) fun x9 =>
  cond (decide (x9 < (a0.length : Int))) (
  pg (0 ≤ x9 ∧ x9 < 65) <|
  some ((maxI i_59 (w_27.get x9.toNat)), l_60)) (
  some (i_59, l_60))) (fun x => p_course_Longest_J8 i_61 x.1 x.2)) (
  some (Sum.inr i_59))
noncomputable def p_course_Longest_J18 (x17 : Int) (i_68 : Bool) : Option (Int) :=
  cond i_68 (
  some (IntKind.i64.wrap (1 + x17))) (
  some 1)
noncomputable def p_course_Longest_J14 (a1 : (List Int)) (x13 : T_Inst) (i_67 : Bool) : Option (Int) :=
  cond i_67 (
  po (a1[x13.Imm.toNat]?) fun x17 =>
  po (
  cond (decide (x17 ≥ 0)) (
  some (decide (x17 ≤ 1000000))) (
  some false)) (fun x => p_course_Longest_J18 x17 x)) (
  some 1)
noncomputable def p_course_Longest_J12 (w_27 : (AN 65)) (i_28 : Int) (i_39 : Int) (i_52 : Int) : Option (((AN 65) × Int) ⊕ (Int)) :=
  pg (0 ≤ i_28 ∧ i_28 < 65) <|
  pl (w_27.set i_28.toNat (minI (IntKind.i64.wrap (i_52 + i_39)) 1000000)) fun y22 =>
  cond (decide ((IntKind.i64.wrap (i_28 - 1)) ≥ 0)) (
  some (Sum.inl (y22, (IntKind.i64.wrap (i_28 - 1))))) (
  some (Sum.inr (y22.get 0)))
noncomputable def p_course_Longest_J4 (a0 : (List T_Inst)) (a1 : (List Int)) (w_27 : (AN 65)) (i_28 : Int) (i_39 : Int) : Option (((AN 65) × Int) ⊕ (Int)) :=
  po (
  po (idx a0 i_28) fun x13 =>
  po (
  cond (x13.Op == 6) (
  some (decide (x13.Imm.toNat < a1.length))) (
  some false)) (fun x => p_course_Longest_J14 a1 x13 x)) (fun x => p_course_Longest_J12 w_27 i_28 i_39 x)
noncomputable def p_course_Longest_L3 (a0 : (List T_Inst)) (a1 : (List Int)) (w_27 : (AN 65)) (i_28 : Int) : Option (((AN 65) × Int) ⊕ (Int)) :=
  po (
  po (p_course_next a0 i_28) fun r5 =>
  lpU (fun x => p_course_Longest_L6 a0 w_27 r5 x.1 x.2.1 x.2.2) (0, r5, 0)) (fun x => p_course_Longest_J4 a0 a1 w_27 i_28 x)
noncomputable def p_course_Longest (a0 : (List T_Inst)) (a1 : (List Int)) : Option (Int) :=
  po (p_course_may a0) fun r1 =>
  cond (!r1) (
  some 0) (
  lpU (fun x => p_course_Longest_L3 a0 a1 x.1 x.2) ((AN.zero 65), (IntKind.i64.wrap ((a0.length : Int) - 1))))
theorem c_course_Longest {a0 : (List T_Inst)} {a1 : (List Int)} {r : Int} (h : p_course_Longest a0 a1 = some r) : Ctr prog 132 [.sl false (a0.map enc_Inst), .sl false (a1.map encI64)] [] (ri r) [] := by
 unfold p_course_Longest at h;refine Ctr.ofN tabOk func132 rfl call132 0 _ ntmps132 [.tmp 4] rfl rfl rfl (fun B hB => ?_);refine vs [0,1] (fun K hK => ?_);push_cast;refine hK _ ?_;clear hK K;refine VC.jumpsP hB (l := 0) (step := (fun x => p_course_Longest_L3 a0 a1 x.1 x.2)) rfl (fun x => ⟨[(0,.sl false (a0.map enc_Inst)),(1,.sl false (a1.map encI64)),(5,.ref 4 0),(6,ri x.2)],[(4,.box 267 (encAN x.1))],78,78,0⟩) ?_;refine VC.seq ?_;obtain ⟨r1,hr1,h⟩ := po_some h;refine vs [0,1,15] (fun K hK => ?_);push_cast;refine cp (c_course_may hr1) ?_;push_cast;refine hK _ ?_;clear hK K;refine vc h (fun hb2 h => ?_) (fun hb2 h => ?_)
 ·refine vs [4] (fun K hK => ?_);push_cast;refine hK _ ?_;clear hK K;refine VC.ret ?_;replace h := Option.some.inj h;subst h;exact en (by push_cast [hb2])
 ·refine VC.skip ?_;refine vs [0,1,5] (fun K hK => ?_);push_cast;refine hK _ ?_;clear hK K;refine VC.sub (s' := ⟨[(0,.sl false (a0.map enc_Inst)),(1,.sl false (a1.map encI64)),(5,.ref 4 0)],[(4,.box 267 (encAN (AN.zero 65)))],5,78,0⟩) (so (h4 := by first | exact rfl | simp [St.wf,AV.in3,AV.in2,AV.in1,AV.in0,AObj.inD,encAN_in,ri,ru,rb,enc_Inst]) (by push_cast [hb2,encAN,AN.zero,AN.un])) ?_;refine vs [0,1,5,6] (fun K hK => ?_);push_cast;refine hK _ ?_;clear hK K;refine VC.labelP h (fun x => ⟨[(0,.sl false (a0.map enc_Inst)),(1,.sl false (a1.map encI64)),(5,.ref 4 0),(6,ri x.2)],[(4,.box 267 (encAN x.1))],78,78,0⟩) ?_ ?_
  ·exact sl (h4 := by first | exact rfl | simp [St.wf,AV.in3,AV.in2,AV.in1,AV.in0,AObj.inD,encAN_in,ri,ru,rb,enc_Inst]) (by push_cast [hb2])
  rintro ⟨w_27,i_28⟩ b3 (h : p_course_Longest_L3 a0 a1 w_27 i_28 = some b3) hf3;(try push_cast);unfold p_course_Longest_L3 at h;refine vs [0,1,5,6,7] (fun K hK => ?_);push_cast;refine hK _ ?_;clear hK K;refine vj h (fun x => ⟨[(0,.sl false (a0.map enc_Inst)),(1,.sl false (a1.map encI64)),(5,.ref 4 0),(6,ri i_28),(7,ri x)],[(4,.box 267 (encAN w_27))],101,78,0⟩) (fun v4 h hk4 => ?_) ?_
  ·obtain ⟨r5,hr5,h⟩ := po_some h;refine vs [0,1,5,6,7,21,22,23] (fun K hK => ?_);push_cast;refine ch (H := []) (Ctr.loH (Ctr.ren (Bij.swp 0 81 Bij.id) (c_course_next hr5) (by push_cast) (by push_cast))) (by push_cast) ?_;push_cast;refine hK _ ?_;clear hK K;refine VC.sub (s' := ⟨[(0,.sl false (a0.map enc_Inst)),(1,.sl false (a1.map encI64)),(5,.ref 4 0),(6,ri i_28),(7,ri 0),(21,.row 81 0 1 0 r5.length),(22,ri (r5.length : Int)),(23,ri 0)],[(4,.box 267 (encAN w_27)),(81,.row 3 1 0 (r5.map encI64))],84,78,0⟩) (so (h4 := by first | exact rfl | simp [St.wf,AV.in3,AV.in2,AV.in1,AV.in0,AObj.inD,encAN_in,ri,ru,rb,enc_Inst]) (by push_cast [hb2])) ?_;refine VC.block ?_;refine VC.loopP h (fun x => ⟨[(0,.sl false (a0.map enc_Inst)),(1,.sl false (a1.map encI64)),(5,.ref 4 0),(6,ri i_28),(7,ri x.1),(21,.row 81 0 1 0 x.2.1.length),(22,ri (r5.length : Int)),(23,ri x.2.2)],[(4,.box 267 (encAN w_27)),(81,.row 3 1 0 (x.2.1.map encI64))],100,78,0⟩) ?_ ?_
   ·exact sl (h4 := by first | exact rfl | simp [St.wf,AV.in3,AV.in2,AV.in1,AV.in0,AObj.inD,encAN_in,ri,ru,rb,enc_Inst]) (by push_cast [hb2])
   rintro ⟨i_59,l_60,i_61⟩ b6 (h : p_course_Longest_L6 a0 w_27 r5 i_59 l_60 i_61 = some b6) hf6;(try push_cast);unfold p_course_Longest_L6 at h;refine vs [0,1,5,6,7,21,22,23,24] (fun K hK => ?_);push_cast;refine hK _ ?_;clear hK K;refine VC.seq ?_;refine vc h (fun hb7 h => ?_) (fun hb7 h => ?_)
   ·refine VC.skip ?_;refine vj h (fun x => ⟨[(0,.sl false (a0.map enc_Inst)),(1,.sl false (a1.map encI64)),(5,.ref 4 0),(6,ri i_28),(7,ri x.1),(21,.row 81 0 1 0 x.2.length),(22,ri (r5.length : Int)),(23,ri i_61)],[(4,.box 267 (encAN w_27)),(81,.row 3 1 0 (x.2.map encI64))],114,78,0⟩) (fun v8 h hk8 => ?_) ?_
    ·refine VC.block ?_;obtain ⟨x9,hx9,h⟩ := po_some h;replace hx9 := idx_some4 hx9;refine vs [0,1,5,6,7,9,21,22,23] (fun K hK => ?_);push_cast [hx9];(repeat refine .intro (by omega) ?_);refine hK _ ?_;clear hK K;refine vs [0,1,5,6,7,9,21,22,23,30] (fun K hK => ?_);push_cast;refine hK _ ?_;clear hK K;refine vc h (fun hb10 h => ?_) (fun hb10 h => ?_)
     ·obtain ⟨hg11,h⟩ := pg_some h;have hg11n : x9.toNat < 65 := by omega
      refine vl (fun K hK => ?_);push_cast [hg11,hg11n];(repeat refine .intro (by omega) ?_);refine hK _ ?_;clear hK K;refine ar h hk8 ?_;exact sl (h4 := by first | exact rfl | simp [St.wf,AV.in3,AV.in2,AV.in1,AV.in0,AObj.inD,encAN_in,ri,ru,rb,enc_Inst]) (by push_cast [hb2,hb7,hb10])
     ·refine VC.skip ?_;refine ar h hk8 ?_;exact sl (h4 := by first | exact rfl | simp [St.wf,AV.in3,AV.in2,AV.in1,AV.in0,AObj.inD,encAN_in,ri,ru,rb,enc_Inst]) (by push_cast [hb2,hb7,hb10])
    ·rintro ⟨i_62,l_63⟩ (h : p_course_Longest_J8 i_61 i_62 l_63 = some b6);(try push_cast);unfold p_course_Longest_J8 at h;refine vl (fun K hK => ?_);push_cast;refine hK _ ?_;clear hK K;refine bk h ?_;exact sl (h4 := by first | exact rfl | simp [St.wf,AV.in3,AV.in2,AV.in1,AV.in0,AObj.inD,encAN_in,ri,ru,rb,enc_Inst]) (by push_cast [hb2,hb7])
   ·refine VC.exit ?_;replace h := ol h hf6;refine ar h hk4 ?_;exact sl (h4 := by first | exact rfl | simp [St.wf,AV.in3,AV.in2,AV.in1,AV.in0,AObj.inD,encAN_in,ri,ru,rb,enc_Inst]) (by push_cast [hb2,hb7])
  ·rintro i_39 (h : p_course_Longest_J4 a0 a1 w_27 i_28 i_39 = some b3);(try push_cast);unfold p_course_Longest_J4 at h;refine vs [0,1,5,6,7,10] (fun K hK => ?_);push_cast;refine hK _ ?_;clear hK K;refine vj h (fun x => ⟨[(0,.sl false (a0.map enc_Inst)),(1,.sl false (a1.map encI64)),(5,.ref 4 0),(6,ri i_28),(7,ri i_39),(10,ri x)],[(4,.box 267 (encAN w_27))],135,78,0⟩) (fun v12 h hk12 => ?_) ?_
   ·obtain ⟨x13,hx13,h⟩ := po_some h;replace hx13 := idx_some4 hx13;refine vs [0,1,5,6,7,10,11] (fun K hK => ?_);push_cast [hx13];(repeat refine .intro (by omega) ?_);refine hK _ ?_;clear hK K;refine vj h (fun x => ⟨[(0,.sl false (a0.map enc_Inst)),(1,.sl false (a1.map encI64)),(5,.ref 4 0),(6,ri i_28),(7,ri i_39),(10,ri 1),(11,.ref 106 0),(51,rb x)],[(4,.box 267 (encAN w_27)),(106,.box 37 (enc_Inst x13))],119,78,0⟩) (fun v14 h hk14 => ?_) ?_
    ·rcases Bool.eq_false_or_eq_true (x13.Op == 6) with hb15 | hb15
     ·replace h := cond_yes hb15 h;refine vlG [some 41,some 42,some 43,some 44,some 45,some 46,some 47,some 48,some 49,some 50,some 51] (fun K hK => ?_);refine runOps_cut 8 (fun K2 hK2 => ?_);push_cast [hb15];(repeat refine .intro (by omega) ?_);refine hK2 _ _ ?_;clear hK2 K2;simp only [List.drop_succ_cons,List.drop_zero];push_cast [hb15];(repeat refine .intro (by omega) ?_);refine hK _ ?_;clear hK K;refine ar h hk14 ?_;exact sl (h4 := by first | exact rfl | simp [St.wf,AV.in3,AV.in2,AV.in1,AV.in0,AObj.inD,encAN_in,ri,ru,rb,enc_Inst]) (by push_cast [hb2,hb15])
     ·replace h := cond_no hb15 h;refine vlG [some 41,some 42,some 43,some 44,some 45,some 46,some 47,some 48,some 49,some 50,some 51] (fun K hK => ?_);refine runOps_cut 8 (fun K2 hK2 => ?_);push_cast [hb15];(repeat refine .intro (by omega) ?_);refine hK2 _ _ ?_;clear hK2 K2;simp only [List.drop_succ_cons,List.drop_zero];push_cast [hb15];(repeat refine .intro (by omega) ?_);refine hK _ ?_;clear hK K;refine ar h hk14 ?_;exact sl (h4 := by first | exact rfl | simp [St.wf,AV.in3,AV.in2,AV.in1,AV.in0,AObj.inD,encAN_in,ri,ru,rb,enc_Inst]) (by push_cast [hb2,hb15])
    ·rintro i_67 (h : p_course_Longest_J14 a1 x13 i_67 = some v12);(try push_cast);unfold p_course_Longest_J14 at h;refine vc h (fun hb16 h => ?_) (fun hb16 h => ?_)
     ·obtain ⟨x17,hx17,h⟩ := po_some h;replace hx17 := gL hx17;refine vs [0,1,5,6,7,10,12] (fun K hK => ?_);push_cast [hx17];(repeat refine .intro (by omega) ?_);refine hK _ ?_;clear hK K;refine vj h (fun x => ⟨[(0,.sl false (a0.map enc_Inst)),(1,.sl false (a1.map encI64)),(5,.ref 4 0),(6,ri i_28),(7,ri i_39),(10,ri 1),(12,ri x17),(62,rb x)],[(4,.box 267 (encAN w_27))],131,78,0⟩) (fun v18 h hk18 => ?_) ?_
      ·rcases Bool.eq_false_or_eq_true (decide (x17 ≥ 0)) with hb19 | hb19
       ·replace h := cond_yes hb19 h;refine vlG [some 57,some 58,some 59,some 60,some 61,some 62] (fun K hK => ?_);push_cast [hb19];(repeat refine .intro (by omega) ?_);refine hK _ ?_;clear hK K;refine ar h hk18 ?_;exact sl (h4 := by first | exact rfl | simp [St.wf,AV.in3,AV.in2,AV.in1,AV.in0,AObj.inD,encAN_in,ri,ru,rb,enc_Inst]) (by push_cast [hb2,hb16,hb19])
       ·replace h := cond_no hb19 h;refine vlG [some 57,some 58,some 59,some 60,some 61,some 62] (fun K hK => ?_);push_cast [hb19];(repeat refine .intro (by omega) ?_);refine hK _ ?_;clear hK K;refine ar h hk18 ?_;exact sl (h4 := by first | exact rfl | simp [St.wf,AV.in3,AV.in2,AV.in1,AV.in0,AObj.inD,encAN_in,ri,ru,rb,enc_Inst]) (by push_cast [hb2,hb16,hb19])
      ·rintro i_68 (h : p_course_Longest_J18 x17 i_68 = some v12);(try push_cast);unfold p_course_Longest_J18 at h;refine vc h (fun hb20 h => ?_) (fun hb20 h => ?_)
       ·refine vl (fun K hK => ?_);push_cast;refine hK _ ?_;clear hK K;refine ar h hk12 ?_;exact sl (h4 := by first | exact rfl | simp [St.wf,AV.in3,AV.in2,AV.in1,AV.in0,AObj.inD,encAN_in,ri,ru,rb,enc_Inst]) (by push_cast [hb2,hb16,hb20])
       ·refine VC.skip ?_;refine ar h hk12 ?_;exact sl (h4 := by first | exact rfl | simp [St.wf,AV.in3,AV.in2,AV.in1,AV.in0,AObj.inD,encAN_in,ri,ru,rb,enc_Inst]) (by push_cast [hb2,hb16,hb20])
     ·refine VC.skip ?_;refine ar h hk12 ?_;exact sl (h4 := by first | exact rfl | simp [St.wf,AV.in3,AV.in2,AV.in1,AV.in0,AObj.inD,encAN_in,ri,ru,rb,enc_Inst]) (by push_cast [hb2,hb16])
   ·rintro i_52 (h : p_course_Longest_J12 w_27 i_28 i_39 i_52 = some b3);(try push_cast);unfold p_course_Longest_J12 at h;obtain ⟨hg21,h⟩ := pg_some h;have hg21n : i_28.toNat < 65 := by omega
    obtain ⟨y22,hy22,h⟩ := pl_some h;refine vs [0,1,5,6] (fun K hK => ?_);push_cast [hg21,hg21n];(repeat refine .intro (by omega) ?_);refine hK _ ?_;clear hK K;refine VC.seq ?_;refine vs [0,1,5,6] (fun K hK => ?_);push_cast;refine hK _ ?_;clear hK K;refine vs [0,1,5,6,75] (fun K hK => ?_);push_cast;refine hK _ ?_;clear hK K;refine vc h (fun hb23 h => ?_) (fun hb23 h => ?_)
    ·refine VC.goto ?_;refine ⟨rfl,bk h ?_⟩;exact sl (h4 := by first | exact rfl | simp [St.wf,AV.in3,AV.in2,AV.in1,AV.in0,AObj.inD,encAN_in,ri,ru,rb,enc_Inst]) (by push_cast [hb2,hy22,hb23])
    ·refine VC.skip ?_;refine vs [4] (fun K hK => ?_);push_cast;refine hK _ ?_;clear hK K;refine VC.ret ?_;replace h := ol h hf3;replace h := Option.some.inj h;subst h;exact en (by push_cast [hb2,hy22,hb23])
noncomputable def p_prog_fine_J1 (i_1 : Bool) : Option (Bool) :=
  some i_1
noncomputable def p_prog_fine (a0 : T_Fn) : Option (Bool) :=
  po (
  cond (decide (a0.Args ≥ 0)) (
  cond (decide (a0.Args ≤ 4)) (
  cond (decide ((a0.Code.length : Int) > 0)) (
  cond (decide ((a0.Code.length : Int) ≤ 64)) (
  po (p_slices_ContainsFunc_api_Inst_api_Inst_prog_fine_1 a0.Code) fun r6 =>
  some (!r6)) (
  some false)) (
  some false)) (
  some false)) (
  some false)) (fun x => p_prog_fine_J1 x)
theorem c_prog_fine {a0 : T_Fn} {r : Bool} (h : p_prog_fine a0 = some r) : Ctr prog 106 [.agg (enc_Fn a0)] [] (rb r) [] := by
 unfold p_prog_fine at h;refine Ctr.ofW tabOk func106 rfl call106 0 _ ntmps106 [.tmp 2] rfl rfl rfl (fun B => ?_);refine vs [1] (fun K hK => ?_);push_cast;refine hK _ ?_;clear hK K;refine vs [1,3] (fun K hK => ?_);push_cast;refine hK _ ?_;clear hK K;refine vj h (fun x => ⟨[(2,rb x)],[],31,31,0⟩) (fun v1 h hk1 => ?_) ?_
 ·rcases Bool.eq_false_or_eq_true (decide (a0.Args ≥ 0)) with hb2 | hb2
  ·replace h := cond_yes hb2 h;rcases Bool.eq_false_or_eq_true (decide (a0.Args ≤ 4)) with hb3 | hb3
   ·replace h := cond_yes hb3 h;rcases Bool.eq_false_or_eq_true (decide ((a0.Code.length : Int) > 0)) with hb4 | hb4
    ·replace h := cond_yes hb4 h;rcases Bool.eq_false_or_eq_true (decide ((a0.Code.length : Int) ≤ 64)) with hb5 | hb5
     ·replace h := cond_yes hb5 h;obtain ⟨r6,hr6,h⟩ := po_some h;refine vlG [some 4,some 5,some 6,some 7,some 8,some 9,some 10,some 11,some 12,some 13,some 14,some 15,some 16,some 17,some 18,some 19,some 20,some 21,some 22,some 23,some 24,some 25,some 26,some 27,some 28,some 29,some 30,some 2] (fun K hK => ?_);refine runOps_cut 8 (fun K2 hK2 => ?_);push_cast [hb2,hb3,hb4,hb5];(repeat refine .intro (by omega) ?_);refine hK2 _ _ ?_;clear hK2 K2;simp only [List.drop_succ_cons,List.drop_zero];refine runOps_cut 8 (fun K2 hK2 => ?_);push_cast [hb2,hb3,hb4,hb5];(repeat refine .intro (by omega) ?_);refine hK2 _ _ ?_;clear hK2 K2;simp only [List.drop_succ_cons,List.drop_zero];refine runOps_cut 8 (fun K2 hK2 => ?_);push_cast [hb2,hb3,hb4,hb5];(repeat refine .intro (by omega) ?_);refine hK2 _ _ ?_;clear hK2 K2;simp only [List.drop_succ_cons,List.drop_zero];push_cast [hb2,hb3,hb4,hb5];(repeat refine .intro (by omega) ?_);refine cp (c_slices_ContainsFunc_api_Inst_api_Inst_prog_fine_1 hr6) ?_;push_cast [hb2,hb3,hb4,hb5];(repeat refine .intro (by omega) ?_);refine hK _ ?_;clear hK K;refine ar h hk1 ?_;exact sl (by push_cast [hb2,hb3,hb4,hb5])
     ·replace h := cond_no hb5 h;refine vlG [some 4,some 5,some 6,some 7,some 8,some 9,some 10,some 11,some 12,some 13,some 14,some 15,some 16,some 17,some 18,some 19,some 20,some 21,some 22,some 23,some 24,some 25,some 26,some 27,some 28,some 29,some 30,some 2] (fun K hK => ?_);refine runOps_cut 8 (fun K2 hK2 => ?_);push_cast [hb2,hb3,hb4,hb5];(repeat refine .intro (by omega) ?_);refine hK2 _ _ ?_;clear hK2 K2;simp only [List.drop_succ_cons,List.drop_zero];refine runOps_cut 8 (fun K2 hK2 => ?_);push_cast [hb2,hb3,hb4,hb5];(repeat refine .intro (by omega) ?_);refine hK2 _ _ ?_;clear hK2 K2;simp only [List.drop_succ_cons,List.drop_zero];refine runOps_cut 8 (fun K2 hK2 => ?_);push_cast [hb2,hb3,hb4,hb5];(repeat refine .intro (by omega) ?_);refine hK2 _ _ ?_;clear hK2 K2;simp only [List.drop_succ_cons,List.drop_zero];push_cast [hb2,hb3,hb4,hb5];(repeat refine .intro (by omega) ?_);refine hK _ ?_;clear hK K;refine ar h hk1 ?_;exact sl (by push_cast [hb2,hb3,hb4,hb5])
    ·replace h := cond_no hb4 h;refine vlG [some 4,some 5,some 6,some 7,some 8,some 9,some 10,some 11,some 12,some 13,some 14,some 15,some 16,some 17,some 18,some 19,some 20,some 21,some 22,some 23,some 24,some 25,some 26,some 27,some 28,some 29,some 30,some 2] (fun K hK => ?_);refine runOps_cut 8 (fun K2 hK2 => ?_);push_cast [hb2,hb3,hb4];(repeat refine .intro (by omega) ?_);refine hK2 _ _ ?_;clear hK2 K2;simp only [List.drop_succ_cons,List.drop_zero];refine runOps_cut 8 (fun K2 hK2 => ?_);push_cast [hb2,hb3,hb4];(repeat refine .intro (by omega) ?_);refine hK2 _ _ ?_;clear hK2 K2;simp only [List.drop_succ_cons,List.drop_zero];refine runOps_cut 8 (fun K2 hK2 => ?_);push_cast [hb2,hb3,hb4];(repeat refine .intro (by omega) ?_);refine hK2 _ _ ?_;clear hK2 K2;simp only [List.drop_succ_cons,List.drop_zero];push_cast [hb2,hb3,hb4];(repeat refine .intro (by omega) ?_);refine hK _ ?_;clear hK K;refine ar h hk1 ?_;exact sl (by push_cast [hb2,hb3,hb4])
   ·replace h := cond_no hb3 h;refine vlG [some 4,some 5,some 6,some 7,some 8,some 9,some 10,some 11,some 12,some 13,some 14,some 15,some 16,some 17,some 18,some 19,some 20,some 21,some 22,some 23,some 24,some 25,some 26,some 27,some 28,some 29,some 30,some 2] (fun K hK => ?_);refine runOps_cut 8 (fun K2 hK2 => ?_);push_cast [hb2,hb3];(repeat refine .intro (by omega) ?_);refine hK2 _ _ ?_;clear hK2 K2;simp only [List.drop_succ_cons,List.drop_zero];refine runOps_cut 8 (fun K2 hK2 => ?_);push_cast [hb2,hb3];(repeat refine .intro (by omega) ?_);refine hK2 _ _ ?_;clear hK2 K2;simp only [List.drop_succ_cons,List.drop_zero];refine runOps_cut 8 (fun K2 hK2 => ?_);push_cast [hb2,hb3];(repeat refine .intro (by omega) ?_);refine hK2 _ _ ?_;clear hK2 K2;simp only [List.drop_succ_cons,List.drop_zero];push_cast [hb2,hb3];(repeat refine .intro (by omega) ?_);refine hK _ ?_;clear hK K;refine ar h hk1 ?_;exact sl (by push_cast [hb2,hb3])
  ·replace h := cond_no hb2 h;refine vlG [some 4,some 5,some 6,some 7,some 8,some 9,some 10,some 11,some 12,some 13,some 14,some 15,some 16,some 17,some 18,some 19,some 20,some 21,some 22,some 23,some 24,some 25,some 26,some 27,some 28,some 29,some 30,some 2] (fun K hK => ?_);refine runOps_cut 8 (fun K2 hK2 => ?_);push_cast [hb2];(repeat refine .intro (by omega) ?_);refine hK2 _ _ ?_;clear hK2 K2;simp only [List.drop_succ_cons,List.drop_zero];refine runOps_cut 8 (fun K2 hK2 => ?_);push_cast [hb2];(repeat refine .intro (by omega) ?_);refine hK2 _ _ ?_;clear hK2 K2;simp only [List.drop_succ_cons,List.drop_zero];refine runOps_cut 8 (fun K2 hK2 => ?_);push_cast [hb2];(repeat refine .intro (by omega) ?_);refine hK2 _ _ ?_;clear hK2 K2;simp only [List.drop_succ_cons,List.drop_zero];push_cast [hb2];(repeat refine .intro (by omega) ?_);refine hK _ ?_;clear hK K;refine ar h hk1 ?_;exact sl (by push_cast [hb2])
 ·rintro i_1 (h : p_prog_fine_J1 i_1 = some r);(try push_cast);unfold p_prog_fine_J1 at h;refine VC.ret ?_;replace h := Option.some.inj h;subst h;exact en (by push_cast)
noncomputable def p_prog_May_1 (a0 : T_Fn) : Option (Bool) :=
  po (p_prog_fine a0) fun r1 =>
  some (!r1)
theorem c_prog_May_1 {a0 : T_Fn} {r : Bool} (h : p_prog_May_1 a0 = some r) : Ctr prog 105 [.agg (enc_Fn a0)] [] (rb r) [] := by
 unfold p_prog_May_1 at h;refine Ctr.ofW tabOk func105 rfl call105 0 _ ntmps105 [.tmp 2] rfl rfl rfl (fun B => ?_);refine vs [1] (fun K hK => ?_);push_cast;refine hK _ ?_;clear hK K;obtain ⟨r1,hr1,h⟩ := po_some h;refine vs [2] (fun K hK => ?_);push_cast;refine cp (c_prog_fine hr1) ?_;push_cast;refine hK _ ?_;clear hK K;refine VC.ret ?_;replace h := Option.some.inj h;subst h;exact en (by push_cast)
noncomputable def p_slices_IndexFunc_api_Fn_api_Fn_prog_May_1_L2 (a0 : (List T_Fn)) (i_1 : Int) : Option ((Int) ⊕ ((Unit) ⊕ (Int))) :=
  cond (decide (i_1 < (a0.length : Int))) (
  po (idx a0 i_1) fun x4 =>
  po (p_prog_May_1 x4) fun r5 =>
  cond r5 (
  some (Sum.inr (Sum.inr i_1))) (
  some (Sum.inl (IntKind.i64.wrap (i_1 + 1))))) (
  some (Sum.inr (Sum.inl ())))
noncomputable def p_slices_IndexFunc_api_Fn_api_Fn_prog_May_1_J1 : Option (Int) :=
  some (-1)
noncomputable def p_slices_IndexFunc_api_Fn_api_Fn_prog_May_1 (a0 : (List T_Fn)) : Option (Int) :=
  pm (
  lpU (fun x => p_slices_IndexFunc_api_Fn_api_Fn_prog_May_1_L2 a0 x) 0) (fun x => p_slices_IndexFunc_api_Fn_api_Fn_prog_May_1_J1)
theorem c_slices_IndexFunc_api_Fn_api_Fn_prog_May_1 {a0 : (List T_Fn)} {r : Int} (h : p_slices_IndexFunc_api_Fn_api_Fn_prog_May_1 a0 = some r) : Ctr prog 145 [.sl false (a0.map enc_Fn), .fn (.func 105) [] []] [] (ri r) [] := by
 unfold p_slices_IndexFunc_api_Fn_api_Fn_prog_May_1 at h;refine Ctr.ofW tabOk func145 rfl call145 0 _ ntmps145 [.tmp 4] rfl rfl rfl (fun B => ?_);refine vs [0,1] (fun K hK => ?_);push_cast;refine hK _ ?_;clear hK K;refine vm h (fun x => ⟨[],[],16,19,0⟩) (fun v1 h hk1 => ?_) ?_
 ·refine vs [0,1,7,8] (fun K hK => ?_);push_cast;refine hK _ ?_;clear hK K;refine VC.block ?_;refine VC.loopP h (fun x => ⟨[(0,.sl false (a0.map enc_Fn)),(1,.fn (.func 105) [] []),(7,ri (a0.length : Int)),(8,ri x)],[],15,19,0⟩) ?_ ?_
  ·exact sl (by push_cast)
  rintro i_1 b2 (h : p_slices_IndexFunc_api_Fn_api_Fn_prog_May_1_L2 a0 i_1 = some b2) hf2;(try push_cast);unfold p_slices_IndexFunc_api_Fn_api_Fn_prog_May_1_L2 at h;refine vs [0,1,7,8,9] (fun K hK => ?_);push_cast;refine hK _ ?_;clear hK K;refine VC.seq ?_;refine vc h (fun hb3 h => ?_) (fun hb3 h => ?_)
  ·refine VC.skip ?_;refine VC.seq ?_;refine VC.block ?_;refine vs [0,1,5,7,8] (fun K hK => ?_);push_cast;refine hK _ ?_;clear hK K;obtain ⟨x4,hx4,h⟩ := po_some h;replace hx4 := idx_some4 hx4;obtain ⟨r5,hr5,h⟩ := po_some h;refine vs [0,1,5,7,8,16] (fun K hK => ?_);push_cast [hx4];(repeat refine .intro (by omega) ?_);refine cp (c_prog_May_1 hr5) ?_;push_cast [hx4];(repeat refine .intro (by omega) ?_);refine hK _ ?_;clear hK K;refine vc h (fun hb6 h => ?_) (fun hb6 h => ?_)
   ·refine vs [4] (fun K hK => ?_);push_cast;refine hK _ ?_;clear hK K;refine VC.ret ?_;replace h := ol h hf2;replace h := om h hk1;replace h := Option.some.inj h;subst h;exact en (by push_cast [hb3,hb6])
   ·refine VC.skip ?_;refine vl (fun K hK => ?_);push_cast;refine hK _ ?_;clear hK K;refine bk h ?_;exact sl (by push_cast [hb3,hb6])
  ·refine VC.exit ?_;replace h := ol h hf2;refine am h hk1 ?_;exact sl (by push_cast [hb3])
 ·rintro ⟨⟩ (h : p_slices_IndexFunc_api_Fn_api_Fn_prog_May_1_J1 = some r);(try push_cast);unfold p_slices_IndexFunc_api_Fn_api_Fn_prog_May_1_J1 at h;refine vs [4] (fun K hK => ?_);push_cast;refine hK _ ?_;clear hK K;refine VC.ret ?_;replace h := Option.some.inj h;subst h;exact en (by push_cast)
noncomputable def p_slices_ContainsFunc_api_Fn_api_Fn_prog_May_1 (a0 : (List T_Fn)) : Option (Bool) :=
  po (p_slices_IndexFunc_api_Fn_api_Fn_prog_May_1 a0) fun r1 =>
  some (decide (r1 ≥ 0))
theorem c_slices_ContainsFunc_api_Fn_api_Fn_prog_May_1 {a0 : (List T_Fn)} {r : Bool} (h : p_slices_ContainsFunc_api_Fn_api_Fn_prog_May_1 a0 = some r) : Ctr prog 104 [.sl false (a0.map enc_Fn), .fn (.func 105) [] []] [] (rb r) [] := by
 unfold p_slices_ContainsFunc_api_Fn_api_Fn_prog_May_1 at h;refine Ctr.ofW tabOk func104 rfl call104 0 _ ntmps104 [.tmp 4] rfl rfl rfl (fun B => ?_);refine vs [0,1] (fun K hK => ?_);push_cast;refine hK _ ?_;clear hK K;obtain ⟨r1,hr1,h⟩ := po_some h;refine vs [4] (fun K hK => ?_);push_cast;refine cp (c_slices_IndexFunc_api_Fn_api_Fn_prog_May_1 hr1) ?_;push_cast;refine hK _ ?_;clear hK K;refine VC.ret ?_;replace h := Option.some.inj h;subst h;exact en (by push_cast)
noncomputable def p_prog_May_J1 (a0 : T_Prog) (i_1 : Bool) : Option (Bool) :=
  cond i_1 (
  some false) (
  po (p_slices_ContainsFunc_api_Fn_api_Fn_prog_May_1 a0.Fns) fun r6 =>
  some (!r6))
noncomputable def p_prog_May (a0 : T_Prog) : Option (Bool) :=
  po (
  cond ((a0.Fns.length : Int) == 0) (
  some true) (
  cond (decide ((a0.Fns.length : Int) > 8)) (
  some true) (
  po (a0.Fns[0]?) fun x4 =>
  some (x4.Args != 0)))) (fun x => p_prog_May_J1 a0 x)
theorem c_prog_May {a0 : T_Prog} {r : Bool} (h : p_prog_May a0 = some r) : Ctr prog 67 [.agg (enc_Prog a0)] [] (rb r) [] := by
 unfold p_prog_May at h;refine Ctr.ofW tabOk func67 rfl call67 0 _ ntmps67 [.tmp 2] rfl rfl rfl (fun B => ?_);refine vs [1] (fun K hK => ?_);push_cast;refine hK _ ?_;clear hK K;refine VC.seq ?_;refine vj h (fun x => ⟨[(1,.ref 0 0),(20,rb x)],[(0,.box 56 [.sl false (a0.Fns.map enc_Fn)])],20,25,0⟩) (fun v1 h hk1 => ?_) ?_
 ·rcases Bool.eq_false_or_eq_true ((a0.Fns.length : Int) == 0) with hb2 | hb2
  ·replace h := cond_yes hb2 h;refine vlG [some 3,some 4,some 5,some 6,some 7,some 8,some 9,some 10,some 11,some 12,some 13,some 14,some 15,some 16,some 17,some 18,some 19,some 20] (fun K hK => ?_);refine runOps_cut 8 (fun K2 hK2 => ?_);push_cast [hb2];(repeat refine .intro (by omega) ?_);refine hK2 _ _ ?_;clear hK2 K2;simp only [List.drop_succ_cons,List.drop_zero];push_cast [hb2];(repeat refine .intro (by omega) ?_);refine hK _ ?_;clear hK K;refine ar h hk1 ?_;exact sl (by push_cast [hb2])
  ·replace h := cond_no hb2 h;rcases Bool.eq_false_or_eq_true (decide ((a0.Fns.length : Int) > 8)) with hb3 | hb3
   ·replace h := cond_yes hb3 h;refine vlG [some 3,some 4,some 5,some 6,some 7,some 8,some 9,some 10,some 11,some 12,some 13,some 14,some 15,some 16,some 17,some 18,some 19,some 20] (fun K hK => ?_);refine runOps_cut 8 (fun K2 hK2 => ?_);push_cast [hb2,hb3];(repeat refine .intro (by omega) ?_);refine hK2 _ _ ?_;clear hK2 K2;simp only [List.drop_succ_cons,List.drop_zero];push_cast [hb2,hb3];(repeat refine .intro (by omega) ?_);refine hK _ ?_;clear hK K;refine ar h hk1 ?_;exact sl (by push_cast [hb2,hb3])
   ·replace h := cond_no hb3 h;obtain ⟨x4,hx4,h⟩ := po_some h;replace hx4 := gL hx4;refine vlG [some 3,some 4,some 5,some 6,some 7,some 8,some 9,some 10,some 11,some 12,some 13,some 14,some 15,some 16,some 17,some 18,some 19,some 20] (fun K hK => ?_);refine runOps_cut 8 (fun K2 hK2 => ?_);push_cast [hb2,hb3,hx4];(repeat refine .intro (by omega) ?_);refine hK2 _ _ ?_;clear hK2 K2;simp only [List.drop_succ_cons,List.drop_zero];push_cast [hb2,hb3,hx4];(repeat refine .intro (by omega) ?_);refine hK _ ?_;clear hK K;refine ar h hk1 ?_;exact sl (by push_cast [hb2,hb3])
 ·rintro i_1 (h : p_prog_May_J1 a0 i_1 = some r);(try push_cast);unfold p_prog_May_J1 at h;refine vc h (fun hb5 h => ?_) (fun hb5 h => ?_)
  ·refine vs [2] (fun K hK => ?_);push_cast;refine hK _ ?_;clear hK K;refine VC.ret ?_;replace h := Option.some.inj h;subst h;exact en (by push_cast [hb5])
  ·refine VC.skip ?_;obtain ⟨r6,hr6,h⟩ := po_some h;refine vs [2] (fun K hK => ?_);push_cast;refine cp (c_slices_ContainsFunc_api_Fn_api_Fn_prog_May_1 hr6) ?_;push_cast;refine hK _ ?_;clear hK K;refine VC.ret ?_;replace h := Option.some.inj h;subst h;exact en (by push_cast [hb5])
noncomputable def p_course_Budget_L7 (a0 : T_Prog) (l_4 : (List Int)) (u6 : Int) : Option (((List Int)) ⊕ (Unit)) :=
  po (idx a0.Fns u6) fun x8 =>
  po (p_course_Longest x8.Code l_4) fun r9 =>
  po (idx l_4 u6) fun x10 =>
  pl (l_4.set u6.toNat r9) fun y11 =>
  some (Sum.inl y11)
noncomputable def p_course_Budget_K7 (l_4 : (List Int)) : Option ((List Int)) :=
  some l_4
noncomputable def p_course_Budget_J5 (l_3 : (List Int)) : Option (Int) :=
  po (l_3[0]?) fun x12 =>
  some x12
noncomputable def p_course_Budget (a0 : T_Prog) : Option (Int) :=
  po (p_prog_May a0) fun r1 =>
  cond (!r1) (
  some 0) (
  pg (0 ≤ (a0.Fns.length : Int) ∧ 8 * (a0.Fns.length : Int) ≤ 140737488355328) <|
  pl (List.replicate a0.Fns.length 0) fun y4 =>
  po (
  pq (itU (fun x u => p_course_Budget_L7 a0 x u) (backL a0.Fns) y4) (fun x => p_course_Budget_K7 x) (fun _ => none)) (fun x => p_course_Budget_J5 x))
theorem c_course_Budget {a0 : T_Prog} {r : Int} (h : p_course_Budget a0 = some r) : Ctr prog 92 [.agg (enc_Prog a0)] [] (ri r) [] := by
 unfold p_course_Budget at h;refine Ctr.ofN tabOk func92 rfl call92 0 _ ntmps92 [.tmp 2] rfl rfl rfl (fun B hB => ?_);refine vs [1] (fun K hK => ?_);push_cast;refine hK _ ?_;clear hK K;refine VC.seq ?_;obtain ⟨r1,hr1,h⟩ := po_some h;refine vs [1,7] (fun K hK => ?_);push_cast;refine cp (c_prog_May hr1) ?_;push_cast;refine hK _ ?_;clear hK K;refine vc h (fun hb2 h => ?_) (fun hb2 h => ?_)
 ·refine vs [2] (fun K hK => ?_);push_cast;refine hK _ ?_;clear hK K;refine VC.ret ?_;replace h := Option.some.inj h;subst h;exact en (by push_cast [hb2])
 ·refine VC.skip ?_;obtain ⟨hg3,h⟩ := pg_some h;obtain ⟨y4,hy4,h⟩ := pl_some h;refine vs [1,3] (fun K hK => ?_);push_cast [hg3];(repeat refine .intro (by omega) ?_);refine hK _ ?_;clear hK K;refine VC.sub (s' := ⟨[(1,.ref 0 0),(3,.ref 9 0)],[(0,.box 56 [.sl false (a0.Fns.map enc_Fn)]),(8,.row 3 1 0 (y4.map encI64)),(9,.box 84 [.row 8 0 1 0 y4.length])],11,31,0⟩) (so (by push_cast [hb2,hy4])) ?_;refine vj h (fun x => ⟨[(3,.ref 9 0)],[(8,.row 3 1 0 (x.map encI64)),(9,.box 84 [.row 8 0 1 0 x.length])],26,31,0⟩) (fun v5 h hk5 => ?_) ?_
  ·refine vs [1,3,14] (fun K hK => ?_);push_cast;refine cp (c_slices_Backward_api_Fn_api_Fn a0.Fns) ?_;push_cast;refine hK _ ?_;clear hK K;refine VC.block ?_;obtain ⟨b7,hi7,hd7,hx7⟩ := pq_some h;refine VC.sub (s' := ⟨[(1,.ref 0 0),(3,.ref 9 0),(14,.fn (.func 183) [] [.dat 1 [[.sl false (a0.Fns.map enc_Fn)]] 0 0])],(fun x => [(0,.box 56 [.sl false (a0.Fns.map enc_Fn)]),(8,.row 3 1 0 (x.map encI64)),(9,.box 84 [.row 8 0 1 0 x.length])]) y4,26,31,0⟩) ?_ ?_
   ·(try push_cast);exact sl (by push_cast [hb2])
   ·refine VC.rangeP (enc := fun u6 => [ri u6,.dead]) hB hi7 rfl call183 rfl rfl (fun _ => rfl) (it_slices_Backward_api_Fn_api_Fn a0.Fns) (fun x => [(0,.box 56 [.sl false (a0.Fns.map enc_Fn)]),(8,.row 3 1 0 (x.map encI64)),(9,.box 84 [.row 8 0 1 0 x.length])]) (fun (_ : Unit) => []) rfl ?_ ?_ ?_
    ·rintro l_4 u6 c (h : p_course_Budget_L7 a0 l_4 u6 = some c) B2;(try push_cast);unfold p_course_Budget_L7 at h;refine vl (fun K hK => ?_);push_cast;refine hK _ ?_;clear hK K;refine ⟨[(1,.ref 0 0),(3,.ref 9 0),(4,ri u6),(14,.fn (.func 183) [] [.dat 1 [[.sl false (a0.Fns.map enc_Fn)]] 0 0]),(15,ri u6)],so (by push_cast),fun B3 => ?_⟩;(try push_cast);refine VC.block ?_;obtain ⟨x8,hx8,h⟩ := po_some h;replace hx8 := idx_some4 hx8;obtain ⟨r9,hr9,h⟩ := po_some h;obtain ⟨x10,hx10,h⟩ := po_some h;replace hx10 := idx_some4 hx10;obtain ⟨y11,hy11,h⟩ := pl_some h;have hy11l : y11.length = l_4.length := by rw [hy11,List.length_set]
     refine vlD [some 17,some 18,some 19,some 20,some 21,some 22,some 23,some 24,some 25,some 26,some 27,none] (fun K hK => ?_);refine runD_cut 8 (fun K2 hK2 => ?_);push_cast [hx8,hx10];(repeat refine .intro (by omega) ?_);refine hK2 _ _ _ ?_;clear hK2 K2;simp only [List.drop_succ_cons,List.drop_zero];push_cast [hx8,hx10];(repeat refine .intro (by omega) ?_);refine chD (H := [(8,.row 3 1 0 (l_4.map encI64))]) (H' := _) (Ctr.borrow (c_course_Longest hr9) (by push_cast [hx8,hx10]) rfl) (by push_cast [hx8,hx10]) ?_;push_cast [hx8,hx10];(repeat refine .intro (by omega) ?_);refine ⟨rfl,hK _ ?_⟩;clear hK K;refine ⟨_,(Option.some.inj h).symm,?_⟩;exact sl (by push_cast [hb2,hy11,hy11l])
    ·rintro l_4 hb;replace h : p_course_Budget_K7 l_4 = some v5 := hd7 _ hb;unfold p_course_Budget_K7 at h;refine ar h hk5 ?_;exact sl (by push_cast [hb2])
    ·intro y hb;cases hx7 _ hb
  ·rintro l_3 (h : p_course_Budget_J5 l_3 = some r);(try push_cast);unfold p_course_Budget_J5 at h;obtain ⟨x12,hx12,h⟩ := po_some h;replace hx12 := gL hx12;refine vs [2] (fun K hK => ?_);push_cast [hx12];(repeat refine .intro (by omega) ?_);refine hK _ ?_;clear hK K;refine VC.ret ?_;replace h := Option.some.inj h;subst h;exact en (by push_cast [hb2])
noncomputable def p_drydockref01_Words_L3 (a0 : (List UInt32)) (a1 : (List UInt32)) (i_1 : Int) : Option ((Int) ⊕ ((Unit) ⊕ (Bool))) :=
  cond (decide (i_1 < (a0.length : Int))) (
  po (idx a0 i_1) fun x5 =>
  po (idx a1 i_1) fun x6 =>
  cond ((x5.toNat : Int) != (x6.toNat : Int)) (
  some (Sum.inr (Sum.inr false))) (
  some (Sum.inl (IntKind.i64.wrap (i_1 + 1))))) (
  some (Sum.inr (Sum.inl ())))
noncomputable def p_drydockref01_Words_J2 : Option (Bool) :=
  some true
noncomputable def p_drydockref01_Words (a0 : (List UInt32)) (a1 : (List UInt32)) : Option (Bool) :=
  cond ((a0.length : Int) != (a1.length : Int)) (
  some false) (
  pm (
  lpU (fun x => p_drydockref01_Words_L3 a0 a1 x) 0) (fun x => p_drydockref01_Words_J2))
theorem c_drydockref01_Words {a0 : (List UInt32)} {a1 : (List UInt32)} {r : Bool} (h : p_drydockref01_Words a0 a1 = some r) : Ctr prog 25 [.sl false (a0.map encU32), .sl false (a1.map encU32)] [] (rb r) [] := by
 unfold p_drydockref01_Words at h;refine Ctr.ofW tabOk func25 rfl call25 0 _ ntmps25 [.tmp 4] rfl rfl rfl (fun B => ?_);refine vs [0,1] (fun K hK => ?_);push_cast;refine hK _ ?_;clear hK K;refine VC.seq ?_;refine vs [0,1,10] (fun K hK => ?_);push_cast;refine hK _ ?_;clear hK K;refine vc h (fun hb1 h => ?_) (fun hb1 h => ?_)
 ·refine vs [4] (fun K hK => ?_);push_cast;refine hK _ ?_;clear hK K;refine VC.ret ?_;replace h := Option.some.inj h;subst h;exact en (by push_cast [hb1])
 ·refine VC.skip ?_;refine vm h (fun x => ⟨[],[],27,26,0⟩) (fun v2 h hk2 => ?_) ?_
  ·refine vs [0,1,5] (fun K hK => ?_);push_cast;refine hK _ ?_;clear hK K;refine VC.block ?_;refine VC.loopP h (fun x => ⟨[(0,.sl false (a0.map encU32)),(1,.sl false (a1.map encU32)),(5,ri x)],[],23,26,0⟩) ?_ ?_
   ·exact sl (by push_cast [hb1])
   rintro i_1 b3 (h : p_drydockref01_Words_L3 a0 a1 i_1 = some b3) hf3;(try push_cast);unfold p_drydockref01_Words_L3 at h;refine VC.seq ?_;refine vs [0,1,5,14] (fun K hK => ?_);push_cast;refine hK _ ?_;clear hK K;refine vc h (fun hb4 h => ?_) (fun hb4 h => ?_)
   ·refine VC.skip ?_;refine VC.seq ?_;refine VC.block ?_;obtain ⟨x5,hx5,h⟩ := po_some h;replace hx5 := idx_some4 hx5;obtain ⟨x6,hx6,h⟩ := po_some h;replace hx6 := idx_some4 hx6;refine vsD [some 17,some 18,some 19,some 20,some 21,some 22,some 23,some 24,some 25] [0,1,5,25] (fun K hK => ?_);push_cast [hx5,hx6];(repeat refine .intro (by omega) ?_);refine ⟨rfl,hK _ ?_⟩;clear hK K;refine vc h (fun hb7 h => ?_) (fun hb7 h => ?_)
    ·refine vs [4] (fun K hK => ?_);push_cast;refine hK _ ?_;clear hK K;refine VC.ret ?_;replace h := ol h hf3;replace h := om h hk2;replace h := Option.some.inj h;subst h;exact en (by push_cast [hb1,hb4,hb7])
    ·refine VC.skip ?_;refine vl (fun K hK => ?_);push_cast;refine hK _ ?_;clear hK K;refine bk h ?_;exact sl (by push_cast [hb1,hb4,hb7])
   ·refine VC.exit ?_;replace h := ol h hf3;refine am h hk2 ?_;exact sl (by push_cast [hb1,hb4])
  ·rintro ⟨⟩ (h : p_drydockref01_Words_J2 = some r);(try push_cast);unfold p_drydockref01_Words_J2 at h;refine vs [4] (fun K hK => ?_);push_cast;refine hK _ ?_;clear hK K;refine VC.ret ?_;replace h := Option.some.inj h;subst h;exact en (by push_cast [hb1])
noncomputable def p_schema_in_J1 (i_1 : Bool) : Option (Bool) :=
  some i_1
noncomputable def p_schema_in (a0 : Int) (a1 : Int) (a2 : Int) : Option (Bool) :=
  po (
  cond (decide (a0 ≥ a1)) (
  some (decide (a0 ≤ a2))) (
  some false)) (fun x => p_schema_in_J1 x)
theorem c_schema_in {a0 : Int} {a1 : Int} {a2 : Int} {r : Bool} (h : p_schema_in a0 a1 a2 = some r) : Ctr prog 89 [ri a0, ri a1, ri a2] [] (rb r) [] := by
 unfold p_schema_in at h;refine Ctr.ofW tabOk func89 rfl call89 0 _ ntmps89 [.tmp 6] rfl rfl rfl (fun B => ?_);refine vs [0,1,2] (fun K hK => ?_);push_cast;refine hK _ ?_;clear hK K;refine vj h (fun x => ⟨[(6,rb x)],[],10,15,0⟩) (fun v1 h hk1 => ?_) ?_
 ·rcases Bool.eq_false_or_eq_true (decide (a0 ≥ a1)) with hb2 | hb2
  ·replace h := cond_yes hb2 h;refine vlG [some 7,some 8,some 9,some 10,some 11,some 12,some 13,some 14,some 6] (fun K hK => ?_);push_cast [hb2];(repeat refine .intro (by omega) ?_);refine hK _ ?_;clear hK K;refine ar h hk1 ?_;exact sl (by push_cast [hb2])
  ·replace h := cond_no hb2 h;refine vlG [some 7,some 8,some 9,some 10,some 11,some 12,some 13,some 14,some 6] (fun K hK => ?_);push_cast [hb2];(repeat refine .intro (by omega) ?_);refine hK _ ?_;clear hK K;refine ar h hk1 ?_;exact sl (by push_cast [hb2])
 ·rintro i_1 (h : p_schema_in_J1 i_1 = some r);(try push_cast);unfold p_schema_in_J1 at h;refine VC.ret ?_;replace h := Option.some.inj h;subst h;exact en (by push_cast)
noncomputable def p_schema_May_J3 (i_2 : Bool) : Option (Bool) :=
  some i_2
noncomputable def p_schema_May_J1 (a0 : T_Schema) (i_1 : Int) : Option (Bool) :=
  po (
  po (p_schema_in a0.Kind 0 3) fun r4 =>
  cond r4 (
  po (p_schema_in a0.Cap 1 16) fun r6 =>
  cond r6 (
  po (p_schema_in a0.Words 1 i_1) fun r8 =>
  cond r8 (
  po (p_schema_in a0.Ver 0 1000) fun r10 =>
  some r10) (
  some false)) (
  some false)) (
  some false)) (fun x => p_schema_May_J3 x)
noncomputable def p_schema_May (a0 : T_Schema) : Option (Bool) :=
  po (
  cond (a0.Kind == 3) (
  some 1) (
  some 4)) (fun x => p_schema_May_J1 a0 x)
theorem c_schema_May {a0 : T_Schema} {r : Bool} (h : p_schema_May a0 = some r) : Ctr prog 56 [.agg (enc_Schema a0)] [] (rb r) [] := by
 unfold p_schema_May at h;refine Ctr.ofW tabOk func56 rfl call56 0 _ ntmps56 [.tmp 2] rfl rfl rfl (fun B => ?_);refine vs [1] (fun K hK => ?_);push_cast;refine hK _ ?_;clear hK K;refine vs [1,3] (fun K hK => ?_);push_cast;refine hK _ ?_;clear hK K;refine vj h (fun x => ⟨[(1,.ref 0 0),(3,ri x)],[(0,.box 50 (enc_Schema a0))],7,26,0⟩) (fun v1 h hk1 => ?_) ?_
 ·refine vs [1,3,6] (fun K hK => ?_);push_cast;refine hK _ ?_;clear hK K;refine vc h (fun hb2 h => ?_) (fun hb2 h => ?_)
  ·refine vl (fun K hK => ?_);push_cast;refine hK _ ?_;clear hK K;refine ar h hk1 ?_;exact sl (by push_cast [hb2])
  ·refine VC.skip ?_;refine ar h hk1 ?_;exact sl (by push_cast [hb2])
 ·rintro i_1 (h : p_schema_May_J1 a0 i_1 = some r);(try push_cast);unfold p_schema_May_J1 at h;refine vj h (fun x => ⟨[(2,rb x)],[],27,26,0⟩) (fun v3 h hk3 => ?_) ?_
  ·obtain ⟨r4,hr4,h⟩ := po_some h;rcases Bool.eq_false_or_eq_true r4 with hb5 | hb5
   ·replace h := cond_yes hb5 h;obtain ⟨r6,hr6,h⟩ := po_some h;rcases Bool.eq_false_or_eq_true r6 with hb7 | hb7
    ·replace h := cond_yes hb7 h;obtain ⟨r8,hr8,h⟩ := po_some h;rcases Bool.eq_false_or_eq_true r8 with hb9 | hb9
     ·replace h := cond_yes hb9 h;obtain ⟨r10,hr10,h⟩ := po_some h;refine vlG [some 7,some 8,some 9,some 10,some 11,some 12,some 13,some 14,some 15,some 16,some 17,some 18,some 19,some 20,some 21,some 22,some 23,some 24,some 25,some 2] (fun K hK => ?_);refine runOps_cut 8 (fun K2 hK2 => ?_);push_cast [hb5,hb7,hb9];(repeat refine .intro (by omega) ?_);refine cp (c_schema_in hr4) ?_;push_cast [hb5,hb7,hb9];(repeat refine .intro (by omega) ?_);refine cp (c_schema_in hr6) ?_;push_cast [hb5,hb7,hb9];(repeat refine .intro (by omega) ?_);refine hK2 _ _ ?_;clear hK2 K2;simp only [List.drop_succ_cons,List.drop_zero];refine runOps_cut 8 (fun K2 hK2 => ?_);push_cast [hb5,hb7,hb9];(repeat refine .intro (by omega) ?_);refine cp (c_schema_in hr8) ?_;push_cast [hb5,hb7,hb9];(repeat refine .intro (by omega) ?_);refine hK2 _ _ ?_;clear hK2 K2;simp only [List.drop_succ_cons,List.drop_zero];push_cast [hb5,hb7,hb9];(repeat refine .intro (by omega) ?_);refine cp (c_schema_in hr10) ?_;push_cast [hb5,hb7,hb9];(repeat refine .intro (by omega) ?_);refine hK _ ?_;clear hK K;refine ar h hk3 ?_;exact sl (by push_cast [hb5,hb7,hb9])
     ·replace h := cond_no hb9 h;refine vlG [some 7,some 8,some 9,some 10,some 11,some 12,some 13,some 14,some 15,some 16,some 17,some 18,some 19,some 20,some 21,some 22,some 23,some 24,some 25,some 2] (fun K hK => ?_);refine runOps_cut 8 (fun K2 hK2 => ?_);push_cast [hb5,hb7,hb9];(repeat refine .intro (by omega) ?_);refine cp (c_schema_in hr4) ?_;push_cast [hb5,hb7,hb9];(repeat refine .intro (by omega) ?_);refine cp (c_schema_in hr6) ?_;push_cast [hb5,hb7,hb9];(repeat refine .intro (by omega) ?_);refine hK2 _ _ ?_;clear hK2 K2;simp only [List.drop_succ_cons,List.drop_zero];refine runOps_cut 8 (fun K2 hK2 => ?_);push_cast [hb5,hb7,hb9];(repeat refine .intro (by omega) ?_);refine cp (c_schema_in hr8) ?_;push_cast [hb5,hb7,hb9];(repeat refine .intro (by omega) ?_);refine hK2 _ _ ?_;clear hK2 K2;simp only [List.drop_succ_cons,List.drop_zero];push_cast [hb5,hb7,hb9];(repeat refine .intro (by omega) ?_);refine hK _ ?_;clear hK K;refine ar h hk3 ?_;exact sl (by push_cast [hb5,hb7,hb9])
    ·replace h := cond_no hb7 h;refine vlG [some 7,some 8,some 9,some 10,some 11,some 12,some 13,some 14,some 15,some 16,some 17,some 18,some 19,some 20,some 21,some 22,some 23,some 24,some 25,some 2] (fun K hK => ?_);refine runOps_cut 8 (fun K2 hK2 => ?_);push_cast [hb5,hb7];(repeat refine .intro (by omega) ?_);refine cp (c_schema_in hr4) ?_;push_cast [hb5,hb7];(repeat refine .intro (by omega) ?_);refine cp (c_schema_in hr6) ?_;push_cast [hb5,hb7];(repeat refine .intro (by omega) ?_);refine hK2 _ _ ?_;clear hK2 K2;simp only [List.drop_succ_cons,List.drop_zero];refine runOps_cut 8 (fun K2 hK2 => ?_);push_cast [hb5,hb7];(repeat refine .intro (by omega) ?_);refine hK2 _ _ ?_;clear hK2 K2;simp only [List.drop_succ_cons,List.drop_zero];push_cast [hb5,hb7];(repeat refine .intro (by omega) ?_);refine hK _ ?_;clear hK K;refine ar h hk3 ?_;exact sl (by push_cast [hb5,hb7])
   ·replace h := cond_no hb5 h;refine vlG [some 7,some 8,some 9,some 10,some 11,some 12,some 13,some 14,some 15,some 16,some 17,some 18,some 19,some 20,some 21,some 22,some 23,some 24,some 25,some 2] (fun K hK => ?_);refine runOps_cut 8 (fun K2 hK2 => ?_);push_cast [hb5];(repeat refine .intro (by omega) ?_);refine cp (c_schema_in hr4) ?_;push_cast [hb5];(repeat refine .intro (by omega) ?_);refine hK2 _ _ ?_;clear hK2 K2;simp only [List.drop_succ_cons,List.drop_zero];refine runOps_cut 8 (fun K2 hK2 => ?_);push_cast [hb5];(repeat refine .intro (by omega) ?_);refine hK2 _ _ ?_;clear hK2 K2;simp only [List.drop_succ_cons,List.drop_zero];push_cast [hb5];(repeat refine .intro (by omega) ?_);refine hK _ ?_;clear hK K;refine ar h hk3 ?_;exact sl (by push_cast [hb5])
  ·rintro i_2 (h : p_schema_May_J3 i_2 = some r);(try push_cast);unfold p_schema_May_J3 at h;refine VC.ret ?_;replace h := Option.some.inj h;subst h;exact en (by push_cast)
noncomputable def p_schema_Step_J7 (i_2 : Bool) : Option (Int) :=
  cond i_2 (
  some 1) (
  some 2)
noncomputable def p_schema_Step_J1 (a0 : T_Schema) (a1 : T_Schema) (i_1 : Bool) : Option (Int) :=
  cond i_1 (
  some 2) (
  cond ((a0.Kind == a1.Kind) && ((a0.Cap == a1.Cap) && ((a0.Words == a1.Words) && (a0.Ver == a1.Ver)))) (
  some 0) (
  po (
  cond (a0.Kind == a1.Kind) (
  some (a1.Ver == (IntKind.i64.wrap (a0.Ver + 1)))) (
  some false)) (fun x => p_schema_Step_J7 x)))
noncomputable def p_schema_Step (a0 : T_Schema) (a1 : T_Schema) : Option (Int) :=
  po (
  po (p_schema_May a0) fun r2 =>
  cond (!r2) (
  some (!r2)) (
  po (p_schema_May a1) fun r4 =>
  some (!r4))) (fun x => p_schema_Step_J1 a0 a1 x)
theorem c_schema_Step {a0 : T_Schema} {a1 : T_Schema} {r : Int} (h : p_schema_Step a0 a1 = some r) : Ctr prog 58 [.agg (enc_Schema a0), .agg (enc_Schema a1)] [] (ri r) [] := by
 unfold p_schema_Step at h;refine Ctr.ofW tabOk func58 rfl call58 0 _ ntmps58 [.tmp 4] rfl rfl rfl (fun B => ?_);refine vs [2,3] (fun K hK => ?_);push_cast;refine hK _ ?_;clear hK K;refine VC.seq ?_;refine VC.block ?_;refine vj h (fun x => ⟨[(2,.ref 0 0),(3,.ref 1 0),(5,rb x)],[(0,.box 50 (enc_Schema a0)),(1,.box 50 (enc_Schema a1))],11,30,0⟩) (fun v1 h hk1 => ?_) ?_
 ·obtain ⟨r2,hr2,h⟩ := po_some h;refine vs [2,3,5] (fun K hK => ?_);push_cast;refine cp (c_schema_May hr2) ?_;push_cast;refine hK _ ?_;clear hK K;refine vc h (fun hb3 h => ?_) (fun hb3 h => ?_)
  ·refine VC.skip ?_;refine ar h hk1 ?_;exact sl (by push_cast [hb3])
  ·obtain ⟨r4,hr4,h⟩ := po_some h;refine vl (fun K hK => ?_);push_cast;refine cp (c_schema_May hr4) ?_;push_cast;refine hK _ ?_;clear hK K;refine ar h hk1 ?_;exact sl (by push_cast [hb3])
 ·rintro i_1 (h : p_schema_Step_J1 a0 a1 i_1 = some r);(try push_cast);unfold p_schema_Step_J1 at h;refine vc h (fun hb5 h => ?_) (fun hb5 h => ?_)
  ·refine vs [4] (fun K hK => ?_);push_cast;refine hK _ ?_;clear hK K;refine VC.ret ?_;replace h := Option.some.inj h;subst h;exact en (by push_cast [hb5])
  ·refine vs [2,3,12] (fun K hK => ?_);push_cast;refine hK _ ?_;clear hK K;refine vc h (fun hb6 h => ?_) (fun hb6 h => ?_)
   ·refine vs [4] (fun K hK => ?_);push_cast;refine hK _ ?_;clear hK K;refine VC.ret ?_;replace h := Option.some.inj h;subst h;exact en (by push_cast [hb5,hb6])
   ·refine vj h (fun x => ⟨[(16,rb x)],[],29,30,0⟩) (fun v7 h hk7 => ?_) ?_
    ·rcases Bool.eq_false_or_eq_true (a0.Kind == a1.Kind) with hb8 | hb8
     ·replace h := cond_yes hb8 h;refine vlG [some 17,some 18,some 19,some 20,some 21,some 22,some 23,some 24,some 25,some 26,some 27,some 28,some 29,some 16] (fun K hK => ?_);refine runOps_cut 8 (fun K2 hK2 => ?_);push_cast [hb8];(repeat refine .intro (by omega) ?_);refine hK2 _ _ ?_;clear hK2 K2;simp only [List.drop_succ_cons,List.drop_zero];push_cast [hb8];(repeat refine .intro (by omega) ?_);refine hK _ ?_;clear hK K;refine ar h hk7 ?_;exact sl (by push_cast [hb5,hb6,hb8])
     ·replace h := cond_no hb8 h;refine vlG [some 17,some 18,some 19,some 20,some 21,some 22,some 23,some 24,some 25,some 26,some 27,some 28,some 29,some 16] (fun K hK => ?_);refine runOps_cut 8 (fun K2 hK2 => ?_);push_cast [hb8];(repeat refine .intro (by omega) ?_);refine hK2 _ _ ?_;clear hK2 K2;simp only [List.drop_succ_cons,List.drop_zero];push_cast [hb8];(repeat refine .intro (by omega) ?_);refine hK _ ?_;clear hK K;refine ar h hk7 ?_;exact sl (by push_cast [hb5,hb6,hb8])
    ·rintro i_2 (h : p_schema_Step_J7 i_2 = some r);(try push_cast);unfold p_schema_Step_J7 at h;refine vc h (fun hb9 h => ?_) (fun hb9 h => ?_)
     ·refine vs [4] (fun K hK => ?_);push_cast;refine hK _ ?_;clear hK K;refine VC.ret ?_;replace h := Option.some.inj h;subst h;exact en (by push_cast [hb5,hb6,hb9])
     ·refine VC.skip ?_;refine vs [4] (fun K hK => ?_);push_cast;refine hK _ ?_;clear hK K;refine VC.ret ?_;replace h := Option.some.inj h;subst h;exact en (by push_cast [hb5,hb6,hb9])
noncomputable def p_shape_May_J4 (i_3 : Int) (s_4 : T_Shape) : Option ((T_Shape × Int) ⊕ ((T_Shape) ⊕ (Bool))) :=
  some (Sum.inl (s_4, (IntKind.i64.wrap (i_3 + 1))))
noncomputable def p_shape_May_L2 (a0 : T_Shape) (s_2 : T_Shape) (i_3 : Int) : Option ((T_Shape × Int) ⊕ ((T_Shape) ⊕ (Bool))) :=
  cond (decide (i_3 < 8)) (
  pm (
  pg (0 ≤ i_3 ∧ i_3 < 8) <|
  cond (!(a0.Set.get i_3.toNat)) (
  pl (s_2.R.set i_3.toNat (C128.mk 0 0)) fun y7 =>
  some (Sum.inl (T_Shape.mk s_2.Set y7))) (
  po (p_bounds_May (a0.R.get i_3.toNat)) fun r8 =>
  cond (!r8) (
  some (Sum.inr (Sum.inr (Sum.inr false)))) (
  some (Sum.inl s_2)))) (fun x => p_shape_May_J4 i_3 x)) (
  some (Sum.inr (Sum.inl s_2)))
noncomputable def p_shape_May_J1 (a0 : T_Shape) (s_7 : T_Shape) : Option (Bool) :=
  some ((ceq s_7.R.a0 a0.R.a0) && ((ceq s_7.R.a1 a0.R.a1) && ((ceq s_7.R.a2 a0.R.a2) && ((ceq s_7.R.a3 a0.R.a3) && ((ceq s_7.R.a4 a0.R.a4) && ((ceq s_7.R.a5 a0.R.a5) && ((ceq s_7.R.a6 a0.R.a6) && (ceq s_7.R.a7 a0.R.a7))))))))
noncomputable def p_shape_May (a0 : T_Shape) : Option (Bool) :=
  pm (
  lpU (fun x => p_shape_May_L2 a0 x.1 x.2) (a0, 0)) (fun x => p_shape_May_J1 a0 x)
theorem c_shape_May {a0 : T_Shape} {r : Bool} (h : p_shape_May a0 = some r) : Ctr prog 206 [.agg (enc_Shape a0)] [] (rb r) [] := by
 unfold p_shape_May at h;refine Ctr.ofW tabOk func206 rfl call206 0 _ ntmps206 [.tmp 2] rfl rfl rfl (fun B => ?_);refine vs [1] (fun K hK => ?_);push_cast;refine hK _ ?_;clear hK K;refine vs [1,3] (fun K hK => ?_);push_cast;refine hK _ ?_;clear hK K;refine vm h (fun x => ⟨[(1,.ref 0 0),(3,.ref 3 0)],[(0,.box 217 (enc_Shape a0)),(3,.box 217 (enc_Shape x))],23,29,0⟩) (fun v1 h hk1 => ?_) ?_
 ·refine vs [1,3,6] (fun K hK => ?_);push_cast;refine hK _ ?_;clear hK K;refine VC.block ?_;refine VC.loopP h (fun x => ⟨[(1,.ref 0 0),(3,.ref 3 0),(6,ri x.2)],[(0,.box 217 (enc_Shape a0)),(3,.box 217 (enc_Shape x.1))],22,29,0⟩) ?_ ?_
  ·exact sl (by push_cast)
  rintro ⟨s_2,i_3⟩ b2 (h : p_shape_May_L2 a0 s_2 i_3 = some b2) hf2;(try push_cast);unfold p_shape_May_L2 at h;refine vs [1,3,6,7] (fun K hK => ?_);push_cast;refine hK _ ?_;clear hK K;refine VC.seq ?_;refine vc h (fun hb3 h => ?_) (fun hb3 h => ?_)
  ·refine VC.skip ?_;refine vm h (fun x => ⟨[(1,.ref 0 0),(3,.ref 3 0),(6,ri i_3)],[(0,.box 217 (enc_Shape a0)),(3,.box 217 (enc_Shape x))],36,29,0⟩) (fun v4 h hk4 => ?_) ?_
   ·refine VC.block ?_;refine vs [1,3,4,6] (fun K hK => ?_);push_cast;refine hK _ ?_;clear hK K;obtain ⟨hg5,h⟩ := pg_some h;have hg5n : i_3.toNat < 8 := by omega
    refine vs [1,3,4,6,13] (fun K hK => ?_);push_cast [hg5,hg5n];(repeat refine .intro (by omega) ?_);refine hK _ ?_;clear hK K;refine vc h (fun hb6 h => ?_) (fun hb6 h => ?_)
    ·obtain ⟨y7,hy7,h⟩ := pl_some h;refine vl (fun K hK => ?_);push_cast [hg5n];(repeat refine .intro (by omega) ?_);refine hK _ ?_;clear hK K;refine am h hk4 ?_;exact sl (by push_cast [hb3,hb6,hy7])
    ·obtain ⟨r8,hr8,h⟩ := po_some h;refine vs [1,3,6,22] (fun K hK => ?_);push_cast [hg5n];(repeat refine .intro (by omega) ?_);refine cp (c_bounds_May hr8) ?_;push_cast [hg5n];(repeat refine .intro (by omega) ?_);refine hK _ ?_;clear hK K;refine vc h (fun hb9 h => ?_) (fun hb9 h => ?_)
     ·refine vs [2] (fun K hK => ?_);push_cast;refine hK _ ?_;clear hK K;refine VC.ret ?_;replace h := om h hk4;replace h := ol h hf2;replace h := om h hk1;replace h := Option.some.inj h;subst h;exact en (by push_cast [hb3,hb6,hb9])
     ·refine VC.skip ?_;refine am h hk4 ?_;exact sl (by push_cast [hb3,hb6,hb9])
   ·rintro s_4 (h : p_shape_May_J4 i_3 s_4 = some b2);(try push_cast);unfold p_shape_May_J4 at h;refine vl (fun K hK => ?_);push_cast;refine hK _ ?_;clear hK K;refine bk h ?_;exact sl (by push_cast [hb3])
  ·refine VC.exit ?_;replace h := ol h hf2;refine am h hk1 ?_;exact sl (by push_cast [hb3])
 ·rintro s_7 (h : p_shape_May_J1 a0 s_7 = some r);(try push_cast);unfold p_shape_May_J1 at h;refine vs [2] (fun K hK => ?_);push_cast;refine hK _ ?_;clear hK K;refine VC.ret ?_;replace h := Option.some.inj h;subst h;exact en (by push_cast)
noncomputable def p_shape_all : Option (C128) :=
  po (p_bounds_Of 0 4294967295) fun r1 =>
  some r1
theorem c_shape_all {r : C128} (h : p_shape_all = some r) : Ctr prog 173 [] [] (.raw (.complex .f64 r.re r.im)) [] := by
 unfold p_shape_all at h;refine Ctr.ofW tabOk func173 rfl call173 0 _ ntmps173 [.tmp 0] rfl rfl rfl (fun B => ?_);refine vs [] (fun K hK => ?_);push_cast;refine hK _ ?_;clear hK K;obtain ⟨r1,hr1,h⟩ := po_some h;refine vs [0] (fun K hK => ?_);push_cast;refine cp (c_bounds_Of hr1) ?_;push_cast;refine hK _ ?_;clear hK K;refine VC.ret ?_;replace h := Option.some.inj h;subst h;exact en (by push_cast)
noncomputable def p_shape_in_J1 (i_1 : Bool) : Option (Bool) :=
  some i_1
noncomputable def p_shape_in (a0 : Int) : Option (Bool) :=
  po (
  cond (decide (a0 ≥ 0)) (
  some (decide (a0 < 8))) (
  some false)) (fun x => p_shape_in_J1 x)
theorem c_shape_in {a0 : Int} {r : Bool} (h : p_shape_in a0 = some r) : Ctr prog 229 [ri a0] [] (rb r) [] := by
 unfold p_shape_in at h;refine Ctr.ofW tabOk func229 rfl call229 0 _ ntmps229 [.tmp 2] rfl rfl rfl (fun B => ?_);refine vs [0] (fun K hK => ?_);push_cast;refine hK _ ?_;clear hK K;refine vj h (fun x => ⟨[(2,rb x)],[],8,9,0⟩) (fun v1 h hk1 => ?_) ?_
 ·rcases Bool.eq_false_or_eq_true (decide (a0 ≥ 0)) with hb2 | hb2
  ·replace h := cond_yes hb2 h;refine vlG [some 3,some 4,some 5,some 6,some 7,some 8,some 2] (fun K hK => ?_);push_cast [hb2];(repeat refine .intro (by omega) ?_);refine hK _ ?_;clear hK K;refine ar h hk1 ?_;exact sl (by push_cast [hb2])
  ·replace h := cond_no hb2 h;refine vlG [some 3,some 4,some 5,some 6,some 7,some 8,some 2] (fun K hK => ?_);push_cast [hb2];(repeat refine .intro (by omega) ?_);refine hK _ ?_;clear hK K;refine ar h hk1 ?_;exact sl (by push_cast [hb2])
 ·rintro i_1 (h : p_shape_in_J1 i_1 = some r);(try push_cast);unfold p_shape_in_J1 at h;refine VC.ret ?_;replace h := Option.some.inj h;subst h;exact en (by push_cast)
noncomputable def p_shape_Put_J1 (a0 : T_Shape) (a1 : Int) (i_1 : C128) : Option (T_Shape) :=
  pg (0 ≤ a1 ∧ a1 < 8) <|
  pl (a0.Set.set a1.toNat true) fun y10 =>
  pl (a0.R.set a1.toNat i_1) fun y11 =>
  some (T_Shape.mk y10 y11)
noncomputable def p_shape_Put (a0 : T_Shape) (a1 : Int) (a2 : C128) : Option (T_Shape) :=
  pm (
  po (p_shape_May a0) fun r2 =>
  cond (!r2) (
  some (Sum.inr (T_Shape.mk (A8.mk false false false false false false false false) (A8.mk (C128.mk 0 0) (C128.mk 0 0) (C128.mk 0 0) (C128.mk 0 0) (C128.mk 0 0) (C128.mk 0 0) (C128.mk 0 0) (C128.mk 0 0))))) (
  po (p_shape_in a1) fun r4 =>
  cond (!r4) (
  some (Sum.inr a0)) (
  po (p_bounds_May a2) fun r6 =>
  cond (!r6) (
  po (p_shape_all) fun r8 =>
  some (Sum.inl r8)) (
  some (Sum.inl a2))))) (fun x => p_shape_Put_J1 a0 a1 x)
theorem c_shape_Put {a0 : T_Shape} {a1 : Int} {a2 : C128} {r : T_Shape} (h : p_shape_Put a0 a1 a2 = some r) : Ctr prog 207 [.agg (enc_Shape a0), ri a1, .raw (.complex .f64 a2.re a2.im)] [] (.agg (enc_Shape r)) [] := by
 unfold p_shape_Put at h;refine Ctr.ofW tabOk func207 rfl call207 0 _ ntmps207 [.cell 6 217] rfl rfl rfl (fun B => ?_);refine vs [1,2,3,6] (fun K hK => ?_);push_cast;refine hK _ ?_;clear hK K;refine vm h (fun x => ⟨[(1,ri a1),(2,.raw (.complex .f64 x.re x.im)),(3,.ref 0 0),(6,.ref 1 0)],[(0,.box 217 (enc_Shape a0)),(1,.box 217 (enc_Shape (T_Shape.mk (A8.mk false false false false false false false false) (A8.mk (C128.mk 0 0) (C128.mk 0 0) (C128.mk 0 0) (C128.mk 0 0) (C128.mk 0 0) (C128.mk 0 0) (C128.mk 0 0) (C128.mk 0 0)))))],16,30,0⟩) (fun v1 h hk1 => ?_) ?_
 ·refine VC.block ?_;obtain ⟨r2,hr2,h⟩ := po_some h;refine vs [1,2,3,6,7] (fun K hK => ?_);push_cast;refine cp (c_shape_May hr2) ?_;push_cast;refine hK _ ?_;clear hK K;refine vc h (fun hb3 h => ?_) (fun hb3 h => ?_)
  ·refine vs [6] (fun K hK => ?_);push_cast;refine hK _ ?_;clear hK K;refine VC.ret ?_;replace h := om h hk1;replace h := Option.some.inj h;subst h;exact en (by push_cast [hb3,encA8])
  ·obtain ⟨r4,hr4,h⟩ := po_some h;refine vs [1,2,3,6,12] (fun K hK => ?_);push_cast;refine cp (c_shape_in hr4) ?_;push_cast;refine hK _ ?_;clear hK K;refine vc h (fun hb5 h => ?_) (fun hb5 h => ?_)
   ·refine vs [6] (fun K hK => ?_);push_cast;refine hK _ ?_;clear hK K;refine VC.ret ?_;replace h := om h hk1;replace h := Option.some.inj h;subst h;exact en (by push_cast [hb3,hb5,encA8])
   ·obtain ⟨r6,hr6,h⟩ := po_some h;refine vs [1,2,3,6,17] (fun K hK => ?_);push_cast;refine cp (c_bounds_May hr6) ?_;push_cast;refine hK _ ?_;clear hK K;refine vc h (fun hb7 h => ?_) (fun hb7 h => ?_)
    ·obtain ⟨r8,hr8,h⟩ := po_some h;refine vl (fun K hK => ?_);push_cast;refine cp (c_shape_all hr8) ?_;push_cast;refine hK _ ?_;clear hK K;refine am h hk1 ?_;exact sl (by push_cast [hb3,hb5,hb7])
    ·refine VC.skip ?_;refine am h hk1 ?_;exact sl (by push_cast [hb3,hb5,hb7])
 ·rintro i_1 (h : p_shape_Put_J1 a0 a1 i_1 = some r);(try push_cast);unfold p_shape_Put_J1 at h;obtain ⟨hg9,h⟩ := pg_some h;have hg9n : a1.toNat < 8 := by omega
  obtain ⟨y10,hy10,h⟩ := pl_some h;obtain ⟨y11,hy11,h⟩ := pl_some h;refine vs [3,6] (fun K hK => ?_);push_cast [hg9,hg9n];(repeat refine .intro (by omega) ?_);refine hK _ ?_;clear hK K;refine vs [6] (fun K hK => ?_);push_cast;refine hK _ ?_;clear hK K;refine VC.ret ?_;replace h := Option.some.inj h;subst h;exact en (by push_cast [hy10,hy11,encA8])
noncomputable def p_shape_Join_J10 (a0 : T_Shape) (a1 : T_Shape) (s_4 : T_Shape) (i_5 : Int) (i_6 : Bool) : Option (T_Shape) :=
  cond i_6 (
  pg (0 ≤ i_5 ∧ i_5 < 8) <|
  po (p_bounds_Join (a0.R.get i_5.toNat) (a1.R.get i_5.toNat)) fun r15 =>
  po (p_shape_Put s_4 i_5 r15) fun r16 =>
  some r16) (
  some s_4)
noncomputable def p_shape_Join_J9 (i_5 : Int) (s_7 : T_Shape) : Option ((T_Shape × Int) ⊕ (T_Shape)) :=
  some (Sum.inl (s_7, (IntKind.i64.wrap (i_5 + 1))))
noncomputable def p_shape_Join_L7 (a0 : T_Shape) (a1 : T_Shape) (s_4 : T_Shape) (i_5 : Int) : Option ((T_Shape × Int) ⊕ (T_Shape)) :=
  cond (decide (i_5 < 8)) (
  po (
  po (
  pg (0 ≤ i_5 ∧ i_5 < 8) <|
  cond (a0.Set.get i_5.toNat) (
  some (a1.Set.get i_5.toNat)) (
  some false)) (fun x => p_shape_Join_J10 a0 a1 s_4 i_5 x)) (fun x => p_shape_Join_J9 i_5 x)) (
  some (Sum.inr s_4))
noncomputable def p_shape_Join_J6 (s_10 : T_Shape) : Option (T_Shape) :=
  some s_10
noncomputable def p_shape_Join_J1 (a0 : T_Shape) (a1 : T_Shape) (i_1 : Bool) : Option (T_Shape) :=
  cond i_1 (
  some (T_Shape.mk (A8.mk false false false false false false false false) (A8.mk (C128.mk 0 0) (C128.mk 0 0) (C128.mk 0 0) (C128.mk 0 0) (C128.mk 0 0) (C128.mk 0 0) (C128.mk 0 0) (C128.mk 0 0)))) (
  po (
  lpU (fun x => p_shape_Join_L7 a0 a1 x.1 x.2) ((T_Shape.mk (A8.mk false false false false false false false false) (A8.mk (C128.mk 0 0) (C128.mk 0 0) (C128.mk 0 0) (C128.mk 0 0) (C128.mk 0 0) (C128.mk 0 0) (C128.mk 0 0) (C128.mk 0 0))), 0)) (fun x => p_shape_Join_J6 x))
noncomputable def p_shape_Join (a0 : T_Shape) (a1 : T_Shape) : Option (T_Shape) :=
  po (
  po (p_shape_May a0) fun r2 =>
  cond r2 (
  po (p_shape_May a1) fun r4 =>
  some (!r4)) (
  some true)) (fun x => p_shape_Join_J1 a0 a1 x)
theorem c_shape_Join {a0 : T_Shape} {a1 : T_Shape} {r : T_Shape} (h : p_shape_Join a0 a1 = some r) : Ctr prog 174 [.agg (enc_Shape a0), .agg (enc_Shape a1)] [] (.agg (enc_Shape r)) [] := by
 unfold p_shape_Join at h;refine Ctr.ofW tabOk func174 rfl call174 0 _ ntmps174 [.cell 4 217] rfl rfl rfl (fun B => ?_);refine vs [2,3,4] (fun K hK => ?_);push_cast;refine hK _ ?_;clear hK K;refine vs [2,3,4,5] (fun K hK => ?_);push_cast;refine hK _ ?_;clear hK K;refine VC.seq ?_;refine vj h (fun x => ⟨[(2,.ref 0 0),(3,.ref 1 0),(4,.ref 2 0),(5,.ref 3 0),(14,rb x)],[(0,.box 217 (enc_Shape a0)),(1,.box 217 (enc_Shape a1)),(2,.box 217 (enc_Shape (T_Shape.mk (A8.mk false false false false false false false false) (A8.mk (C128.mk 0 0) (C128.mk 0 0) (C128.mk 0 0) (C128.mk 0 0) (C128.mk 0 0) (C128.mk 0 0) (C128.mk 0 0) (C128.mk 0 0))))),(3,.box 217 (enc_Shape (T_Shape.mk (A8.mk false false false false false false false false) (A8.mk (C128.mk 0 0) (C128.mk 0 0) (C128.mk 0 0) (C128.mk 0 0) (C128.mk 0 0) (C128.mk 0 0) (C128.mk 0 0) (C128.mk 0 0)))))],12,43,0⟩) (fun v1 h hk1 => ?_) ?_
 ·obtain ⟨r2,hr2,h⟩ := po_some h;rcases Bool.eq_false_or_eq_true r2 with hb3 | hb3
  ·replace h := cond_yes hb3 h;obtain ⟨r4,hr4,h⟩ := po_some h;refine vlG [some 7,some 8,some 9,some 10,some 11,some 12,some 13,some 14] (fun K hK => ?_);push_cast [hb3];(repeat refine .intro (by omega) ?_);refine cp (c_shape_May hr2) ?_;push_cast [hb3];(repeat refine .intro (by omega) ?_);refine cp (c_shape_May hr4) ?_;push_cast [hb3];(repeat refine .intro (by omega) ?_);refine hK _ ?_;clear hK K;refine ar h hk1 ?_;exact sl (by push_cast [hb3])
  ·replace h := cond_no hb3 h;refine vlG [some 7,some 8,some 9,some 10,some 11,some 12,some 13,some 14] (fun K hK => ?_);push_cast [hb3];(repeat refine .intro (by omega) ?_);refine cp (c_shape_May hr2) ?_;push_cast [hb3];(repeat refine .intro (by omega) ?_);refine hK _ ?_;clear hK K;refine ar h hk1 ?_;exact sl (by push_cast [hb3])
 ·rintro i_1 (h : p_shape_Join_J1 a0 a1 i_1 = some r);(try push_cast);unfold p_shape_Join_J1 at h;refine vc h (fun hb5 h => ?_) (fun hb5 h => ?_)
  ·refine vs [4] (fun K hK => ?_);push_cast;refine hK _ ?_;clear hK K;refine VC.ret ?_;replace h := Option.some.inj h;subst h;exact en (by push_cast [hb5,encA8])
  ·refine VC.skip ?_;refine vj h (fun x => ⟨[(4,.ref 2 0),(5,.ref 3 0)],[(2,.box 217 (enc_Shape (T_Shape.mk (A8.mk false false false false false false false false) (A8.mk (C128.mk 0 0) (C128.mk 0 0) (C128.mk 0 0) (C128.mk 0 0) (C128.mk 0 0) (C128.mk 0 0) (C128.mk 0 0) (C128.mk 0 0))))),(3,.box 217 (enc_Shape x))],42,43,0⟩) (fun v6 h hk6 => ?_) ?_
   ·refine vs [2,3,4,5,16] (fun K hK => ?_);push_cast;refine hK _ ?_;clear hK K;refine VC.block ?_;refine VC.loopP h (fun x => ⟨[(2,.ref 0 0),(3,.ref 1 0),(4,.ref 2 0),(5,.ref 3 0),(16,ri x.2)],[(0,.box 217 (enc_Shape a0)),(1,.box 217 (enc_Shape a1)),(2,.box 217 (enc_Shape (T_Shape.mk (A8.mk false false false false false false false false) (A8.mk (C128.mk 0 0) (C128.mk 0 0) (C128.mk 0 0) (C128.mk 0 0) (C128.mk 0 0) (C128.mk 0 0) (C128.mk 0 0) (C128.mk 0 0))))),(3,.box 217 (enc_Shape x.1))],41,43,0⟩) ?_ ?_
    ·exact sl (by push_cast [hb5])
    rintro ⟨s_4,i_5⟩ b7 (h : p_shape_Join_L7 a0 a1 s_4 i_5 = some b7) hf7;(try push_cast);unfold p_shape_Join_L7 at h;refine vs [2,3,4,5,16,17] (fun K hK => ?_);push_cast;refine hK _ ?_;clear hK K;refine VC.seq ?_;refine vc h (fun hb8 h => ?_) (fun hb8 h => ?_)
    ·refine VC.skip ?_;refine vj h (fun x => ⟨[(2,.ref 0 0),(3,.ref 1 0),(4,.ref 2 0),(5,.ref 3 0),(16,ri i_5)],[(0,.box 217 (enc_Shape a0)),(1,.box 217 (enc_Shape a1)),(2,.box 217 (enc_Shape (T_Shape.mk (A8.mk false false false false false false false false) (A8.mk (C128.mk 0 0) (C128.mk 0 0) (C128.mk 0 0) (C128.mk 0 0) (C128.mk 0 0) (C128.mk 0 0) (C128.mk 0 0) (C128.mk 0 0))))),(3,.box 217 (enc_Shape x))],67,43,0⟩) (fun v9 h hk9 => ?_) ?_
     ·refine VC.block ?_;refine vs [2,3,4,5,6,16] (fun K hK => ?_);push_cast;refine hK _ ?_;clear hK K;refine vj h (fun x => ⟨[(2,.ref 0 0),(3,.ref 1 0),(4,.ref 2 0),(5,.ref 3 0),(6,ri i_5),(16,ri i_5),(28,rb x)],[(0,.box 217 (enc_Shape a0)),(1,.box 217 (enc_Shape a1)),(2,.box 217 (enc_Shape (T_Shape.mk (A8.mk false false false false false false false false) (A8.mk (C128.mk 0 0) (C128.mk 0 0) (C128.mk 0 0) (C128.mk 0 0) (C128.mk 0 0) (C128.mk 0 0) (C128.mk 0 0) (C128.mk 0 0))))),(3,.box 217 (enc_Shape s_4))],54,43,0⟩) (fun v10 h hk10 => ?_) ?_
      ·obtain ⟨hg11,h⟩ := pg_some h;have hg11n : i_5.toNat < 8 := by omega
       rcases Bool.eq_false_or_eq_true (a0.Set.get i_5.toNat) with hb12 | hb12
       ·replace h := cond_yes hb12 h;refine vlG [some 19,some 20,some 21,some 22,some 23,some 24,some 25,some 26,some 27,some 28] (fun K hK => ?_);push_cast [hg11,hg11n,hb12];(repeat refine .intro (by omega) ?_);refine hK _ ?_;clear hK K;refine ar h hk10 ?_;exact sl (by push_cast [hb5,hb8,hb12])
       ·replace h := cond_no hb12 h;refine vlG [some 19,some 20,some 21,some 22,some 23,some 24,some 25,some 26,some 27,some 28] (fun K hK => ?_);push_cast [hg11,hg11n,hb12];(repeat refine .intro (by omega) ?_);refine hK _ ?_;clear hK K;refine ar h hk10 ?_;exact sl (by push_cast [hb5,hb8,hb12])
      ·rintro i_6 (h : p_shape_Join_J10 a0 a1 s_4 i_5 i_6 = some v9);(try push_cast);unfold p_shape_Join_J10 at h;refine vc h (fun hb13 h => ?_) (fun hb13 h => ?_)
       ·obtain ⟨hg14,h⟩ := pg_some h;have hg14n : i_5.toNat < 8 := by omega
        obtain ⟨r15,hr15,h⟩ := po_some h;obtain ⟨r16,hr16,h⟩ := po_some h;refine vlD [some 29,some 30,some 31,some 32,some 33,some 34,some 35,some 36,some 37,some 38,some 39,some 40,none] (fun K hK => ?_);refine runD_cut 8 (fun K2 hK2 => ?_);push_cast [hg14,hg14n];(repeat refine .intro (by omega) ?_);refine hK2 _ _ _ ?_;clear hK2 K2;simp only [List.drop_succ_cons,List.drop_zero];push_cast [hg14,hg14n];(repeat refine .intro (by omega) ?_);refine cpD (c_bounds_Join hr15) ?_;push_cast [hg14,hg14n];(repeat refine .intro (by omega) ?_);refine cpD (c_shape_Put hr16) ?_;push_cast [hg14,hg14n];(repeat refine .intro (by omega) ?_);refine ⟨rfl,hK _ ?_⟩;clear hK K;refine ar h hk9 ?_;exact sl (by push_cast [hb5,hb8,hb13])
       ·refine VC.skip ?_;refine ar h hk9 ?_;exact sl (by push_cast [hb5,hb8,hb13])
     ·rintro s_7 (h : p_shape_Join_J9 i_5 s_7 = some b7);(try push_cast);unfold p_shape_Join_J9 at h;refine vl (fun K hK => ?_);push_cast;refine hK _ ?_;clear hK K;refine bk h ?_;exact sl (by push_cast [hb5,hb8])
    ·refine VC.exit ?_;replace h := ol h hf7;refine ar h hk6 ?_;exact sl (by push_cast [hb5,hb8])
   ·rintro s_10 (h : p_shape_Join_J6 s_10 = some r);(try push_cast);unfold p_shape_Join_J6 at h;refine vs [4] (fun K hK => ?_);push_cast;refine hK _ ?_;clear hK K;refine VC.ret ?_;replace h := Option.some.inj h;subst h;exact en (by push_cast [hb5,encA8])
noncomputable def p_verify_work_to (a0 : T_verify_work) (a1 : Int) (a2 : T_Shape) : Option (T_verify_work) :=
  cond (decide (a1 ≥ (a0.in_.length : Int))) (
  some (T_verify_work.mk a0.p a0.fn a0.l a0.in_ a0.is a0.at_ false)) (
  po (idx a0.is a1) fun x2 =>
  cond x2 (
  po (idx a0.in_ a1) fun x4 =>
  po (p_shape_Join x4 a2) fun r5 =>
  pl (a0.in_.set a1.toNat r5) fun y6 =>
  some (T_verify_work.mk a0.p a0.fn a0.l y6 a0.is a0.at_ a0.safe)) (
  po (idx a0.in_ a1) fun x7 =>
  pl (a0.in_.set a1.toNat a2) fun y8 =>
  pl (a0.is.set a1.toNat true) fun y9 =>
  some (T_verify_work.mk a0.p a0.fn a0.l y8 y9 a0.at_ a0.safe)))
theorem c_verify_work_to {a0 : T_verify_work} {a1 : Int} {a2 : T_Shape} {r : T_verify_work} (h : p_verify_work_to a0 a1 a2 = some r) : Ctr prog 129 [.ref 0 0, ri a1, .agg (enc_Shape a2)] [(0, .box 212 [.sl false (a0.p.Fns.map enc_Fn), ri a0.fn, .sl false (a0.l.map enc_Schema), .row 1 0 16 0 a0.in_.length, .row 2 0 1 0 a0.is.length, ri a0.at_, rb a0.safe]), (1, .row 217 16 0 (a0.in_.map enc_Shape)), (2, .row 4 1 0 (a0.is.map encBool))] (.tup []) [(0, .box 212 [.sl false (r.p.Fns.map enc_Fn), ri r.fn, .sl false (r.l.map enc_Schema), .row 1 0 16 0 r.in_.length, .row 2 0 1 0 r.is.length, ri r.at_, rb r.safe]), (1, .row 217 16 0 (r.in_.map enc_Shape)), (2, .row 4 1 0 (r.is.map encBool))] := by
 unfold p_verify_work_to at h;refine Ctr.ofW tabOk func129 rfl call129 3 _ ntmps129 [] rfl rfl rfl (fun B => ?_);refine vs [0,1,5] (fun K hK => ?_);push_cast;refine hK _ ?_;clear hK K;refine VC.block ?_;refine vs [0,1,5,19] (fun K hK => ?_);push_cast;refine hK _ ?_;clear hK K;refine vc h (fun hb1 h => ?_) (fun hb1 h => ?_)
 ·refine vl (fun K hK => ?_);push_cast;refine hK _ ?_;clear hK K;replace h := Option.some.inj h;subst h;exact eN (by push_cast [hb1])
 ·obtain ⟨x2,hx2,h⟩ := po_some h;replace hx2 := idx_some4 hx2;refine vs [0,1,5,30] (fun K hK => ?_);push_cast [hx2];(repeat refine .intro (by omega) ?_);refine hK _ ?_;clear hK K;refine vc h (fun hb3 h => ?_) (fun hb3 h => ?_)
  ·obtain ⟨x4,hx4,h⟩ := po_some h;replace hx4 := idx_some4 hx4;obtain ⟨r5,hr5,h⟩ := po_some h;obtain ⟨y6,hy6,h⟩ := pl_some h;have hy6l : y6.length = a0.in_.length := by rw [hy6,List.length_set]
   refine vlD [some 38,some 39,some 40,some 41,some 42,some 43,some 44,some 45,some 46,some 47,some 48,some 49,some 50,some 51,some 52,none] (fun K hK => ?_);refine runD_cut 8 (fun K2 hK2 => ?_);push_cast [hx4];(repeat refine .intro (by omega) ?_);refine hK2 _ _ _ ?_;clear hK2 K2;simp only [List.drop_succ_cons,List.drop_zero];push_cast [hx4];(repeat refine .intro (by omega) ?_);refine cpD (c_shape_Join hr5) ?_;push_cast [hx4];(repeat refine .intro (by omega) ?_);refine ⟨rfl,hK _ ?_⟩;clear hK K;replace h := Option.some.inj h;subst h;exact eN (by push_cast [hb1,hb3,hy6,hy6l])
  ·obtain ⟨x7,hx7,h⟩ := po_some h;replace hx7 := idx_some4 hx7;obtain ⟨y8,hy8,h⟩ := pl_some h;have hy8l : y8.length = a0.in_.length := by rw [hy8,List.length_set]
   obtain ⟨y9,hy9,h⟩ := pl_some h;have hy9l : y9.length = a0.is.length := by rw [hy9,List.length_set]
   refine vlD [some 6,some 7,some 8,some 9,some 10,some 11,some 12,some 13,some 14,some 15,some 16,some 17,none,some 18,none] (fun K hK => ?_);refine runD_cut 8 (fun K2 hK2 => ?_);push_cast [hx7,hx2];(repeat refine .intro (by omega) ?_);refine hK2 _ _ _ ?_;clear hK2 K2;simp only [List.drop_succ_cons,List.drop_zero];push_cast [hx7,hx2];(repeat refine .intro (by omega) ?_);refine ⟨rfl,hK _ ?_⟩;clear hK K;replace h := Option.some.inj h;subst h;exact eN (by push_cast [hb1,hb3,hy8,hy8l,hy9,hy9l])
noncomputable def p_shape_New_L5 (a0 : Int) (s_2 : T_Shape) (i_3 : Int) : Option ((T_Shape × Int) ⊕ (T_Shape)) :=
  cond (decide (i_3 < a0)) (
  po (p_shape_all) fun r7 =>
  pg (0 ≤ (IntKind.i64.wrap (i_3 + 1)) ∧ (IntKind.i64.wrap (i_3 + 1)) < 8) <|
  pl (s_2.Set.set ((IntKind.i64.wrap (i_3 + 1)).toNat) true) fun y9 =>
  pl (s_2.R.set ((IntKind.i64.wrap (i_3 + 1)).toNat) r7) fun y10 =>
  some (Sum.inl ((T_Shape.mk y9 y10), (IntKind.i64.wrap (i_3 + 1))))) (
  some (Sum.inr s_2))
noncomputable def p_shape_New_J4 (s_6 : T_Shape) : Option (T_Shape × Bool) :=
  some (s_6, true)
noncomputable def p_shape_New_J1 (a0 : Int) (i_1 : Bool) : Option (T_Shape × Bool) :=
  cond i_1 (
  some ((T_Shape.mk (A8.mk false false false false false false false false) (A8.mk (C128.mk 0 0) (C128.mk 0 0) (C128.mk 0 0) (C128.mk 0 0) (C128.mk 0 0) (C128.mk 0 0) (C128.mk 0 0) (C128.mk 0 0))), false)) (
  po (
  lpU (fun x => p_shape_New_L5 a0 x.1 x.2) ((T_Shape.mk (A8.mk false false false false false false false false) (A8.mk (C128.mk 0 0) (C128.mk 0 0) (C128.mk 0 0) (C128.mk 0 0) (C128.mk 0 0) (C128.mk 0 0) (C128.mk 0 0) (C128.mk 0 0))), 0)) (fun x => p_shape_New_J4 x))
noncomputable def p_shape_New (a0 : Int) : Option (T_Shape × Bool) :=
  po (
  cond (decide (a0 < 0)) (
  some true) (
  some (decide (a0 > 4)))) (fun x => p_shape_New_J1 a0 x)
theorem c_shape_New {a0 : Int} {r : T_Shape × Bool} (h : p_shape_New a0 = some r) : Ctr prog 128 [ri a0] [] (.tup [.agg (enc_Shape r.1), rb r.2]) [] := by
 unfold p_shape_New at h;refine Ctr.ofW tabOk func128 rfl call128 0 _ ntmps128 [.cell 2 217,.tmp 3] rfl rfl rfl (fun B => ?_);refine vs [0,2] (fun K hK => ?_);push_cast;refine hK _ ?_;clear hK K;refine vs [0,2,4] (fun K hK => ?_);push_cast;refine hK _ ?_;clear hK K;refine VC.seq ?_;refine vj h (fun x => ⟨[(0,ri a0),(2,.ref 0 0),(4,.ref 2 0),(11,rb x)],[(0,.box 217 (enc_Shape (T_Shape.mk (A8.mk false false false false false false false false) (A8.mk (C128.mk 0 0) (C128.mk 0 0) (C128.mk 0 0) (C128.mk 0 0) (C128.mk 0 0) (C128.mk 0 0) (C128.mk 0 0) (C128.mk 0 0))))),(2,.box 217 (enc_Shape (T_Shape.mk (A8.mk false false false false false false false false) (A8.mk (C128.mk 0 0) (C128.mk 0 0) (C128.mk 0 0) (C128.mk 0 0) (C128.mk 0 0) (C128.mk 0 0) (C128.mk 0 0) (C128.mk 0 0)))))],9,28,0⟩) (fun v1 h hk1 => ?_) ?_
 ·rcases Bool.eq_false_or_eq_true (decide (a0 < 0)) with hb2 | hb2
  ·replace h := cond_yes hb2 h;refine vlG [some 6,some 7,some 8,some 9,some 10,some 11] (fun K hK => ?_);push_cast [hb2];(repeat refine .intro (by omega) ?_);refine hK _ ?_;clear hK K;refine ar h hk1 ?_;exact sl (by push_cast [hb2])
  ·replace h := cond_no hb2 h;refine vlG [some 6,some 7,some 8,some 9,some 10,some 11] (fun K hK => ?_);push_cast [hb2];(repeat refine .intro (by omega) ?_);refine hK _ ?_;clear hK K;refine ar h hk1 ?_;exact sl (by push_cast [hb2])
 ·rintro i_1 (h : p_shape_New_J1 a0 i_1 = some r);(try push_cast);unfold p_shape_New_J1 at h;refine vc h (fun hb3 h => ?_) (fun hb3 h => ?_)
  ·refine vs [2,3] (fun K hK => ?_);push_cast;refine hK _ ?_;clear hK K;refine VC.ret ?_;replace h := Option.some.inj h;subst h;exact en (by push_cast [hb3,encA8])
  ·refine VC.skip ?_;refine vj h (fun x => ⟨[(2,.ref 0 0),(4,.ref 2 0)],[(0,.box 217 (enc_Shape (T_Shape.mk (A8.mk false false false false false false false false) (A8.mk (C128.mk 0 0) (C128.mk 0 0) (C128.mk 0 0) (C128.mk 0 0) (C128.mk 0 0) (C128.mk 0 0) (C128.mk 0 0) (C128.mk 0 0))))),(2,.box 217 (enc_Shape x))],28,28,0⟩) (fun v4 h hk4 => ?_) ?_
   ·refine vs [2,4,13,14] (fun K hK => ?_);push_cast;refine hK _ ?_;clear hK K;refine VC.block ?_;refine VC.loopP h (fun x => ⟨[(2,.ref 0 0),(4,.ref 2 0),(13,ri a0),(14,ri x.2)],[(0,.box 217 (enc_Shape (T_Shape.mk (A8.mk false false false false false false false false) (A8.mk (C128.mk 0 0) (C128.mk 0 0) (C128.mk 0 0) (C128.mk 0 0) (C128.mk 0 0) (C128.mk 0 0) (C128.mk 0 0) (C128.mk 0 0))))),(2,.box 217 (enc_Shape x.1))],27,28,0⟩) ?_ ?_
    ·exact sl (by push_cast [hb3])
    rintro ⟨s_2,i_3⟩ b5 (h : p_shape_New_L5 a0 s_2 i_3 = some b5) hf5;(try push_cast);unfold p_shape_New_L5 at h;refine vs [2,4,13,14,15] (fun K hK => ?_);push_cast;refine hK _ ?_;clear hK K;refine VC.seq ?_;refine vc h (fun hb6 h => ?_) (fun hb6 h => ?_)
    ·refine VC.skip ?_;refine VC.seq ?_;refine VC.block ?_;refine vs [2,4,5,13,14] (fun K hK => ?_);push_cast;refine hK _ ?_;clear hK K;obtain ⟨r7,hr7,h⟩ := po_some h;obtain ⟨hg8,h⟩ := pg_some h;have hg8n : (IntKind.i64.wrap (i_3 + 1)).toNat < 8 := by omega
     obtain ⟨y9,hy9,h⟩ := pl_some h;obtain ⟨y10,hy10,h⟩ := pl_some h;refine vlD [some 17,some 18,some 19,some 20,some 21,some 22,some 23,none,some 24,some 25,none] (fun K hK => ?_);refine runD_cut 8 (fun K2 hK2 => ?_);push_cast [hg8,hg8n];(repeat refine .intro (by omega) ?_);refine cpD (c_shape_all hr7) ?_;push_cast [hg8,hg8n];(repeat refine .intro (by omega) ?_);refine hK2 _ _ _ ?_;clear hK2 K2;simp only [List.drop_succ_cons,List.drop_zero];push_cast [hg8,hg8n];(repeat refine .intro (by omega) ?_);refine ⟨rfl,hK _ ?_⟩;clear hK K;refine vl (fun K hK => ?_);push_cast;refine hK _ ?_;clear hK K;refine bk h ?_;exact sl (by push_cast [hb3,hb6,hy9,hy10])
    ·refine VC.exit ?_;replace h := ol h hf5;refine ar h hk4 ?_;exact sl (by push_cast [hb3,hb6])
   ·rintro s_6 (h : p_shape_New_J4 s_6 = some r);(try push_cast);unfold p_shape_New_J4 at h;refine vs [2,3] (fun K hK => ?_);push_cast;refine hK _ ?_;clear hK K;refine VC.ret ?_;replace h := Option.some.inj h;subst h;exact en (by push_cast [hb3,encA8])
noncomputable def p_verify_Shapes_1 (a0 : T_Schema) : Option (Bool) :=
  po (p_schema_May a0) fun r1 =>
  some (!r1)
theorem c_verify_Shapes_1 {a0 : T_Schema} {r : Bool} (h : p_verify_Shapes_1 a0 = some r) : Ctr prog 127 [.agg (enc_Schema a0)] [] (rb r) [] := by
 unfold p_verify_Shapes_1 at h;refine Ctr.ofW tabOk func127 rfl call127 0 _ ntmps127 [.tmp 2] rfl rfl rfl (fun B => ?_);refine vs [1] (fun K hK => ?_);push_cast;refine hK _ ?_;clear hK K;obtain ⟨r1,hr1,h⟩ := po_some h;refine vs [2] (fun K hK => ?_);push_cast;refine cp (c_schema_May hr1) ?_;push_cast;refine hK _ ?_;clear hK K;refine VC.ret ?_;replace h := Option.some.inj h;subst h;exact en (by push_cast)
noncomputable def p_verify_work_alu (a0 : T_verify_work) (a1 : T_Inst) : Option (T_verify_work) :=
  none
theorem c_verify_work_alu {a0 : T_verify_work} {a1 : T_Inst} {r : T_verify_work} (h : p_verify_work_alu a0 a1 = some r) : Ctr prog 175 [.ref 0 0, .agg (enc_Inst a1)] [(0, .box 212 [.sl false (a0.p.Fns.map enc_Fn), ri a0.fn, .sl false (a0.l.map enc_Schema), .row 1 0 16 0 a0.in_.length, .row 2 0 1 0 a0.is.length, ri a0.at_, rb a0.safe]), (1, .row 217 16 0 (a0.in_.map enc_Shape)), (2, .row 4 1 0 (a0.is.map encBool))] (.tup []) [(0, .box 212 [.sl false (r.p.Fns.map enc_Fn), ri r.fn, .sl false (r.l.map enc_Schema), .row 1 0 16 0 r.in_.length, .row 2 0 1 0 r.is.length, ri r.at_, rb r.safe]), (1, .row 217 16 0 (r.in_.map enc_Shape)), (2, .row 4 1 0 (r.is.map encBool))] := by
 unfold p_verify_work_alu at h;refine Ctr.ofW tabOk func175 rfl call175 3 _ ntmps175 [] rfl rfl rfl (fun B => ?_);cases h
noncomputable def p_verify_work_call (a0 : T_verify_work) (a1 : T_Inst) : Option (T_verify_work) :=
  none
theorem c_verify_work_call {a0 : T_verify_work} {a1 : T_Inst} {r : T_verify_work} (h : p_verify_work_call a0 a1 = some r) : Ctr prog 181 [.ref 0 0, .agg (enc_Inst a1)] [(0, .box 212 [.sl false (a0.p.Fns.map enc_Fn), ri a0.fn, .sl false (a0.l.map enc_Schema), .row 1 0 16 0 a0.in_.length, .row 2 0 1 0 a0.is.length, ri a0.at_, rb a0.safe]), (1, .row 217 16 0 (a0.in_.map enc_Shape)), (2, .row 4 1 0 (a0.is.map encBool))] (.tup []) [(0, .box 212 [.sl false (r.p.Fns.map enc_Fn), ri r.fn, .sl false (r.l.map enc_Schema), .row 1 0 16 0 r.in_.length, .row 2 0 1 0 r.is.length, ri r.at_, rb r.safe]), (1, .row 217 16 0 (r.in_.map enc_Shape)), (2, .row 4 1 0 (r.is.map encBool))] := by
 unfold p_verify_work_call at h;refine Ctr.ofW tabOk func181 rfl call181 3 _ ntmps181 [] rfl rfl rfl (fun B => ?_);cases h
noncomputable def p_verify_work_here (a0 : T_verify_work) : Option (T_Shape × T_verify_work) :=
  po (idx a0.in_ a0.at_) fun x1 =>
  some (x1, a0)
theorem c_verify_work_here {a0 : T_verify_work} {r : T_Shape × T_verify_work} (h : p_verify_work_here a0 = some r) : Ctr prog 213 [.ref 0 0] [(0, .box 212 [.sl false (a0.p.Fns.map enc_Fn), ri a0.fn, .sl false (a0.l.map enc_Schema), .row 1 0 16 0 a0.in_.length, .row 2 0 1 0 a0.is.length, ri a0.at_, rb a0.safe]), (1, .row 217 16 0 (a0.in_.map enc_Shape)), (2, .row 4 1 0 (a0.is.map encBool))] (.agg (enc_Shape r.1)) [(0, .box 212 [.sl false (r.2.p.Fns.map enc_Fn), ri r.2.fn, .sl false (r.2.l.map enc_Schema), .row 1 0 16 0 r.2.in_.length, .row 2 0 1 0 r.2.is.length, ri r.2.at_, rb r.2.safe]), (1, .row 217 16 0 (r.2.in_.map enc_Shape)), (2, .row 4 1 0 (r.2.is.map encBool))] := by
 unfold p_verify_work_here at h;refine Ctr.ofW tabOk func213 rfl call213 3 _ ntmps213 [.cell 2 217] rfl rfl rfl (fun B => ?_);refine vs [0,2] (fun K hK => ?_);push_cast;refine hK _ ?_;clear hK K;obtain ⟨x1,hx1,h⟩ := po_some h;replace hx1 := idx_some4 hx1;refine vsD [some 3,some 4,some 5,some 6,some 7,some 8,some 9,some 10,some 11,some 12,none] [2] (fun K hK => ?_);refine runD_cut 8 (fun K2 hK2 => ?_);push_cast [hx1];(repeat refine .intro (by omega) ?_);refine hK2 _ _ _ ?_;clear hK2 K2;simp only [List.drop_succ_cons,List.drop_zero];push_cast [hx1];(repeat refine .intro (by omega) ?_);refine ⟨rfl,hK _ ?_⟩;clear hK K;refine VC.ret ?_;replace h := Option.some.inj h;subst h;exact en (by push_cast [encA8])
noncomputable def p_verify_work_then (a0 : T_verify_work) (a1 : T_Shape) : Option (T_verify_work) :=
  cond a0.safe (
  po (p_verify_work_to a0 (IntKind.i64.wrap (a0.at_ + 1)) a1) fun r2 =>
  some r2) (
  some a0)
theorem c_verify_work_then {a0 : T_verify_work} {a1 : T_Shape} {r : T_verify_work} (h : p_verify_work_then a0 a1 = some r) : Ctr prog 217 [.ref 0 0, .agg (enc_Shape a1)] [(0, .box 212 [.sl false (a0.p.Fns.map enc_Fn), ri a0.fn, .sl false (a0.l.map enc_Schema), .row 1 0 16 0 a0.in_.length, .row 2 0 1 0 a0.is.length, ri a0.at_, rb a0.safe]), (1, .row 217 16 0 (a0.in_.map enc_Shape)), (2, .row 4 1 0 (a0.is.map encBool))] (.tup []) [(0, .box 212 [.sl false (r.p.Fns.map enc_Fn), ri r.fn, .sl false (r.l.map enc_Schema), .row 1 0 16 0 r.in_.length, .row 2 0 1 0 r.is.length, ri r.at_, rb r.safe]), (1, .row 217 16 0 (r.in_.map enc_Shape)), (2, .row 4 1 0 (r.is.map encBool))] := by
 unfold p_verify_work_then at h;refine Ctr.ofW tabOk func217 rfl call217 3 _ ntmps217 [] rfl rfl rfl (fun B => ?_);refine vs [0,3] (fun K hK => ?_);push_cast;refine hK _ ?_;clear hK K;refine vs [0,3,7] (fun K hK => ?_);push_cast;refine hK _ ?_;clear hK K;refine vc h (fun hb1 h => ?_) (fun hb1 h => ?_)
 ·obtain ⟨r2,hr2,h⟩ := po_some h;refine vlD [some 8,some 9,some 10,some 11,some 12,some 13,some 14,some 15] (fun K hK => ?_);push_cast;refine chD (H := [(0,.box 212 [.sl false (a0.p.Fns.map enc_Fn),ri a0.fn,.sl false (a0.l.map enc_Schema),.row 1 0 16 0 a0.in_.length,.row 2 0 1 0 a0.is.length,ri a0.at_,rb a0.safe]),(1,.row 217 16 0 (a0.in_.map enc_Shape)),(2,.row 4 1 0 (a0.is.map encBool))]) (Ctr.loH (Ctr.ren Bij.id (c_verify_work_to hr2) (by push_cast) (by push_cast))) (by push_cast) ?_;push_cast;refine ⟨rfl,hK _ ?_⟩;clear hK K;replace h := Option.some.inj h;subst h;exact eN (by push_cast [hb1])
 ·refine VC.skip ?_;replace h := Option.some.inj h;subst h;exact eN (by push_cast [hb1])
noncomputable def p_verify_work_put (a0 : T_verify_work) (a1 : Int) (a2 : C128) : Option (T_verify_work) :=
  po (p_verify_work_here a0) fun r1 =>
  pg (r1.2 = a0) <|
  po (p_shape_Put r1.1 a1 a2) fun r3 =>
  po (p_verify_work_then a0 r3) fun r4 =>
  some r4
theorem c_verify_work_put {a0 : T_verify_work} {a1 : Int} {a2 : C128} {r : T_verify_work} (h : p_verify_work_put a0 a1 a2 = some r) : Ctr prog 211 [.ref 0 0, ri a1, .raw (.complex .f64 a2.re a2.im)] [(0, .box 212 [.sl false (a0.p.Fns.map enc_Fn), ri a0.fn, .sl false (a0.l.map enc_Schema), .row 1 0 16 0 a0.in_.length, .row 2 0 1 0 a0.is.length, ri a0.at_, rb a0.safe]), (1, .row 217 16 0 (a0.in_.map enc_Shape)), (2, .row 4 1 0 (a0.is.map encBool))] (.tup []) [(0, .box 212 [.sl false (r.p.Fns.map enc_Fn), ri r.fn, .sl false (r.l.map enc_Schema), .row 1 0 16 0 r.in_.length, .row 2 0 1 0 r.is.length, ri r.at_, rb r.safe]), (1, .row 217 16 0 (r.in_.map enc_Shape)), (2, .row 4 1 0 (r.is.map encBool))] := by
 unfold p_verify_work_put at h;refine Ctr.ofW tabOk func211 rfl call211 3 _ ntmps211 [] rfl rfl rfl (fun B => ?_);obtain ⟨r1,hr1,h⟩ := po_some h;obtain ⟨hg2,h⟩ := pg_some h;have qr1 := c_verify_work_here hr1;rw [hg2] at qr1;obtain ⟨r3,hr3,h⟩ := po_some h;obtain ⟨r4,hr4,h⟩ := po_some h;refine vl (fun K hK => ?_);push_cast;refine chR (H := [(0,.box 212 [.sl false (a0.p.Fns.map enc_Fn),ri a0.fn,.sl false (a0.l.map enc_Schema),.row 1 0 16 0 a0.in_.length,.row 2 0 1 0 a0.is.length,ri a0.at_,rb a0.safe]),(1,.row 217 16 0 (a0.in_.map enc_Shape)),(2,.row 4 1 0 (a0.is.map encBool))]) (Ctr.loH (Ctr.ren Bij.id (qr1) (by push_cast) (by push_cast))) (by push_cast) (by push_cast) ?_;push_cast;refine cp (c_shape_Put hr3) ?_;push_cast;refine ch (H := [(0,.box 212 [.sl false (a0.p.Fns.map enc_Fn),ri a0.fn,.sl false (a0.l.map enc_Schema),.row 1 0 16 0 a0.in_.length,.row 2 0 1 0 a0.is.length,ri a0.at_,rb a0.safe]),(1,.row 217 16 0 (a0.in_.map enc_Shape)),(2,.row 4 1 0 (a0.is.map encBool))]) (Ctr.loH (Ctr.ren Bij.id (c_verify_work_then hr4) (by push_cast) (by push_cast))) (by push_cast) ?_;push_cast;refine hK _ ?_;clear hK K;replace h := Option.some.inj h;subst h;exact eN (by push_cast)
noncomputable def p_verify_work_within (a0 : T_verify_work) (a1 : C128) (a2 : Int) : Option (T_verify_work) :=
  po (p_bounds_Ends a1) fun r1 =>
  cond a0.safe (
  cond r1.2.2 (
  some (T_verify_work.mk a0.p a0.fn a0.l a0.in_ a0.is a0.at_ (decide ((IntKind.u64.wrap (r1.2.1.toNat : Int)) < (IntKind.u64.wrap a2))))) (
  some (T_verify_work.mk a0.p a0.fn a0.l a0.in_ a0.is a0.at_ false))) (
  some (T_verify_work.mk a0.p a0.fn a0.l a0.in_ a0.is a0.at_ false))
theorem c_verify_work_within {a0 : T_verify_work} {a1 : C128} {a2 : Int} {r : T_verify_work} (h : p_verify_work_within a0 a1 a2 = some r) : Ctr prog 216 [.ref 0 0, .raw (.complex .f64 a1.re a1.im), ri a2] [(0, .box 212 [.sl false (a0.p.Fns.map enc_Fn), ri a0.fn, .sl false (a0.l.map enc_Schema), .row 1 0 16 0 a0.in_.length, .row 2 0 1 0 a0.is.length, ri a0.at_, rb a0.safe]), (1, .row 217 16 0 (a0.in_.map enc_Shape)), (2, .row 4 1 0 (a0.is.map encBool))] (.tup []) [(0, .box 212 [.sl false (r.p.Fns.map enc_Fn), ri r.fn, .sl false (r.l.map enc_Schema), .row 1 0 16 0 r.in_.length, .row 2 0 1 0 r.is.length, ri r.at_, rb r.safe]), (1, .row 217 16 0 (r.in_.map enc_Shape)), (2, .row 4 1 0 (r.is.map encBool))] := by
 unfold p_verify_work_within at h;refine Ctr.ofW tabOk func216 rfl call216 3 _ ntmps216 [] rfl rfl rfl (fun B => ?_);obtain ⟨r1,hr1,h⟩ := po_some h;refine vs [0,2,7,8] (fun K hK => ?_);push_cast;refine cp (c_bounds_Ends hr1) ?_;push_cast;refine hK _ ?_;clear hK K;rcases Bool.eq_false_or_eq_true a0.safe with hb2 | hb2
 ·replace h := cond_yes hb2 h;rcases Bool.eq_false_or_eq_true r1.2.2 with hb3 | hb3
  ·replace h := cond_yes hb3 h;refine vlG [some 15,some 16,some 17,some 18,some 19,some 20,some 21,some 22,some 23,some 24,some 25,some 26,some 27,some 28,some 29,some 30,some 31,none] (fun K hK => ?_);refine runOps_cut 8 (fun K2 hK2 => ?_);push_cast [hb2,hb3];(repeat refine .intro (by omega) ?_);refine hK2 _ _ ?_;clear hK2 K2;simp only [List.drop_succ_cons,List.drop_zero];push_cast [hb2,hb3];(repeat refine .intro (by omega) ?_);refine hK _ ?_;clear hK K;replace h := Option.some.inj h;subst h;exact eN (by push_cast [hb2,hb3])
  ·replace h := cond_no hb3 h;refine vlG [some 15,some 16,some 17,some 18,some 19,some 20,some 21,some 22,some 23,some 24,some 25,some 26,some 27,some 28,some 29,some 30,some 31,none] (fun K hK => ?_);refine runOps_cut 8 (fun K2 hK2 => ?_);push_cast [hb2,hb3];(repeat refine .intro (by omega) ?_);refine hK2 _ _ ?_;clear hK2 K2;simp only [List.drop_succ_cons,List.drop_zero];push_cast [hb2,hb3];(repeat refine .intro (by omega) ?_);refine hK _ ?_;clear hK K;replace h := Option.some.inj h;subst h;exact eN (by push_cast [hb2,hb3])
 ·replace h := cond_no hb2 h;refine vlG [some 15,some 16,some 17,some 18,some 19,some 20,some 21,some 22,some 23,some 24,some 25,some 26,some 27,some 28,some 29,some 30,some 31,none] (fun K hK => ?_);refine runOps_cut 8 (fun K2 hK2 => ?_);push_cast [hb2];(repeat refine .intro (by omega) ?_);refine hK2 _ _ ?_;clear hK2 K2;simp only [List.drop_succ_cons,List.drop_zero];push_cast [hb2];(repeat refine .intro (by omega) ?_);refine hK _ ?_;clear hK K;replace h := Option.some.inj h;subst h;exact eN (by push_cast [hb2])
noncomputable def p_shape_Get_J1 (a0 : T_Shape) (a1 : Int) (i_1 : Bool) : Option (C128 × Bool) :=
  cond i_1 (
  some ((C128.mk 0 0), false)) (
  pg (0 ≤ a1 ∧ a1 < 8) <|
  some ((a0.R.get a1.toNat), true))
noncomputable def p_shape_Get (a0 : T_Shape) (a1 : Int) : Option (C128 × Bool) :=
  po (
  po (p_shape_May a0) fun r2 =>
  cond r2 (
  po (p_shape_in a1) fun r4 =>
  cond r4 (
  pg (0 ≤ a1 ∧ a1 < 8) <|
  some (!(a0.Set.get a1.toNat))) (
  some true)) (
  some true)) (fun x => p_shape_Get_J1 a0 a1 x)
theorem c_shape_Get {a0 : T_Shape} {a1 : Int} {r : C128 × Bool} (h : p_shape_Get a0 a1 = some r) : Ctr prog 232 [.agg (enc_Shape a0), ri a1] [] (.tup [.raw (.complex .f64 r.1.re r.1.im), rb r.2]) [] := by
 unfold p_shape_Get at h;refine Ctr.ofW tabOk func232 rfl call232 0 _ ntmps232 [.tmp 4,.tmp 5] rfl rfl rfl (fun B => ?_);refine vs [1,2] (fun K hK => ?_);push_cast;refine hK _ ?_;clear hK K;refine VC.seq ?_;refine vj h (fun x => ⟨[(1,ri a1),(2,.ref 0 0),(20,rb x)],[(0,.box 217 (enc_Shape a0))],18,25,0⟩) (fun v1 h hk1 => ?_) ?_
 ·obtain ⟨r2,hr2,h⟩ := po_some h;rcases Bool.eq_false_or_eq_true r2 with hb3 | hb3
  ·replace h := cond_yes hb3 h;obtain ⟨r4,hr4,h⟩ := po_some h;rcases Bool.eq_false_or_eq_true r4 with hb5 | hb5
   ·replace h := cond_yes hb5 h;obtain ⟨hg6,h⟩ := pg_some h;have hg6n : a1.toNat < 8 := by omega
    refine vlG [some 6,some 7,some 8,some 9,some 10,some 11,some 12,some 13,some 14,some 15,some 16,some 17,some 18,some 19,some 20] (fun K hK => ?_);refine runOps_cut 8 (fun K2 hK2 => ?_);push_cast [hb3,hb5,hg6,hg6n];(repeat refine .intro (by omega) ?_);refine cp (c_shape_May hr2) ?_;push_cast [hb3,hb5,hg6,hg6n];(repeat refine .intro (by omega) ?_);refine cp (c_shape_in hr4) ?_;push_cast [hb3,hb5,hg6,hg6n];(repeat refine .intro (by omega) ?_);refine hK2 _ _ ?_;clear hK2 K2;simp only [List.drop_succ_cons,List.drop_zero];push_cast [hb3,hb5,hg6,hg6n];(repeat refine .intro (by omega) ?_);refine hK _ ?_;clear hK K;refine ar h hk1 ?_;exact sl (by push_cast [hb3,hb5])
   ·replace h := cond_no hb5 h;refine vlG [some 6,some 7,some 8,some 9,some 10,some 11,some 12,some 13,some 14,some 15,some 16,some 17,some 18,some 19,some 20] (fun K hK => ?_);refine runOps_cut 8 (fun K2 hK2 => ?_);push_cast [hb3,hb5];(repeat refine .intro (by omega) ?_);refine cp (c_shape_May hr2) ?_;push_cast [hb3,hb5];(repeat refine .intro (by omega) ?_);refine cp (c_shape_in hr4) ?_;push_cast [hb3,hb5];(repeat refine .intro (by omega) ?_);refine hK2 _ _ ?_;clear hK2 K2;simp only [List.drop_succ_cons,List.drop_zero];push_cast [hb3,hb5];(repeat refine .intro (by omega) ?_);refine hK _ ?_;clear hK K;refine ar h hk1 ?_;exact sl (by push_cast [hb3,hb5])
  ·replace h := cond_no hb3 h;refine vlG [some 6,some 7,some 8,some 9,some 10,some 11,some 12,some 13,some 14,some 15,some 16,some 17,some 18,some 19,some 20] (fun K hK => ?_);refine runOps_cut 8 (fun K2 hK2 => ?_);push_cast [hb3];(repeat refine .intro (by omega) ?_);refine cp (c_shape_May hr2) ?_;push_cast [hb3];(repeat refine .intro (by omega) ?_);refine hK2 _ _ ?_;clear hK2 K2;simp only [List.drop_succ_cons,List.drop_zero];push_cast [hb3];(repeat refine .intro (by omega) ?_);refine hK _ ?_;clear hK K;refine ar h hk1 ?_;exact sl (by push_cast [hb3])
 ·rintro i_1 (h : p_shape_Get_J1 a0 a1 i_1 = some r);(try push_cast);unfold p_shape_Get_J1 at h;refine vc h (fun hb7 h => ?_) (fun hb7 h => ?_)
  ·refine vs [4,5] (fun K hK => ?_);push_cast;refine hK _ ?_;clear hK K;refine VC.ret ?_;replace h := Option.some.inj h;subst h;exact en (by push_cast [hb7])
  ·refine VC.skip ?_;obtain ⟨hg8,h⟩ := pg_some h;have hg8n : a1.toNat < 8 := by omega
   refine vs [4,5] (fun K hK => ?_);push_cast [hg8,hg8n];(repeat refine .intro (by omega) ?_);refine hK _ ?_;clear hK K;refine VC.ret ?_;replace h := Option.some.inj h;subst h;exact en (by push_cast [hb7])
noncomputable def p_shape_Word_J1 (a0 : T_Shape) (a1 : T_Inst) (i_1 : Bool) : Option (C128 × Bool) :=
  cond i_1 (
  some ((C128.mk 0 0), false)) (
  cond a1.Reg (
  po (p_shape_Get a0 a1.Src) fun r7 =>
  some (r7.1, r7.2)) (
  po (p_bounds_Of a1.Imm a1.Imm) fun r8 =>
  some (r8, true)))
noncomputable def p_shape_Word (a0 : T_Shape) (a1 : T_Inst) : Option (C128 × Bool) :=
  po (
  po (p_shape_May a0) fun r2 =>
  cond (!r2) (
  some (!r2)) (
  po (p_inst_May a1) fun r4 =>
  some (!r4))) (fun x => p_shape_Word_J1 a0 a1 x)
theorem c_shape_Word {a0 : T_Shape} {a1 : T_Inst} {r : C128 × Bool} (h : p_shape_Word a0 a1 = some r) : Ctr prog 231 [.agg (enc_Shape a0), .agg (enc_Inst a1)] [] (.tup [.raw (.complex .f64 r.1.re r.1.im), rb r.2]) [] := by
 unfold p_shape_Word at h;refine Ctr.ofW tabOk func231 rfl call231 0 _ ntmps231 [.tmp 4,.tmp 5] rfl rfl rfl (fun B => ?_);refine vs [2,3] (fun K hK => ?_);push_cast;refine hK _ ?_;clear hK K;refine VC.seq ?_;refine VC.block ?_;refine vj h (fun x => ⟨[(2,.ref 0 0),(3,.ref 1 0),(6,rb x)],[(0,.box 217 (enc_Shape a0)),(1,.box 37 (enc_Inst a1))],12,27,0⟩) (fun v1 h hk1 => ?_) ?_
 ·obtain ⟨r2,hr2,h⟩ := po_some h;refine vs [2,3,6] (fun K hK => ?_);push_cast;refine cp (c_shape_May hr2) ?_;push_cast;refine hK _ ?_;clear hK K;refine vc h (fun hb3 h => ?_) (fun hb3 h => ?_)
  ·refine VC.skip ?_;refine ar h hk1 ?_;exact sl (by push_cast [hb3])
  ·obtain ⟨r4,hr4,h⟩ := po_some h;refine vl (fun K hK => ?_);push_cast;refine cp (c_inst_May hr4) ?_;push_cast;refine hK _ ?_;clear hK K;refine ar h hk1 ?_;exact sl (by push_cast [hb3])
 ·rintro i_1 (h : p_shape_Word_J1 a0 a1 i_1 = some r);(try push_cast);unfold p_shape_Word_J1 at h;refine vc h (fun hb5 h => ?_) (fun hb5 h => ?_)
  ·refine vs [4,5] (fun K hK => ?_);push_cast;refine hK _ ?_;clear hK K;refine VC.ret ?_;replace h := Option.some.inj h;subst h;exact en (by push_cast [hb5])
  ·refine vs [2,3,13] (fun K hK => ?_);push_cast;refine hK _ ?_;clear hK K;refine vc h (fun hb6 h => ?_) (fun hb6 h => ?_)
   ·obtain ⟨r7,hr7,h⟩ := po_some h;refine vs [4,5] (fun K hK => ?_);push_cast;refine cp (c_shape_Get hr7) ?_;push_cast;refine hK _ ?_;clear hK K;refine VC.ret ?_;replace h := Option.some.inj h;subst h;exact en (by push_cast [hb5,hb6])
   ·refine VC.skip ?_;obtain ⟨r8,hr8,h⟩ := po_some h;refine vs [4,5] (fun K hK => ?_);push_cast;refine cp (c_bounds_Of hr8) ?_;push_cast;refine hK _ ?_;clear hK K;refine VC.ret ?_;replace h := Option.some.inj h;subst h;exact en (by push_cast [hb5,hb6])
noncomputable def p_verify_work_word_J4 (r3 : C128 × Bool) (s_1 : T_verify_work) : Option (C128 × T_verify_work) :=
  some (r3.1, s_1)
noncomputable def p_verify_work_word (a0 : T_verify_work) (a1 : T_Inst) : Option (C128 × T_verify_work) :=
  po (p_verify_work_here a0) fun r1 =>
  pg (r1.2 = a0) <|
  po (p_shape_Word r1.1 a1) fun r3 =>
  po (
  cond a0.safe (
  some (T_verify_work.mk a0.p a0.fn a0.l a0.in_ a0.is a0.at_ r3.2)) (
  some (T_verify_work.mk a0.p a0.fn a0.l a0.in_ a0.is a0.at_ false))) (fun x => p_verify_work_word_J4 r3 x)
theorem c_verify_work_word {a0 : T_verify_work} {a1 : T_Inst} {r : C128 × T_verify_work} (h : p_verify_work_word a0 a1 = some r) : Ctr prog 209 [.ref 0 0, .agg (enc_Inst a1)] [(0, .box 212 [.sl false (a0.p.Fns.map enc_Fn), ri a0.fn, .sl false (a0.l.map enc_Schema), .row 1 0 16 0 a0.in_.length, .row 2 0 1 0 a0.is.length, ri a0.at_, rb a0.safe]), (1, .row 217 16 0 (a0.in_.map enc_Shape)), (2, .row 4 1 0 (a0.is.map encBool))] (.raw (.complex .f64 r.1.re r.1.im)) [(0, .box 212 [.sl false (r.2.p.Fns.map enc_Fn), ri r.2.fn, .sl false (r.2.l.map enc_Schema), .row 1 0 16 0 r.2.in_.length, .row 2 0 1 0 r.2.is.length, ri r.2.at_, rb r.2.safe]), (1, .row 217 16 0 (r.2.in_.map enc_Shape)), (2, .row 4 1 0 (r.2.is.map encBool))] := by
 unfold p_verify_work_word at h;refine Ctr.ofW tabOk func209 rfl call209 3 _ ntmps209 [.tmp 4] rfl rfl rfl (fun B => ?_);refine vs [0,3] (fun K hK => ?_);push_cast;refine hK _ ?_;clear hK K;obtain ⟨r1,hr1,h⟩ := po_some h;obtain ⟨hg2,h⟩ := pg_some h;have qr1 := c_verify_work_here hr1;rw [hg2] at qr1;obtain ⟨r3,hr3,h⟩ := po_some h;refine vsD [some 8,some 9,some 10,some 11,some 7,some 12,some 13,some 5,some 6] [0,5,6] (fun K hK => ?_);push_cast;refine chRD (H := [(0,.box 212 [.sl false (a0.p.Fns.map enc_Fn),ri a0.fn,.sl false (a0.l.map enc_Schema),.row 1 0 16 0 a0.in_.length,.row 2 0 1 0 a0.is.length,ri a0.at_,rb a0.safe]),(1,.row 217 16 0 (a0.in_.map enc_Shape)),(2,.row 4 1 0 (a0.is.map encBool))]) (Ctr.loH (Ctr.ren Bij.id (qr1) (by push_cast) (by push_cast))) (by push_cast) (by push_cast) ?_;push_cast;refine cpD (c_shape_Word hr3) ?_;push_cast;refine ⟨rfl,hK _ ?_⟩;clear hK K;refine VC.sub (s' := ⟨[(0,.ref 0 0),(5,.raw (.complex .f64 r3.1.re r3.1.im)),(6,rb r3.2)],[(0,.box 212 [.sl false (a0.p.Fns.map enc_Fn),ri a0.fn,.sl false (a0.l.map enc_Schema),.row 1 0 16 0 a0.in_.length,.row 2 0 1 0 a0.is.length,ri a0.at_,rb a0.safe]),(1,.row 217 16 0 (a0.in_.map enc_Shape)),(2,.row 4 1 0 (a0.is.map encBool))],14,25,3⟩) (so (by push_cast)) ?_;refine vj h (fun x => ⟨[(5,.raw (.complex .f64 r3.1.re r3.1.im))],[(0,.box 212 [.sl false (x.p.Fns.map enc_Fn),ri x.fn,.sl false (x.l.map enc_Schema),.row 1 0 16 0 x.in_.length,.row 2 0 1 0 x.is.length,ri x.at_,rb x.safe]),(1,.row 217 16 0 (x.in_.map enc_Shape)),(2,.row 4 1 0 (x.is.map encBool))],25,25,3⟩) (fun v4 h hk4 => ?_) ?_
 ·rcases Bool.eq_false_or_eq_true a0.safe with hb5 | hb5
  ·replace h := cond_yes hb5 h;refine vlG [some 14,some 15,some 16,some 17,some 18,some 19,some 20,some 21,some 22,some 23,none] (fun K hK => ?_);refine runOps_cut 8 (fun K2 hK2 => ?_);push_cast [hb5];(repeat refine .intro (by omega) ?_);refine hK2 _ _ ?_;clear hK2 K2;simp only [List.drop_succ_cons,List.drop_zero];push_cast [hb5];(repeat refine .intro (by omega) ?_);refine hK _ ?_;clear hK K;refine ar h hk4 ?_;exact sl (by push_cast [hb5])
  ·replace h := cond_no hb5 h;refine vlG [some 14,some 15,some 16,some 17,some 18,some 19,some 20,some 21,some 22,some 23,none] (fun K hK => ?_);refine runOps_cut 8 (fun K2 hK2 => ?_);push_cast [hb5];(repeat refine .intro (by omega) ?_);refine hK2 _ _ ?_;clear hK2 K2;simp only [List.drop_succ_cons,List.drop_zero];push_cast [hb5];(repeat refine .intro (by omega) ?_);refine hK _ ?_;clear hK K;refine ar h hk4 ?_;exact sl (by push_cast [hb5])
 ·rintro s_1 (h : p_verify_work_word_J4 r3 s_1 = some r);(try push_cast);unfold p_verify_work_word_J4 at h;refine vs [4] (fun K hK => ?_);push_cast;refine hK _ ?_;clear hK K;refine VC.ret ?_;replace h := Option.some.inj h;subst h;exact en (by push_cast)
noncomputable def p_verify_work_ctx (a0 : T_verify_work) (a1 : T_Inst) : Option (T_verify_work) :=
  po (p_verify_work_word a0 a1) fun r1 =>
  po (p_verify_work_within r1.2 r1.1 4) fun r2 =>
  po (p_bounds_Of 0 4294967295) fun r3 =>
  po (p_verify_work_put r2 a1.Dst r3) fun r4 =>
  some r4
theorem c_verify_work_ctx {a0 : T_verify_work} {a1 : T_Inst} {r : T_verify_work} (h : p_verify_work_ctx a0 a1 = some r) : Ctr prog 177 [.ref 0 0, .agg (enc_Inst a1)] [(0, .box 212 [.sl false (a0.p.Fns.map enc_Fn), ri a0.fn, .sl false (a0.l.map enc_Schema), .row 1 0 16 0 a0.in_.length, .row 2 0 1 0 a0.is.length, ri a0.at_, rb a0.safe]), (1, .row 217 16 0 (a0.in_.map enc_Shape)), (2, .row 4 1 0 (a0.is.map encBool))] (.tup []) [(0, .box 212 [.sl false (r.p.Fns.map enc_Fn), ri r.fn, .sl false (r.l.map enc_Schema), .row 1 0 16 0 r.in_.length, .row 2 0 1 0 r.is.length, ri r.at_, rb r.safe]), (1, .row 217 16 0 (r.in_.map enc_Shape)), (2, .row 4 1 0 (r.is.map encBool))] := by
 unfold p_verify_work_ctx at h;refine Ctr.ofW tabOk func177 rfl call177 3 _ ntmps177 [] rfl rfl rfl (fun B => ?_);refine vs [0,3] (fun K hK => ?_);push_cast;refine hK _ ?_;clear hK K;obtain ⟨r1,hr1,h⟩ := po_some h;obtain ⟨r2,hr2,h⟩ := po_some h;refine vs [0,3] (fun K hK => ?_);push_cast;refine ch (H := [(0,.box 212 [.sl false (a0.p.Fns.map enc_Fn),ri a0.fn,.sl false (a0.l.map enc_Schema),.row 1 0 16 0 a0.in_.length,.row 2 0 1 0 a0.is.length,ri a0.at_,rb a0.safe]),(1,.row 217 16 0 (a0.in_.map enc_Shape)),(2,.row 4 1 0 (a0.is.map encBool))]) (Ctr.loH (Ctr.ren Bij.id (c_verify_work_word hr1) (by push_cast) (by push_cast))) (by push_cast) ?_;push_cast;refine ch (H := [(0,.box 212 [.sl false (r1.2.p.Fns.map enc_Fn),ri r1.2.fn,.sl false (r1.2.l.map enc_Schema),.row 1 0 16 0 r1.2.in_.length,.row 2 0 1 0 r1.2.is.length,ri r1.2.at_,rb r1.2.safe]),(1,.row 217 16 0 (r1.2.in_.map enc_Shape)),(2,.row 4 1 0 (r1.2.is.map encBool))]) (Ctr.loH (Ctr.ren Bij.id (c_verify_work_within hr2) (by push_cast) (by push_cast))) (by push_cast) ?_;push_cast;refine hK _ ?_;clear hK K;refine VC.sub (s' := ⟨[(0,.ref 0 0),(3,.ref 3 0)],[(0,.box 212 [.sl false (r2.p.Fns.map enc_Fn),ri r2.fn,.sl false (r2.l.map enc_Schema),.row 1 0 16 0 r2.in_.length,.row 2 0 1 0 r2.is.length,ri r2.at_,rb r2.safe]),(1,.row 217 16 0 (r2.in_.map enc_Shape)),(2,.row 4 1 0 (r2.is.map encBool)),(3,.box 37 (enc_Inst a1))],9,14,3⟩) (so (by push_cast)) ?_;obtain ⟨r3,hr3,h⟩ := po_some h;obtain ⟨r4,hr4,h⟩ := po_some h;refine vlD [some 9,some 10,some 11,some 12,some 13] (fun K hK => ?_);push_cast;refine cpD (c_bounds_Of hr3) ?_;push_cast;refine chD (H := [(0,.box 212 [.sl false (r2.p.Fns.map enc_Fn),ri r2.fn,.sl false (r2.l.map enc_Schema),.row 1 0 16 0 r2.in_.length,.row 2 0 1 0 r2.is.length,ri r2.at_,rb r2.safe]),(1,.row 217 16 0 (r2.in_.map enc_Shape)),(2,.row 4 1 0 (r2.is.map encBool))]) (Ctr.loH (Ctr.ren Bij.id (c_verify_work_put hr4) (by push_cast) (by push_cast))) (by push_cast) ?_;push_cast;refine ⟨rfl,hK _ ?_⟩;clear hK K;replace h := Option.some.inj h;subst h;exact eN (by push_cast)
noncomputable def p_verify_work_get_J4 (r3 : C128 × Bool) (s_1 : T_verify_work) : Option (C128 × T_verify_work) :=
  some (r3.1, s_1)
noncomputable def p_verify_work_get (a0 : T_verify_work) (a1 : Int) : Option (C128 × T_verify_work) :=
  po (p_verify_work_here a0) fun r1 =>
  pg (r1.2 = a0) <|
  po (p_shape_Get r1.1 a1) fun r3 =>
  po (
  cond a0.safe (
  some (T_verify_work.mk a0.p a0.fn a0.l a0.in_ a0.is a0.at_ r3.2)) (
  some (T_verify_work.mk a0.p a0.fn a0.l a0.in_ a0.is a0.at_ false))) (fun x => p_verify_work_get_J4 r3 x)
theorem c_verify_work_get {a0 : T_verify_work} {a1 : Int} {r : C128 × T_verify_work} (h : p_verify_work_get a0 a1 = some r) : Ctr prog 210 [.ref 0 0, ri a1] [(0, .box 212 [.sl false (a0.p.Fns.map enc_Fn), ri a0.fn, .sl false (a0.l.map enc_Schema), .row 1 0 16 0 a0.in_.length, .row 2 0 1 0 a0.is.length, ri a0.at_, rb a0.safe]), (1, .row 217 16 0 (a0.in_.map enc_Shape)), (2, .row 4 1 0 (a0.is.map encBool))] (.raw (.complex .f64 r.1.re r.1.im)) [(0, .box 212 [.sl false (r.2.p.Fns.map enc_Fn), ri r.2.fn, .sl false (r.2.l.map enc_Schema), .row 1 0 16 0 r.2.in_.length, .row 2 0 1 0 r.2.is.length, ri r.2.at_, rb r.2.safe]), (1, .row 217 16 0 (r.2.in_.map enc_Shape)), (2, .row 4 1 0 (r.2.is.map encBool))] := by
 unfold p_verify_work_get at h;refine Ctr.ofW tabOk func210 rfl call210 3 _ ntmps210 [.tmp 4] rfl rfl rfl (fun B => ?_);refine vs [0,1] (fun K hK => ?_);push_cast;refine hK _ ?_;clear hK K;obtain ⟨r1,hr1,h⟩ := po_some h;obtain ⟨hg2,h⟩ := pg_some h;have qr1 := c_verify_work_here hr1;rw [hg2] at qr1;obtain ⟨r3,hr3,h⟩ := po_some h;refine vs [0,5,6] (fun K hK => ?_);push_cast;refine chR (H := [(0,.box 212 [.sl false (a0.p.Fns.map enc_Fn),ri a0.fn,.sl false (a0.l.map enc_Schema),.row 1 0 16 0 a0.in_.length,.row 2 0 1 0 a0.is.length,ri a0.at_,rb a0.safe]),(1,.row 217 16 0 (a0.in_.map enc_Shape)),(2,.row 4 1 0 (a0.is.map encBool))]) (Ctr.loH (Ctr.ren Bij.id (qr1) (by push_cast) (by push_cast))) (by push_cast) (by push_cast) ?_;push_cast;refine cp (c_shape_Get hr3) ?_;push_cast;refine hK _ ?_;clear hK K;refine VC.sub (s' := ⟨[(0,.ref 0 0),(5,.raw (.complex .f64 r3.1.re r3.1.im)),(6,rb r3.2)],[(0,.box 212 [.sl false (a0.p.Fns.map enc_Fn),ri a0.fn,.sl false (a0.l.map enc_Schema),.row 1 0 16 0 a0.in_.length,.row 2 0 1 0 a0.is.length,ri a0.at_,rb a0.safe]),(1,.row 217 16 0 (a0.in_.map enc_Shape)),(2,.row 4 1 0 (a0.is.map encBool))],13,25,3⟩) (so (by push_cast)) ?_;refine vj h (fun x => ⟨[(5,.raw (.complex .f64 r3.1.re r3.1.im))],[(0,.box 212 [.sl false (x.p.Fns.map enc_Fn),ri x.fn,.sl false (x.l.map enc_Schema),.row 1 0 16 0 x.in_.length,.row 2 0 1 0 x.is.length,ri x.at_,rb x.safe]),(1,.row 217 16 0 (x.in_.map enc_Shape)),(2,.row 4 1 0 (x.is.map encBool))],24,25,3⟩) (fun v4 h hk4 => ?_) ?_
 ·rcases Bool.eq_false_or_eq_true a0.safe with hb5 | hb5
  ·replace h := cond_yes hb5 h;refine vlG [some 14,some 15,some 16,some 17,some 18,some 19,some 20,some 21,some 22,some 23,none] (fun K hK => ?_);refine runOps_cut 8 (fun K2 hK2 => ?_);push_cast [hb5];(repeat refine .intro (by omega) ?_);refine hK2 _ _ ?_;clear hK2 K2;simp only [List.drop_succ_cons,List.drop_zero];push_cast [hb5];(repeat refine .intro (by omega) ?_);refine hK _ ?_;clear hK K;refine ar h hk4 ?_;exact sl (by push_cast [hb5])
  ·replace h := cond_no hb5 h;refine vlG [some 14,some 15,some 16,some 17,some 18,some 19,some 20,some 21,some 22,some 23,none] (fun K hK => ?_);refine runOps_cut 8 (fun K2 hK2 => ?_);push_cast [hb5];(repeat refine .intro (by omega) ?_);refine hK2 _ _ ?_;clear hK2 K2;simp only [List.drop_succ_cons,List.drop_zero];push_cast [hb5];(repeat refine .intro (by omega) ?_);refine hK _ ?_;clear hK K;refine ar h hk4 ?_;exact sl (by push_cast [hb5])
 ·rintro s_1 (h : p_verify_work_get_J4 r3 s_1 = some r);(try push_cast);unfold p_verify_work_get_J4 at h;refine vs [4] (fun K hK => ?_);push_cast;refine hK _ ?_;clear hK K;refine VC.ret ?_;replace h := Option.some.inj h;subst h;exact en (by push_cast)
noncomputable def p_verify_work_exit (a0 : T_verify_work) (a1 : T_Inst) : Option (T_verify_work) :=
  po (p_verify_work_get a0 0) fun r1 =>
  some r1.2
theorem c_verify_work_exit {a0 : T_verify_work} {a1 : T_Inst} {r : T_verify_work} (h : p_verify_work_exit a0 a1 = some r) : Ctr prog 182 [.ref 0 0, .agg (enc_Inst a1)] [(0, .box 212 [.sl false (a0.p.Fns.map enc_Fn), ri a0.fn, .sl false (a0.l.map enc_Schema), .row 1 0 16 0 a0.in_.length, .row 2 0 1 0 a0.is.length, ri a0.at_, rb a0.safe]), (1, .row 217 16 0 (a0.in_.map enc_Shape)), (2, .row 4 1 0 (a0.is.map encBool))] (.tup []) [(0, .box 212 [.sl false (r.p.Fns.map enc_Fn), ri r.fn, .sl false (r.l.map enc_Schema), .row 1 0 16 0 r.in_.length, .row 2 0 1 0 r.is.length, ri r.at_, rb r.safe]), (1, .row 217 16 0 (r.in_.map enc_Shape)), (2, .row 4 1 0 (r.is.map encBool))] := by
 unfold p_verify_work_exit at h;refine Ctr.ofW tabOk func182 rfl call182 3 _ ntmps182 [] rfl rfl rfl (fun B => ?_);refine vs [0] (fun K hK => ?_);push_cast;refine hK _ ?_;clear hK K;obtain ⟨r1,hr1,h⟩ := po_some h;refine vl (fun K hK => ?_);push_cast;refine ch (H := [(0,.box 212 [.sl false (a0.p.Fns.map enc_Fn),ri a0.fn,.sl false (a0.l.map enc_Schema),.row 1 0 16 0 a0.in_.length,.row 2 0 1 0 a0.is.length,ri a0.at_,rb a0.safe]),(1,.row 217 16 0 (a0.in_.map enc_Shape)),(2,.row 4 1 0 (a0.is.map encBool))]) (Ctr.loH (Ctr.ren Bij.id (c_verify_work_get hr1) (by push_cast) (by push_cast))) (by push_cast) ?_;push_cast;refine hK _ ?_;clear hK K;replace h := Option.some.inj h;subst h;exact eN (by push_cast)
noncomputable def p_verify_work_help (a0 : T_verify_work) (a1 : T_Inst) : Option (T_verify_work) :=
  none
theorem c_verify_work_help {a0 : T_verify_work} {a1 : T_Inst} {r : T_verify_work} (h : p_verify_work_help a0 a1 = some r) : Ctr prog 180 [.ref 0 0, .agg (enc_Inst a1)] [(0, .box 212 [.sl false (a0.p.Fns.map enc_Fn), ri a0.fn, .sl false (a0.l.map enc_Schema), .row 1 0 16 0 a0.in_.length, .row 2 0 1 0 a0.is.length, ri a0.at_, rb a0.safe]), (1, .row 217 16 0 (a0.in_.map enc_Shape)), (2, .row 4 1 0 (a0.is.map encBool))] (.tup []) [(0, .box 212 [.sl false (r.p.Fns.map enc_Fn), ri r.fn, .sl false (r.l.map enc_Schema), .row 1 0 16 0 r.in_.length, .row 2 0 1 0 r.is.length, ri r.at_, rb r.safe]), (1, .row 217 16 0 (r.in_.map enc_Shape)), (2, .row 4 1 0 (r.is.map encBool))] := by
 unfold p_verify_work_help at h;refine Ctr.ofW tabOk func180 rfl call180 3 _ ntmps180 [] rfl rfl rfl (fun B => ?_);cases h
noncomputable def p_verify_work_jump (a0 : T_verify_work) (a1 : T_Inst) : Option (T_verify_work) :=
  none
theorem c_verify_work_jump {a0 : T_verify_work} {a1 : T_Inst} {r : T_verify_work} (h : p_verify_work_jump a0 a1 = some r) : Ctr prog 176 [.ref 0 0, .agg (enc_Inst a1)] [(0, .box 212 [.sl false (a0.p.Fns.map enc_Fn), ri a0.fn, .sl false (a0.l.map enc_Schema), .row 1 0 16 0 a0.in_.length, .row 2 0 1 0 a0.is.length, ri a0.at_, rb a0.safe]), (1, .row 217 16 0 (a0.in_.map enc_Shape)), (2, .row 4 1 0 (a0.is.map encBool))] (.tup []) [(0, .box 212 [.sl false (r.p.Fns.map enc_Fn), ri r.fn, .sl false (r.l.map enc_Schema), .row 1 0 16 0 r.in_.length, .row 2 0 1 0 r.is.length, ri r.at_, rb r.safe]), (1, .row 217 16 0 (r.in_.map enc_Shape)), (2, .row 4 1 0 (r.is.map encBool))] := by
 unfold p_verify_work_jump at h;refine Ctr.ofW tabOk func176 rfl call176 3 _ ntmps176 [] rfl rfl rfl (fun B => ?_);cases h
noncomputable def p_verify_work_load (a0 : T_verify_work) (a1 : T_Inst) : Option (T_verify_work) :=
  none
theorem c_verify_work_load {a0 : T_verify_work} {a1 : T_Inst} {r : T_verify_work} (h : p_verify_work_load a0 a1 = some r) : Ctr prog 178 [.ref 0 0, .agg (enc_Inst a1)] [(0, .box 212 [.sl false (a0.p.Fns.map enc_Fn), ri a0.fn, .sl false (a0.l.map enc_Schema), .row 1 0 16 0 a0.in_.length, .row 2 0 1 0 a0.is.length, ri a0.at_, rb a0.safe]), (1, .row 217 16 0 (a0.in_.map enc_Shape)), (2, .row 4 1 0 (a0.is.map encBool))] (.tup []) [(0, .box 212 [.sl false (r.p.Fns.map enc_Fn), ri r.fn, .sl false (r.l.map enc_Schema), .row 1 0 16 0 r.in_.length, .row 2 0 1 0 r.is.length, ri r.at_, rb r.safe]), (1, .row 217 16 0 (r.in_.map enc_Shape)), (2, .row 4 1 0 (r.is.map encBool))] := by
 unfold p_verify_work_load at h;refine Ctr.ofW tabOk func178 rfl call178 3 _ ntmps178 [] rfl rfl rfl (fun B => ?_);cases h
noncomputable def p_verify_work_store (a0 : T_verify_work) (a1 : T_Inst) : Option (T_verify_work) :=
  none
theorem c_verify_work_store {a0 : T_verify_work} {a1 : T_Inst} {r : T_verify_work} (h : p_verify_work_store a0 a1 = some r) : Ctr prog 179 [.ref 0 0, .agg (enc_Inst a1)] [(0, .box 212 [.sl false (a0.p.Fns.map enc_Fn), ri a0.fn, .sl false (a0.l.map enc_Schema), .row 1 0 16 0 a0.in_.length, .row 2 0 1 0 a0.is.length, ri a0.at_, rb a0.safe]), (1, .row 217 16 0 (a0.in_.map enc_Shape)), (2, .row 4 1 0 (a0.is.map encBool))] (.tup []) [(0, .box 212 [.sl false (r.p.Fns.map enc_Fn), ri r.fn, .sl false (r.l.map enc_Schema), .row 1 0 16 0 r.in_.length, .row 2 0 1 0 r.is.length, ri r.at_, rb r.safe]), (1, .row 217 16 0 (r.in_.map enc_Shape)), (2, .row 4 1 0 (r.is.map encBool))] := by
 unfold p_verify_work_store at h;refine Ctr.ofW tabOk func179 rfl call179 3 _ ntmps179 [] rfl rfl rfl (fun B => ?_);cases h
noncomputable def p_verify_kinds : Option (Unit) :=
  some ()
theorem c_verify_kinds {r : Unit} (h : p_verify_kinds = some r) : Ctr prog 130 [] [] (.mp 1) [(1, .mp [(.int .i64 0, .fn (.func 175) [] []), (.int .i64 1, .fn (.func 176) [] []), (.int .i64 2, .fn (.func 177) [] []), (.int .i64 3, .fn (.func 178) [] []), (.int .i64 4, .fn (.func 179) [] []), (.int .i64 5, .fn (.func 180) [] []), (.int .i64 6, .fn (.func 181) [] []), (.int .i64 7, .fn (.func 182) [] [])] 8)] := by
 unfold p_verify_kinds at h;refine Ctr.ofW tabOk func130 rfl call130 0 _ ntmps130 [.tmp 0] rfl rfl rfl (fun B => ?_);refine vs [] (fun K hK => ?_);push_cast;refine hK _ ?_;clear hK K;refine vs [0] (fun K hK => ?_);refine runOps_cut 8 (fun K2 hK2 => ?_);push_cast;refine hK2 _ _ ?_;clear hK2 K2;simp only [List.drop_succ_cons,List.drop_zero];push_cast;refine hK _ ?_;clear hK K;refine VC.ret ?_;replace h := Option.some.inj h;subst h;exact en (by push_cast)
noncomputable def p_slices_IndexFunc_api_Schema_api_Schema_verify_Shapes_1_L2 (a0 : (List T_Schema)) (i_1 : Int) : Option ((Int) ⊕ ((Unit) ⊕ (Int))) :=
  cond (decide (i_1 < (a0.length : Int))) (
  po (idx a0 i_1) fun x4 =>
  po (p_verify_Shapes_1 x4) fun r5 =>
  cond r5 (
  some (Sum.inr (Sum.inr i_1))) (
  some (Sum.inl (IntKind.i64.wrap (i_1 + 1))))) (
  some (Sum.inr (Sum.inl ())))
noncomputable def p_slices_IndexFunc_api_Schema_api_Schema_verify_Shapes_1_J1 : Option (Int) :=
  some (-1)
noncomputable def p_slices_IndexFunc_api_Schema_api_Schema_verify_Shapes_1 (a0 : (List T_Schema)) : Option (Int) :=
  pm (
  lpU (fun x => p_slices_IndexFunc_api_Schema_api_Schema_verify_Shapes_1_L2 a0 x) 0) (fun x => p_slices_IndexFunc_api_Schema_api_Schema_verify_Shapes_1_J1)
theorem c_slices_IndexFunc_api_Schema_api_Schema_verify_Shapes_1 {a0 : (List T_Schema)} {r : Int} (h : p_slices_IndexFunc_api_Schema_api_Schema_verify_Shapes_1 a0 = some r) : Ctr prog 172 [.sl false (a0.map enc_Schema), .fn (.func 127) [] []] [] (ri r) [] := by
 unfold p_slices_IndexFunc_api_Schema_api_Schema_verify_Shapes_1 at h;refine Ctr.ofW tabOk func172 rfl call172 0 _ ntmps172 [.tmp 4] rfl rfl rfl (fun B => ?_);refine vs [0,1] (fun K hK => ?_);push_cast;refine hK _ ?_;clear hK K;refine vm h (fun x => ⟨[],[],16,19,0⟩) (fun v1 h hk1 => ?_) ?_
 ·refine vs [0,1,7,8] (fun K hK => ?_);push_cast;refine hK _ ?_;clear hK K;refine VC.block ?_;refine VC.loopP h (fun x => ⟨[(0,.sl false (a0.map enc_Schema)),(1,.fn (.func 127) [] []),(7,ri (a0.length : Int)),(8,ri x)],[],15,19,0⟩) ?_ ?_
  ·exact sl (by push_cast)
  rintro i_1 b2 (h : p_slices_IndexFunc_api_Schema_api_Schema_verify_Shapes_1_L2 a0 i_1 = some b2) hf2;(try push_cast);unfold p_slices_IndexFunc_api_Schema_api_Schema_verify_Shapes_1_L2 at h;refine vs [0,1,7,8,9] (fun K hK => ?_);push_cast;refine hK _ ?_;clear hK K;refine VC.seq ?_;refine vc h (fun hb3 h => ?_) (fun hb3 h => ?_)
  ·refine VC.skip ?_;refine VC.seq ?_;refine VC.block ?_;refine vs [0,1,5,7,8] (fun K hK => ?_);push_cast;refine hK _ ?_;clear hK K;obtain ⟨x4,hx4,h⟩ := po_some h;replace hx4 := idx_some4 hx4;obtain ⟨r5,hr5,h⟩ := po_some h;refine vs [0,1,5,7,8,16] (fun K hK => ?_);push_cast [hx4];(repeat refine .intro (by omega) ?_);refine cp (c_verify_Shapes_1 hr5) ?_;push_cast [hx4];(repeat refine .intro (by omega) ?_);refine hK _ ?_;clear hK K;refine vc h (fun hb6 h => ?_) (fun hb6 h => ?_)
   ·refine vs [4] (fun K hK => ?_);push_cast;refine hK _ ?_;clear hK K;refine VC.ret ?_;replace h := ol h hf2;replace h := om h hk1;replace h := Option.some.inj h;subst h;exact en (by push_cast [hb3,hb6])
   ·refine VC.skip ?_;refine vl (fun K hK => ?_);push_cast;refine hK _ ?_;clear hK K;refine bk h ?_;exact sl (by push_cast [hb3,hb6])
  ·refine VC.exit ?_;replace h := ol h hf2;refine am h hk1 ?_;exact sl (by push_cast [hb3])
 ·rintro ⟨⟩ (h : p_slices_IndexFunc_api_Schema_api_Schema_verify_Shapes_1_J1 = some r);(try push_cast);unfold p_slices_IndexFunc_api_Schema_api_Schema_verify_Shapes_1_J1 at h;refine vs [4] (fun K hK => ?_);push_cast;refine hK _ ?_;clear hK K;refine VC.ret ?_;replace h := Option.some.inj h;subst h;exact en (by push_cast)
noncomputable def p_slices_ContainsFunc_api_Schema_api_Schema_verify_Shapes_1 (a0 : (List T_Schema)) : Option (Bool) :=
  po (p_slices_IndexFunc_api_Schema_api_Schema_verify_Shapes_1 a0) fun r1 =>
  some (decide (r1 ≥ 0))
theorem c_slices_ContainsFunc_api_Schema_api_Schema_verify_Shapes_1 {a0 : (List T_Schema)} {r : Bool} (h : p_slices_ContainsFunc_api_Schema_api_Schema_verify_Shapes_1 a0 = some r) : Ctr prog 126 [.sl false (a0.map enc_Schema), .fn (.func 127) [] []] [] (rb r) [] := by
 unfold p_slices_ContainsFunc_api_Schema_api_Schema_verify_Shapes_1 at h;refine Ctr.ofW tabOk func126 rfl call126 0 _ ntmps126 [.tmp 4] rfl rfl rfl (fun B => ?_);refine vs [0,1] (fun K hK => ?_);push_cast;refine hK _ ?_;clear hK K;obtain ⟨r1,hr1,h⟩ := po_some h;refine vs [4] (fun K hK => ?_);push_cast;refine cp (c_slices_IndexFunc_api_Schema_api_Schema_verify_Shapes_1 hr1) ?_;push_cast;refine hK _ ?_;clear hK K;refine VC.ret ?_;replace h := Option.some.inj h;subst h;exact en (by push_cast)
noncomputable def p_verify_Shapes_J23 (i_5 : Int) (s_11 : T_verify_work) : Option ((T_verify_work × Int) ⊕ ((T_verify_work) ⊕ ((List T_Shape) × (List Bool) × Int))) :=
  cond (!s_11.safe) (
  some (Sum.inr (Sum.inr ([], [], 8)))) (
  some (Sum.inl (s_11, (IntKind.i64.wrap (i_5 + 1)))))
noncomputable def p_verify_Shapes_L20 (x10 : T_Fn) (s_4 : T_verify_work) (i_5 : Int) : Option ((T_verify_work × Int) ⊕ ((T_verify_work) ⊕ ((List T_Shape) × (List Bool) × Int))) :=
  cond (decide (i_5 < (x10.Code.length : Int))) (
  po (idx x10.Code i_5) fun x22 =>
  po (
  po (idx s_4.is i_5) fun x24 =>
  cond x24 (
  cond (x22.Op == 0) (
  po (p_verify_work_alu (T_verify_work.mk s_4.p s_4.fn s_4.l s_4.in_ s_4.is i_5 s_4.safe) x22) fun r27 =>
  some r27) (
  cond (x22.Op == 1) (
  po (p_verify_work_jump (T_verify_work.mk s_4.p s_4.fn s_4.l s_4.in_ s_4.is i_5 s_4.safe) x22) fun r29 =>
  some r29) (
  cond (x22.Op == 2) (
  po (p_verify_work_ctx (T_verify_work.mk s_4.p s_4.fn s_4.l s_4.in_ s_4.is i_5 s_4.safe) x22) fun r31 =>
  some r31) (
  cond (x22.Op == 3) (
  po (p_verify_work_load (T_verify_work.mk s_4.p s_4.fn s_4.l s_4.in_ s_4.is i_5 s_4.safe) x22) fun r33 =>
  some r33) (
  cond (x22.Op == 4) (
  po (p_verify_work_store (T_verify_work.mk s_4.p s_4.fn s_4.l s_4.in_ s_4.is i_5 s_4.safe) x22) fun r35 =>
  some r35) (
  cond (x22.Op == 5) (
  po (p_verify_work_help (T_verify_work.mk s_4.p s_4.fn s_4.l s_4.in_ s_4.is i_5 s_4.safe) x22) fun r37 =>
  some r37) (
  cond (x22.Op == 6) (
  po (p_verify_work_call (T_verify_work.mk s_4.p s_4.fn s_4.l s_4.in_ s_4.is i_5 s_4.safe) x22) fun r39 =>
  some r39) (
  cond (x22.Op == 7) (
  po (p_verify_work_exit (T_verify_work.mk s_4.p s_4.fn s_4.l s_4.in_ s_4.is i_5 s_4.safe) x22) fun r41 =>
  some r41) (
  none))))))))) (
  some (T_verify_work.mk s_4.p s_4.fn s_4.l s_4.in_ s_4.is i_5 s_4.safe))) (fun x => p_verify_Shapes_J23 i_5 x)) (
  some (Sum.inr (Sum.inl s_4)))
noncomputable def p_verify_Shapes_J19 (s_10 : T_verify_work) : Option ((List T_Shape) × (List Bool) × Int) :=
  some (s_10.in_, s_10.is, 0)
noncomputable def p_verify_Shapes_J7 (a0 : T_Prog) (a1 : Int) (a2 : (List T_Schema)) (i_2 : Bool) : Option ((List T_Shape) × (List Bool) × Int) :=
  cond i_2 (
  some ([], [], 3)) (
  po (idx a0.Fns a1) fun x10 =>
  pg (0 ≤ (x10.Code.length : Int) ∧ 136 * (x10.Code.length : Int) ≤ 140737488355328) <|
  pl (List.replicate x10.Code.length (T_Shape.mk (A8.mk false false false false false false false false) (A8.mk (C128.mk 0 0) (C128.mk 0 0) (C128.mk 0 0) (C128.mk 0 0) (C128.mk 0 0) (C128.mk 0 0) (C128.mk 0 0) (C128.mk 0 0)))) fun y12 =>
  pg (0 ≤ (x10.Code.length : Int) ∧ 1 * (x10.Code.length : Int) ≤ 140737488355328) <|
  pl (List.replicate x10.Code.length false) fun y14 =>
  po (p_shape_New x10.Args) fun r15 =>
  po (p_verify_work_to (T_verify_work.mk a0 a1 a2 y12 y14 0 true) 0 r15.1) fun r16 =>
  po (some ()) fun r18 =>
  pm (
  lpU (fun x => p_verify_Shapes_L20 x10 x.1 x.2) (r16, 0)) (fun x => p_verify_Shapes_J19 x))
noncomputable def p_verify_Shapes_J1 (a0 : T_Prog) (a1 : Int) (a2 : (List T_Schema)) (i_1 : Bool) : Option ((List T_Shape) × (List Bool) × Int) :=
  cond i_1 (
  some ([], [], 1)) (
  po (
  cond (decide (a1 < 0)) (
  some (decide (a1 < 0))) (
  some (decide (a1 ≥ (a0.Fns.length : Int))))) (fun x => p_verify_Shapes_J7 a0 a1 a2 x))
noncomputable def p_verify_Shapes (a0 : T_Prog) (a1 : Int) (a2 : (List T_Schema)) : Option ((List T_Shape) × (List Bool) × Int) :=
  po (
  po (p_prog_May a0) fun r2 =>
  cond (!r2) (
  some (!r2)) (
  cond (decide ((a2.length : Int) > 4)) (
  some (decide ((a2.length : Int) > 4))) (
  po (p_slices_ContainsFunc_api_Schema_api_Schema_verify_Shapes_1 a2) fun r5 =>
  some r5))) (fun x => p_verify_Shapes_J1 a0 a1 a2 x)
theorem c_verify_Shapes {a0 : T_Prog} {a1 : Int} {a2 : (List T_Schema)} {r : (List T_Shape) × (List Bool) × Int} (h : p_verify_Shapes a0 a1 a2 = some r) : Ctr prog 90 [.agg (enc_Prog a0), ri a1, .sl false (a2.map enc_Schema)] [] (.tup [.sl false (r.1.map enc_Shape), .sl false (r.2.1.map encBool), ri r.2.2]) [] := by
 unfold p_verify_Shapes at h;refine Ctr.ofW tabOk func90 rfl call90 0 _ ntmps90 [.tmp 6,.tmp 7,.tmp 8] rfl rfl rfl (fun B => ?_);refine vs [1,2,3] (fun K hK => ?_);push_cast;refine hK _ ?_;clear hK K;refine VC.seq ?_;refine VC.block ?_;refine vj h (fun x => ⟨[(1,ri a1),(2,.sl false (a2.map enc_Schema)),(3,.ref 0 0),(16,rb x)],[(0,.box 56 [.sl false (a0.Fns.map enc_Fn)])],15,103,0⟩) (fun v1 h hk1 => ?_) ?_
 ·obtain ⟨r2,hr2,h⟩ := po_some h;refine vs [1,2,3,16] (fun K hK => ?_);push_cast;refine cp (c_prog_May hr2) ?_;push_cast;refine hK _ ?_;clear hK K;refine vc h (fun hb3 h => ?_) (fun hb3 h => ?_)
  ·refine VC.skip ?_;refine ar h hk1 ?_;exact sl (by push_cast [hb3])
  ·refine vs [1,2,3,16] (fun K hK => ?_);push_cast;refine hK _ ?_;clear hK K;refine vc h (fun hb4 h => ?_) (fun hb4 h => ?_)
   ·refine VC.skip ?_;refine ar h hk1 ?_;exact sl (by push_cast [hb3,hb4])
   ·obtain ⟨r5,hr5,h⟩ := po_some h;refine vl (fun K hK => ?_);push_cast;refine cp (c_slices_ContainsFunc_api_Schema_api_Schema_verify_Shapes_1 hr5) ?_;push_cast;refine hK _ ?_;clear hK K;refine ar h hk1 ?_;exact sl (by push_cast [hb3,hb4])
 ·rintro i_1 (h : p_verify_Shapes_J1 a0 a1 a2 i_1 = some r);(try push_cast);unfold p_verify_Shapes_J1 at h;refine vc h (fun hb6 h => ?_) (fun hb6 h => ?_)
  ·refine vs [6,7,8] (fun K hK => ?_);push_cast;refine hK _ ?_;clear hK K;refine VC.ret ?_;replace h := Option.some.inj h;subst h;exact en (by push_cast [hb6])
  ·refine vj h (fun x => ⟨[(1,ri a1),(2,.sl false (a2.map enc_Schema)),(3,.ref 0 0),(25,rb x)],[(0,.box 56 [.sl false (a0.Fns.map enc_Fn)])],24,103,0⟩) (fun v7 h hk7 => ?_) ?_
   ·refine vs [1,2,3,25] (fun K hK => ?_);push_cast;refine hK _ ?_;clear hK K;refine vc h (fun hb8 h => ?_) (fun hb8 h => ?_)
    ·refine VC.skip ?_;refine ar h hk7 ?_;exact sl (by push_cast [hb6,hb8])
    ·refine vl (fun K hK => ?_);push_cast;refine hK _ ?_;clear hK K;refine ar h hk7 ?_;exact sl (by push_cast [hb6,hb8])
   ·rintro i_2 (h : p_verify_Shapes_J7 a0 a1 a2 i_2 = some r);(try push_cast);unfold p_verify_Shapes_J7 at h;refine vc h (fun hb9 h => ?_) (fun hb9 h => ?_)
    ·refine vs [6,7,8] (fun K hK => ?_);push_cast;refine hK _ ?_;clear hK K;refine VC.ret ?_;replace h := Option.some.inj h;subst h;exact en (by push_cast [hb6,hb9])
    ·refine VC.skip ?_;obtain ⟨x10,hx10,h⟩ := po_some h;replace hx10 := idx_some4 hx10;refine vs [1,2,3,9] (fun K hK => ?_);push_cast [hx10];(repeat refine .intro (by omega) ?_);refine hK _ ?_;clear hK K;obtain ⟨hg11,h⟩ := pg_some h;obtain ⟨y12,hy12,h⟩ := pl_some h;obtain ⟨hg13,h⟩ := pg_some h;obtain ⟨y14,hy14,h⟩ := pl_some h;refine vsD [some 39,some 40,some 41,some 42,some 43,some 44,some 45,some 46,some 47,some 48,some 49,some 10] [1,3,9,10] (fun K hK => ?_);refine runD_cut 8 (fun K2 hK2 => ?_);push_cast [hg11,hg13];(repeat refine .intro (by omega) ?_);refine hK2 _ _ _ ?_;clear hK2 K2;simp only [List.drop_succ_cons,List.drop_zero];push_cast [hg11,hg13];(repeat refine .intro (by omega) ?_);refine ⟨rfl,hK _ ?_⟩;clear hK K;refine VC.sub (s' := ⟨[(1,ri a1),(3,.ref 0 0),(9,.sl false (x10.Code.map enc_Inst)),(10,.ref 41 0)],[(0,.box 56 [.sl false (a0.Fns.map enc_Fn)]),(36,.row 217 16 0 (y12.map enc_Shape)),(39,.row 4 1 0 (y14.map encBool)),(41,.box 212 [.sl false (a0.Fns.map enc_Fn),ri a1,.sl false (a2.map enc_Schema),.row 36 0 16 0 y12.length,.row 39 0 1 0 y14.length,ri 0,rb true])],43,103,0⟩) (so (by push_cast [hb6,hb9,hy12,hy14])) ?_;obtain ⟨r15,hr15,h⟩ := po_some h;refine vs [9,10,11] (fun K hK => ?_);refine runOps_cut 8 (fun K2 hK2 => ?_);push_cast [hx10];(repeat refine .intro (by omega) ?_);refine cp (c_shape_New hr15) ?_;push_cast [hx10];(repeat refine .intro (by omega) ?_);refine hK2 _ _ ?_;clear hK2 K2;simp only [List.drop_succ_cons,List.drop_zero];push_cast [hx10];(repeat refine .intro (by omega) ?_);refine hK _ ?_;clear hK K;obtain ⟨r16,hr16,h⟩ := po_some h;refine vs [9,10] (fun K hK => ?_);push_cast;refine ch (H := [(41,.box 212 [.sl false (a0.Fns.map enc_Fn),ri a1,.sl false (a2.map enc_Schema),.row 36 0 16 0 y12.length,.row 39 0 1 0 y14.length,ri 0,rb true]),(36,.row 217 16 0 (y12.map enc_Shape)),(39,.row 4 1 0 (y14.map encBool))]) (Ctr.loH (Ctr.ren (Bij.swp 2 39 (Bij.swp 1 36 (Bij.swp 0 41 Bij.id))) (c_verify_work_to hr16) (by push_cast) (by push_cast))) (by push_cast) ?_;push_cast;refine hK _ ?_;clear hK K;refine VC.sub (s' := ⟨[(9,.sl false (x10.Code.map enc_Inst)),(10,.ref 41 0)],[(36,.row 217 16 0 (r16.in_.map enc_Shape)),(39,.row 4 1 0 (r16.is.map encBool)),(41,.box 212 [.sl false (r16.p.Fns.map enc_Fn),ri r16.fn,.sl false (r16.l.map enc_Schema),.row 36 0 16 0 r16.in_.length,.row 39 0 1 0 r16.is.length,ri r16.at_,rb r16.safe])],59,103,0⟩) (so (by push_cast [hb6,hb9])) ?_;obtain ⟨r18,hr18,h⟩ := po_some h;refine vs [9,10,13] (fun K hK => ?_);push_cast;refine ch (H := []) (Ctr.ren (Bij.swp 1 59 Bij.id) (c_verify_kinds hr18) (by push_cast) (by push_cast)) (by push_cast) ?_;push_cast;refine hK _ ?_;clear hK K;refine VC.sub (s' := ⟨[(9,.sl false (x10.Code.map enc_Inst)),(10,.ref 41 0),(13,.mp 59)],[(36,.row 217 16 0 (r16.in_.map enc_Shape)),(39,.row 4 1 0 (r16.is.map encBool)),(41,.box 212 [.sl false (r16.p.Fns.map enc_Fn),ri r16.fn,.sl false (r16.l.map enc_Schema),.row 36 0 16 0 r16.in_.length,.row 39 0 1 0 r16.is.length,ri r16.at_,rb r16.safe]),(59,.mp [(.int .i64 0,.fn (.func 175) [] []),(.int .i64 1,.fn (.func 176) [] []),(.int .i64 2,.fn (.func 177) [] []),(.int .i64 3,.fn (.func 178) [] []),(.int .i64 4,.fn (.func 179) [] []),(.int .i64 5,.fn (.func 180) [] []),(.int .i64 6,.fn (.func 181) [] []),(.int .i64 7,.fn (.func 182) [] [])] 8)],61,103,0⟩) (so (by push_cast [hb6,hb9])) ?_;refine vm h (fun x => ⟨[(10,.ref 41 0)],[(36,.row 217 16 0 (x.in_.map enc_Shape)),(39,.row 4 1 0 (x.is.map encBool)),(41,.box 212 [.sl false (x.p.Fns.map enc_Fn),ri x.fn,.sl false (x.l.map enc_Schema),.row 36 0 16 0 x.in_.length,.row 39 0 1 0 x.is.length,ri x.at_,rb x.safe])],98,103,0⟩) (fun v19 h hk19 => ?_) ?_
     ·refine vs [10,13,64,65,66] (fun K hK => ?_);push_cast;refine hK _ ?_;clear hK K;refine VC.block ?_;refine VC.loopP h (fun x => ⟨[(10,.ref 41 0),(13,.mp 59),(64,.sl false (x10.Code.map enc_Inst)),(65,ri (x10.Code.length : Int)),(66,ri x.2)],[(36,.row 217 16 0 (x.1.in_.map enc_Shape)),(39,.row 4 1 0 (x.1.is.map encBool)),(41,.box 212 [.sl false (x.1.p.Fns.map enc_Fn),ri x.1.fn,.sl false (x.1.l.map enc_Schema),.row 36 0 16 0 x.1.in_.length,.row 39 0 1 0 x.1.is.length,ri x.1.at_,rb x.1.safe]),(59,.mp [(.int .i64 0,.fn (.func 175) [] []),(.int .i64 1,.fn (.func 176) [] []),(.int .i64 2,.fn (.func 177) [] []),(.int .i64 3,.fn (.func 178) [] []),(.int .i64 4,.fn (.func 179) [] []),(.int .i64 5,.fn (.func 180) [] []),(.int .i64 6,.fn (.func 181) [] []),(.int .i64 7,.fn (.func 182) [] [])] 8)],97,103,0⟩) ?_ ?_
      ·exact sl (by push_cast [hb6,hb9])
      rintro ⟨s_4,i_5⟩ b20 (h : p_verify_Shapes_L20 x10 s_4 i_5 = some b20) hf20;(try push_cast);unfold p_verify_Shapes_L20 at h;refine vs [10,13,64,65,66,67] (fun K hK => ?_);push_cast;refine hK _ ?_;clear hK K;refine VC.seq ?_;refine vc h (fun hb21 h => ?_) (fun hb21 h => ?_)
      ·refine VC.skip ?_;refine VC.seq ?_;refine VC.block ?_;obtain ⟨x22,hx22,h⟩ := po_some h;replace hx22 := idx_some4 hx22;refine vs [10,13,14,15,64,65,66] (fun K hK => ?_);push_cast [hx22];(repeat refine .intro (by omega) ?_);refine hK _ ?_;clear hK K;refine vj h (fun x => ⟨[(10,.ref 41 0),(13,.mp 59),(64,.sl false (x10.Code.map enc_Inst)),(65,ri (x10.Code.length : Int)),(66,ri i_5)],[(36,.row 217 16 0 (x.in_.map enc_Shape)),(39,.row 4 1 0 (x.is.map encBool)),(41,.box 212 [.sl false (x.p.Fns.map enc_Fn),ri x.fn,.sl false (x.l.map enc_Schema),.row 36 0 16 0 x.in_.length,.row 39 0 1 0 x.is.length,ri x.at_,rb x.safe]),(59,.mp [(.int .i64 0,.fn (.func 175) [] []),(.int .i64 1,.fn (.func 176) [] []),(.int .i64 2,.fn (.func 177) [] []),(.int .i64 3,.fn (.func 178) [] []),(.int .i64 4,.fn (.func 179) [] []),(.int .i64 5,.fn (.func 180) [] []),(.int .i64 6,.fn (.func 181) [] []),(.int .i64 7,.fn (.func 182) [] [])] 8)],123,103,0⟩) (fun v23 h hk23 => ?_) ?_
       ·refine vs [10,13,14,15,64,65,66] (fun K hK => ?_);push_cast;refine hK _ ?_;clear hK K;obtain ⟨x24,hx24,h⟩ := po_some h;replace hx24 := idx_some4 hx24;refine vs [10,13,15,64,65,66,81] (fun K hK => ?_);push_cast [hx24];(repeat refine .intro (by omega) ?_);refine hK _ ?_;clear hK K;refine vc h (fun hb25 h => ?_) (fun hb25 h => ?_)
        ·rcases Bool.eq_false_or_eq_true (x22.Op == 0) with hb26 | hb26
         ·replace h := cond_yes hb26 h;obtain ⟨r27,hr27,h⟩ := po_some h;refine vl (fun K hK => ?_);push_cast [hb26];(repeat refine .intro (by omega) ?_);refine ch (H := [(41,.box 212 [.sl false (s_4.p.Fns.map enc_Fn),ri s_4.fn,.sl false (s_4.l.map enc_Schema),.row 36 0 16 0 s_4.in_.length,.row 39 0 1 0 s_4.is.length,ri i_5,rb s_4.safe]),(36,.row 217 16 0 (s_4.in_.map enc_Shape)),(39,.row 4 1 0 (s_4.is.map encBool))]) (Ctr.loH (Ctr.ren (Bij.swp 2 39 (Bij.swp 1 36 (Bij.swp 0 41 Bij.id))) (c_verify_work_alu hr27) (by push_cast [hb26]) (by push_cast [hb26]))) (by push_cast [hb26]) ?_;push_cast [hb26];(repeat refine .intro (by omega) ?_);refine hK _ ?_;clear hK K;refine ar h hk23 ?_;exact sl (by push_cast [hb6,hb9,hb21,hb25,hb26])
         ·replace h := cond_no hb26 h;rcases Bool.eq_false_or_eq_true (x22.Op == 1) with hb28 | hb28
          ·replace h := cond_yes hb28 h;obtain ⟨r29,hr29,h⟩ := po_some h;refine vl (fun K hK => ?_);push_cast [hb26,hb28];(repeat refine .intro (by omega) ?_);refine ch (H := [(41,.box 212 [.sl false (s_4.p.Fns.map enc_Fn),ri s_4.fn,.sl false (s_4.l.map enc_Schema),.row 36 0 16 0 s_4.in_.length,.row 39 0 1 0 s_4.is.length,ri i_5,rb s_4.safe]),(36,.row 217 16 0 (s_4.in_.map enc_Shape)),(39,.row 4 1 0 (s_4.is.map encBool))]) (Ctr.loH (Ctr.ren (Bij.swp 2 39 (Bij.swp 1 36 (Bij.swp 0 41 Bij.id))) (c_verify_work_jump hr29) (by push_cast [hb26,hb28]) (by push_cast [hb26,hb28]))) (by push_cast [hb26,hb28]) ?_;push_cast [hb26,hb28];(repeat refine .intro (by omega) ?_);refine hK _ ?_;clear hK K;refine ar h hk23 ?_;exact sl (by push_cast [hb6,hb9,hb21,hb25,hb26,hb28])
          ·replace h := cond_no hb28 h;rcases Bool.eq_false_or_eq_true (x22.Op == 2) with hb30 | hb30
           ·replace h := cond_yes hb30 h;obtain ⟨r31,hr31,h⟩ := po_some h;refine vl (fun K hK => ?_);push_cast [hb26,hb28,hb30];(repeat refine .intro (by omega) ?_);refine ch (H := [(41,.box 212 [.sl false (s_4.p.Fns.map enc_Fn),ri s_4.fn,.sl false (s_4.l.map enc_Schema),.row 36 0 16 0 s_4.in_.length,.row 39 0 1 0 s_4.is.length,ri i_5,rb s_4.safe]),(36,.row 217 16 0 (s_4.in_.map enc_Shape)),(39,.row 4 1 0 (s_4.is.map encBool))]) (Ctr.loH (Ctr.ren (Bij.swp 2 39 (Bij.swp 1 36 (Bij.swp 0 41 Bij.id))) (c_verify_work_ctx hr31) (by push_cast [hb26,hb28,hb30]) (by push_cast [hb26,hb28,hb30]))) (by push_cast [hb26,hb28,hb30]) ?_;push_cast [hb26,hb28,hb30];(repeat refine .intro (by omega) ?_);refine hK _ ?_;clear hK K;refine ar h hk23 ?_;exact sl (by push_cast [hb6,hb9,hb21,hb25,hb26,hb28,hb30])
           ·replace h := cond_no hb30 h;rcases Bool.eq_false_or_eq_true (x22.Op == 3) with hb32 | hb32
            ·replace h := cond_yes hb32 h;obtain ⟨r33,hr33,h⟩ := po_some h;refine vl (fun K hK => ?_);push_cast [hb26,hb28,hb30,hb32];(repeat refine .intro (by omega) ?_);refine ch (H := [(41,.box 212 [.sl false (s_4.p.Fns.map enc_Fn),ri s_4.fn,.sl false (s_4.l.map enc_Schema),.row 36 0 16 0 s_4.in_.length,.row 39 0 1 0 s_4.is.length,ri i_5,rb s_4.safe]),(36,.row 217 16 0 (s_4.in_.map enc_Shape)),(39,.row 4 1 0 (s_4.is.map encBool))]) (Ctr.loH (Ctr.ren (Bij.swp 2 39 (Bij.swp 1 36 (Bij.swp 0 41 Bij.id))) (c_verify_work_load hr33) (by push_cast [hb26,hb28,hb30,hb32]) (by push_cast [hb26,hb28,hb30,hb32]))) (by push_cast [hb26,hb28,hb30,hb32]) ?_;push_cast [hb26,hb28,hb30,hb32];(repeat refine .intro (by omega) ?_);refine hK _ ?_;clear hK K;refine ar h hk23 ?_;exact sl (by push_cast [hb6,hb9,hb21,hb25,hb26,hb28,hb30,hb32])
            ·replace h := cond_no hb32 h;rcases Bool.eq_false_or_eq_true (x22.Op == 4) with hb34 | hb34
             ·replace h := cond_yes hb34 h;obtain ⟨r35,hr35,h⟩ := po_some h;refine vl (fun K hK => ?_);push_cast [hb26,hb28,hb30,hb32,hb34];(repeat refine .intro (by omega) ?_);refine ch (H := [(41,.box 212 [.sl false (s_4.p.Fns.map enc_Fn),ri s_4.fn,.sl false (s_4.l.map enc_Schema),.row 36 0 16 0 s_4.in_.length,.row 39 0 1 0 s_4.is.length,ri i_5,rb s_4.safe]),(36,.row 217 16 0 (s_4.in_.map enc_Shape)),(39,.row 4 1 0 (s_4.is.map encBool))]) (Ctr.loH (Ctr.ren (Bij.swp 2 39 (Bij.swp 1 36 (Bij.swp 0 41 Bij.id))) (c_verify_work_store hr35) (by push_cast [hb26,hb28,hb30,hb32,hb34]) (by push_cast [hb26,hb28,hb30,hb32,hb34]))) (by push_cast [hb26,hb28,hb30,hb32,hb34]) ?_;push_cast [hb26,hb28,hb30,hb32,hb34];(repeat refine .intro (by omega) ?_);refine hK _ ?_;clear hK K;refine ar h hk23 ?_;exact sl (by push_cast [hb6,hb9,hb21,hb25,hb26,hb28,hb30,hb32,hb34])
             ·replace h := cond_no hb34 h;rcases Bool.eq_false_or_eq_true (x22.Op == 5) with hb36 | hb36
              ·replace h := cond_yes hb36 h;obtain ⟨r37,hr37,h⟩ := po_some h;refine vl (fun K hK => ?_);push_cast [hb26,hb28,hb30,hb32,hb34,hb36];(repeat refine .intro (by omega) ?_);refine ch (H := [(41,.box 212 [.sl false (s_4.p.Fns.map enc_Fn),ri s_4.fn,.sl false (s_4.l.map enc_Schema),.row 36 0 16 0 s_4.in_.length,.row 39 0 1 0 s_4.is.length,ri i_5,rb s_4.safe]),(36,.row 217 16 0 (s_4.in_.map enc_Shape)),(39,.row 4 1 0 (s_4.is.map encBool))]) (Ctr.loH (Ctr.ren (Bij.swp 2 39 (Bij.swp 1 36 (Bij.swp 0 41 Bij.id))) (c_verify_work_help hr37) (by push_cast [hb26,hb28,hb30,hb32,hb34,hb36]) (by push_cast [hb26,hb28,hb30,hb32,hb34,hb36]))) (by push_cast [hb26,hb28,hb30,hb32,hb34,hb36]) ?_;push_cast [hb26,hb28,hb30,hb32,hb34,hb36];(repeat refine .intro (by omega) ?_);refine hK _ ?_;clear hK K;refine ar h hk23 ?_;exact sl (by push_cast [hb6,hb9,hb21,hb25,hb26,hb28,hb30,hb32,hb34,hb36])
              ·replace h := cond_no hb36 h;rcases Bool.eq_false_or_eq_true (x22.Op == 6) with hb38 | hb38
               ·replace h := cond_yes hb38 h;obtain ⟨r39,hr39,h⟩ := po_some h;refine vl (fun K hK => ?_);push_cast [hb26,hb28,hb30,hb32,hb34,hb36,hb38];(repeat refine .intro (by omega) ?_);refine ch (H := [(41,.box 212 [.sl false (s_4.p.Fns.map enc_Fn),ri s_4.fn,.sl false (s_4.l.map enc_Schema),.row 36 0 16 0 s_4.in_.length,.row 39 0 1 0 s_4.is.length,ri i_5,rb s_4.safe]),(36,.row 217 16 0 (s_4.in_.map enc_Shape)),(39,.row 4 1 0 (s_4.is.map encBool))]) (Ctr.loH (Ctr.ren (Bij.swp 2 39 (Bij.swp 1 36 (Bij.swp 0 41 Bij.id))) (c_verify_work_call hr39) (by push_cast [hb26,hb28,hb30,hb32,hb34,hb36,hb38]) (by push_cast [hb26,hb28,hb30,hb32,hb34,hb36,hb38]))) (by push_cast [hb26,hb28,hb30,hb32,hb34,hb36,hb38]) ?_;push_cast [hb26,hb28,hb30,hb32,hb34,hb36,hb38];(repeat refine .intro (by omega) ?_);refine hK _ ?_;clear hK K;refine ar h hk23 ?_;exact sl (by push_cast [hb6,hb9,hb21,hb25,hb26,hb28,hb30,hb32,hb34,hb36,hb38])
               ·replace h := cond_no hb38 h;rcases Bool.eq_false_or_eq_true (x22.Op == 7) with hb40 | hb40
                ·replace h := cond_yes hb40 h;obtain ⟨r41,hr41,h⟩ := po_some h;refine vl (fun K hK => ?_);push_cast [hb26,hb28,hb30,hb32,hb34,hb36,hb38,hb40];(repeat refine .intro (by omega) ?_);refine ch (H := [(41,.box 212 [.sl false (s_4.p.Fns.map enc_Fn),ri s_4.fn,.sl false (s_4.l.map enc_Schema),.row 36 0 16 0 s_4.in_.length,.row 39 0 1 0 s_4.is.length,ri i_5,rb s_4.safe]),(36,.row 217 16 0 (s_4.in_.map enc_Shape)),(39,.row 4 1 0 (s_4.is.map encBool))]) (Ctr.loH (Ctr.ren (Bij.swp 2 39 (Bij.swp 1 36 (Bij.swp 0 41 Bij.id))) (c_verify_work_exit hr41) (by push_cast [hb26,hb28,hb30,hb32,hb34,hb36,hb38,hb40]) (by push_cast [hb26,hb28,hb30,hb32,hb34,hb36,hb38,hb40]))) (by push_cast [hb26,hb28,hb30,hb32,hb34,hb36,hb38,hb40]) ?_;push_cast [hb26,hb28,hb30,hb32,hb34,hb36,hb38,hb40];(repeat refine .intro (by omega) ?_);refine hK _ ?_;clear hK K;refine ar h hk23 ?_;exact sl (by push_cast [hb6,hb9,hb21,hb25,hb26,hb28,hb30,hb32,hb34,hb36,hb38,hb40])
                ·replace h := cond_no hb40 h;cases h
        ·refine VC.skip ?_;refine ar h hk23 ?_;exact sl (by push_cast [hb6,hb9,hb21,hb25])
       ·rintro s_11 (h : p_verify_Shapes_J23 i_5 s_11 = some b20);(try push_cast);unfold p_verify_Shapes_J23 at h;refine vs [10,13,64,65,66,93] (fun K hK => ?_);push_cast;refine hK _ ?_;clear hK K;refine vc h (fun hb42 h => ?_) (fun hb42 h => ?_)
        ·refine vs [6,7,8] (fun K hK => ?_);push_cast;refine hK _ ?_;clear hK K;refine VC.ret ?_;replace h := ol h hf20;replace h := om h hk19;replace h := Option.some.inj h;subst h;exact en (by push_cast [hb6,hb9,hb21,hb42])
        ·refine VC.skip ?_;refine vl (fun K hK => ?_);push_cast;refine hK _ ?_;clear hK K;refine bk h ?_;exact sl (by push_cast [hb6,hb9,hb21,hb42])
      ·refine VC.exit ?_;replace h := ol h hf20;refine am h hk19 ?_;exact sl (by push_cast [hb6,hb9,hb21])
     ·rintro s_10 (h : p_verify_Shapes_J19 s_10 = some r);(try push_cast);unfold p_verify_Shapes_J19 at h;refine vsD [some 95,some 96,some 97,some 98,some 99,some 100,some 101,some 102,some 6,some 7,some 8] [6,7,8] (fun K hK => ?_);refine runD_cut 8 (fun K2 hK2 => ?_);push_cast;refine hK2 _ _ _ ?_;clear hK2 K2;simp only [List.drop_succ_cons,List.drop_zero];push_cast;refine ⟨rfl,hK _ ?_⟩;clear hK K;refine VC.ret ?_;replace h := Option.some.inj h;subst h;refine endS (Sub.freezeT prog (k := 6) rfl rfl (by push_cast [hb6,hb9] <;> omega) (by decide)) ?_;refine endS (Sub.freezeT prog (k := 7) rfl rfl (by push_cast [hb6,hb9] <;> omega) (by decide)) ?_;exact en (by push_cast [hb6,hb9])
noncomputable def p_verify_inside_J6 (i_2 : Int) (i_6 : Bool) : Option ((Int) ⊕ ((Unit) ⊕ (Bool))) :=
  cond i_6 (
  some (Sum.inr (Sum.inr false))) (
  some (Sum.inl (IntKind.i64.wrap (i_2 + 1))))
noncomputable def p_verify_inside_L3 (a0 : T_Prog) (x1 : T_Fn) (i_2 : Int) : Option ((Int) ⊕ ((Unit) ⊕ (Bool))) :=
  cond (decide (i_2 < (x1.Code.length : Int))) (
  po (idx x1.Code i_2) fun x5 =>
  po (
  cond (x5.Op == 1) (
  cond (decide ((IntKind.i64.wrap ((IntKind.i64.wrap (i_2 + x5.Off)) + 1)) ≥ (x1.Code.length : Int))) (
  some true) (
  cond (x5.Op == 6) (
  some (decide ((IntKind.u64.wrap (x5.Imm.toNat : Int)) ≥ (IntKind.u64.wrap (a0.Fns.length : Int))))) (
  some false))) (
  cond (x5.Op == 6) (
  some (decide ((IntKind.u64.wrap (x5.Imm.toNat : Int)) ≥ (IntKind.u64.wrap (a0.Fns.length : Int))))) (
  some false))) (fun x => p_verify_inside_J6 i_2 x)) (
  some (Sum.inr (Sum.inl ())))
noncomputable def p_verify_inside_J2 : Option (Bool) :=
  some true
noncomputable def p_verify_inside (a0 : T_Prog) (a1 : Int) : Option (Bool) :=
  po (idx a0.Fns a1) fun x1 =>
  pm (
  lpU (fun x => p_verify_inside_L3 a0 x1 x) 0) (fun x => p_verify_inside_J2)
theorem c_verify_inside {a0 : T_Prog} {a1 : Int} {r : Bool} (h : p_verify_inside a0 a1 = some r) : Ctr prog 91 [.agg (enc_Prog a0), ri a1] [] (rb r) [] := by
 unfold p_verify_inside at h;refine Ctr.ofW tabOk func91 rfl call91 0 _ ntmps91 [.tmp 4] rfl rfl rfl (fun B => ?_);refine vs [1,2] (fun K hK => ?_);push_cast;refine hK _ ?_;clear hK K;obtain ⟨x1,hx1,h⟩ := po_some h;replace hx1 := idx_some4 hx1;refine vs [2,5] (fun K hK => ?_);push_cast [hx1];(repeat refine .intro (by omega) ?_);refine hK _ ?_;clear hK K;refine vm h (fun x => ⟨[],[],50,50,0⟩) (fun v2 h hk2 => ?_) ?_
 ·refine vs [2,5,14,15,16] (fun K hK => ?_);push_cast;refine hK _ ?_;clear hK K;refine VC.block ?_;refine VC.loopP h (fun x => ⟨[(2,.ref 0 0),(5,.sl false (x1.Code.map enc_Inst)),(14,.sl false (x1.Code.map enc_Inst)),(15,ri (x1.Code.length : Int)),(16,ri x)],[(0,.box 56 [.sl false (a0.Fns.map enc_Fn)])],49,50,0⟩) ?_ ?_
  ·exact sl (by push_cast)
  rintro i_2 b3 (h : p_verify_inside_L3 a0 x1 i_2 = some b3) hf3;(try push_cast);unfold p_verify_inside_L3 at h;refine vs [2,5,14,15,16,17] (fun K hK => ?_);push_cast;refine hK _ ?_;clear hK K;refine VC.seq ?_;refine vc h (fun hb4 h => ?_) (fun hb4 h => ?_)
  ·refine VC.skip ?_;refine VC.seq ?_;refine VC.block ?_;obtain ⟨x5,hx5,h⟩ := po_some h;replace hx5 := idx_some4 hx5;refine vs [2,5,6,7,14,15,16] (fun K hK => ?_);push_cast [hx5];(repeat refine .intro (by omega) ?_);refine hK _ ?_;clear hK K;refine vj h (fun x => ⟨[(2,.ref 0 0),(5,.sl false (x1.Code.map enc_Inst)),(14,.sl false (x1.Code.map enc_Inst)),(15,ri (x1.Code.length : Int)),(16,ri i_2),(48,rb x)],[(0,.box 56 [.sl false (a0.Fns.map enc_Fn)])],84,50,0⟩) (fun v6 h hk6 => ?_) ?_
   ·rcases Bool.eq_false_or_eq_true (x5.Op == 1) with hb7 | hb7
    ·replace h := cond_yes hb7 h;rcases Bool.eq_false_or_eq_true (decide ((IntKind.i64.wrap ((IntKind.i64.wrap (i_2 + x5.Off)) + 1)) ≥ (x1.Code.length : Int))) with hb8 | hb8
     ·replace h := cond_yes hb8 h;refine vlG [some 21,some 22,some 23,some 24,some 25,some 26,some 27,some 28,some 29,some 30,some 31,some 32,some 33,some 34,some 35,some 36,some 37,some 38,some 39,some 40,some 41,some 42,some 43,some 44,some 45,some 46,some 47,some 48] (fun K hK => ?_);refine runOps_cut 8 (fun K2 hK2 => ?_);push_cast [hb7,hb8];(repeat refine .intro (by omega) ?_);refine hK2 _ _ ?_;clear hK2 K2;simp only [List.drop_succ_cons,List.drop_zero];refine runOps_cut 8 (fun K2 hK2 => ?_);push_cast [hb7,hb8];(repeat refine .intro (by omega) ?_);refine hK2 _ _ ?_;clear hK2 K2;simp only [List.drop_succ_cons,List.drop_zero];refine runOps_cut 8 (fun K2 hK2 => ?_);push_cast [hb7,hb8];(repeat refine .intro (by omega) ?_);refine hK2 _ _ ?_;clear hK2 K2;simp only [List.drop_succ_cons,List.drop_zero];push_cast [hb7,hb8];(repeat refine .intro (by omega) ?_);refine hK _ ?_;clear hK K;refine ar h hk6 ?_;exact sl (by push_cast [hb4,hb7,hb8])
     ·replace h := cond_no hb8 h;rcases Bool.eq_false_or_eq_true (x5.Op == 6) with hb9 | hb9
      ·replace h := cond_yes hb9 h;refine vlG [some 21,some 22,some 23,some 24,some 25,some 26,some 27,some 28,some 29,some 30,some 31,some 32,some 33,some 34,some 35,some 36,some 37,some 38,some 39,some 40,some 41,some 42,some 43,some 44,some 45,some 46,some 47,some 48] (fun K hK => ?_);refine runOps_cut 8 (fun K2 hK2 => ?_);push_cast [hb7,hb8,hb9];(repeat refine .intro (by omega) ?_);refine hK2 _ _ ?_;clear hK2 K2;simp only [List.drop_succ_cons,List.drop_zero];refine runOps_cut 8 (fun K2 hK2 => ?_);push_cast [hb7,hb8,hb9];(repeat refine .intro (by omega) ?_);refine hK2 _ _ ?_;clear hK2 K2;simp only [List.drop_succ_cons,List.drop_zero];refine runOps_cut 8 (fun K2 hK2 => ?_);push_cast [hb7,hb8,hb9];(repeat refine .intro (by omega) ?_);refine hK2 _ _ ?_;clear hK2 K2;simp only [List.drop_succ_cons,List.drop_zero];push_cast [hb7,hb8,hb9];(repeat refine .intro (by omega) ?_);refine hK _ ?_;clear hK K;refine ar h hk6 ?_;exact sl (by push_cast [hb4,hb7,hb8,hb9])
      ·replace h := cond_no hb9 h;refine vlG [some 21,some 22,some 23,some 24,some 25,some 26,some 27,some 28,some 29,some 30,some 31,some 32,some 33,some 34,some 35,some 36,some 37,some 38,some 39,some 40,some 41,some 42,some 43,some 44,some 45,some 46,some 47,some 48] (fun K hK => ?_);refine runOps_cut 8 (fun K2 hK2 => ?_);push_cast [hb7,hb8,hb9];(repeat refine .intro (by omega) ?_);refine hK2 _ _ ?_;clear hK2 K2;simp only [List.drop_succ_cons,List.drop_zero];refine runOps_cut 8 (fun K2 hK2 => ?_);push_cast [hb7,hb8,hb9];(repeat refine .intro (by omega) ?_);refine hK2 _ _ ?_;clear hK2 K2;simp only [List.drop_succ_cons,List.drop_zero];refine runOps_cut 8 (fun K2 hK2 => ?_);push_cast [hb7,hb8,hb9];(repeat refine .intro (by omega) ?_);refine hK2 _ _ ?_;clear hK2 K2;simp only [List.drop_succ_cons,List.drop_zero];push_cast [hb7,hb8,hb9];(repeat refine .intro (by omega) ?_);refine hK _ ?_;clear hK K;refine ar h hk6 ?_;exact sl (by push_cast [hb4,hb7,hb8,hb9])
    ·replace h := cond_no hb7 h;rcases Bool.eq_false_or_eq_true (x5.Op == 6) with hb10 | hb10
     ·replace h := cond_yes hb10 h;refine vlG [some 21,some 22,some 23,some 24,some 25,some 26,some 27,some 28,some 29,some 30,some 31,some 32,some 33,some 34,some 35,some 36,some 37,some 38,some 39,some 40,some 41,some 42,some 43,some 44,some 45,some 46,some 47,some 48] (fun K hK => ?_);refine runOps_cut 8 (fun K2 hK2 => ?_);push_cast [hb7,hb10];(repeat refine .intro (by omega) ?_);refine hK2 _ _ ?_;clear hK2 K2;simp only [List.drop_succ_cons,List.drop_zero];refine runOps_cut 8 (fun K2 hK2 => ?_);push_cast [hb7,hb10];(repeat refine .intro (by omega) ?_);refine hK2 _ _ ?_;clear hK2 K2;simp only [List.drop_succ_cons,List.drop_zero];refine runOps_cut 8 (fun K2 hK2 => ?_);push_cast [hb7,hb10];(repeat refine .intro (by omega) ?_);refine hK2 _ _ ?_;clear hK2 K2;simp only [List.drop_succ_cons,List.drop_zero];push_cast [hb7,hb10];(repeat refine .intro (by omega) ?_);refine hK _ ?_;clear hK K;refine ar h hk6 ?_;exact sl (by push_cast [hb4,hb7,hb10])
     ·replace h := cond_no hb10 h;refine vlG [some 21,some 22,some 23,some 24,some 25,some 26,some 27,some 28,some 29,some 30,some 31,some 32,some 33,some 34,some 35,some 36,some 37,some 38,some 39,some 40,some 41,some 42,some 43,some 44,some 45,some 46,some 47,some 48] (fun K hK => ?_);refine runOps_cut 8 (fun K2 hK2 => ?_);push_cast [hb7,hb10];(repeat refine .intro (by omega) ?_);refine hK2 _ _ ?_;clear hK2 K2;simp only [List.drop_succ_cons,List.drop_zero];refine runOps_cut 8 (fun K2 hK2 => ?_);push_cast [hb7,hb10];(repeat refine .intro (by omega) ?_);refine hK2 _ _ ?_;clear hK2 K2;simp only [List.drop_succ_cons,List.drop_zero];refine runOps_cut 8 (fun K2 hK2 => ?_);push_cast [hb7,hb10];(repeat refine .intro (by omega) ?_);refine hK2 _ _ ?_;clear hK2 K2;simp only [List.drop_succ_cons,List.drop_zero];push_cast [hb7,hb10];(repeat refine .intro (by omega) ?_);refine hK _ ?_;clear hK K;refine ar h hk6 ?_;exact sl (by push_cast [hb4,hb7,hb10])
   ·rintro i_6 (h : p_verify_inside_J6 i_2 i_6 = some b3);(try push_cast);unfold p_verify_inside_J6 at h;refine vc h (fun hb11 h => ?_) (fun hb11 h => ?_)
    ·refine vs [4] (fun K hK => ?_);push_cast;refine hK _ ?_;clear hK K;refine VC.ret ?_;replace h := ol h hf3;replace h := om h hk2;replace h := Option.some.inj h;subst h;exact en (by push_cast [hb4,hb11])
    ·refine VC.skip ?_;refine vl (fun K hK => ?_);push_cast;refine hK _ ?_;clear hK K;refine bk h ?_;exact sl (by push_cast [hb4,hb11])
  ·refine VC.exit ?_;replace h := ol h hf3;refine am h hk2 ?_;exact sl (by push_cast [hb4])
 ·rintro ⟨⟩ (h : p_verify_inside_J2 = some r);(try push_cast);unfold p_verify_inside_J2 at h;refine vs [4] (fun K hK => ?_);push_cast;refine hK _ ?_;clear hK K;refine VC.ret ?_;replace h := Option.some.inj h;subst h;exact en (by push_cast)
noncomputable def p_verify_Verify_L2 (a0 : T_Prog) (a1 : (List T_Schema)) (i_1 : Int) : Option ((Int) ⊕ ((Unit) ⊕ (Int × Int))) :=
  cond (decide (i_1 < (maxI 1 (a0.Fns.length : Int)))) (
  po (p_verify_Shapes a0 i_1 a1) fun r4 =>
  cond (r4.2.2 != 0) (
  some (Sum.inr (Sum.inr (0, r4.2.2)))) (
  po (p_verify_inside a0 i_1) fun r6 =>
  cond (!r6) (
  some (Sum.inr (Sum.inr (0, 8)))) (
  some (Sum.inl (IntKind.i64.wrap (i_1 + 1)))))) (
  some (Sum.inr (Sum.inl ())))
noncomputable def p_verify_Verify_J1 (a0 : T_Prog) : Option (Int × Int) :=
  po (p_course_Budget a0) fun r8 =>
  cond (decide (r8 > 2000)) (
  some (0, 2)) (
  some (r8, 0))
noncomputable def p_verify_Verify (a0 : T_Prog) (a1 : (List T_Schema)) : Option (Int × Int) :=
  pm (
  lpU (fun x => p_verify_Verify_L2 a0 a1 x) 0) (fun x => p_verify_Verify_J1 a0)
theorem c_verify_Verify {a0 : T_Prog} {a1 : (List T_Schema)} {r : Int × Int} (h : p_verify_Verify a0 a1 = some r) : Ctr prog 59 [.agg (enc_Prog a0), .sl false (a1.map enc_Schema)] [] (.tup [ri r.1, ri r.2]) [] := by
 unfold p_verify_Verify at h;refine Ctr.ofW tabOk func59 rfl call59 0 _ ntmps59 [.tmp 4,.tmp 5] rfl rfl rfl (fun B => ?_);refine vs [1,2] (fun K hK => ?_);push_cast;refine hK _ ?_;clear hK K;refine vm h (fun x => ⟨[(2,.ref 0 0)],[(0,.box 56 [.sl false (a0.Fns.map enc_Fn)])],31,39,0⟩) (fun v1 h hk1 => ?_) ?_
 ·refine vs [1,2,14,15] (fun K hK => ?_);push_cast;refine hK _ ?_;clear hK K;refine VC.block ?_;refine VC.loopP h (fun x => ⟨[(1,.sl false (a1.map enc_Schema)),(2,.ref 0 0),(14,ri (maxI 1 (a0.Fns.length : Int))),(15,ri x)],[(0,.box 56 [.sl false (a0.Fns.map enc_Fn)])],30,39,0⟩) ?_ ?_
  ·exact sl (by push_cast)
  rintro i_1 b2 (h : p_verify_Verify_L2 a0 a1 i_1 = some b2) hf2;(try push_cast);unfold p_verify_Verify_L2 at h;refine vs [1,2,14,15,16] (fun K hK => ?_);push_cast;refine hK _ ?_;clear hK K;refine VC.seq ?_;refine vc h (fun hb3 h => ?_) (fun hb3 h => ?_)
  ·refine VC.skip ?_;refine VC.seq ?_;refine VC.block ?_;refine vs [1,2,6,14,15] (fun K hK => ?_);push_cast;refine hK _ ?_;clear hK K;refine VC.seq ?_;obtain ⟨r4,hr4,h⟩ := po_some h;refine vs [1,2,6,9,14,15] (fun K hK => ?_);refine runOps_cut 8 (fun K2 hK2 => ?_);push_cast;refine cp (c_verify_Shapes hr4) ?_;push_cast;refine hK2 _ _ ?_;clear hK2 K2;simp only [List.drop_succ_cons,List.drop_zero];push_cast;refine hK _ ?_;clear hK K;refine vs [1,2,6,9,14,15,27] (fun K hK => ?_);push_cast;refine hK _ ?_;clear hK K;refine vc h (fun hb5 h => ?_) (fun hb5 h => ?_)
   ·refine vs [4,5] (fun K hK => ?_);push_cast;refine hK _ ?_;clear hK K;refine VC.ret ?_;replace h := ol h hf2;replace h := om h hk1;replace h := Option.some.inj h;subst h;exact en (by push_cast [hb3,hb5])
   ·refine VC.skip ?_;obtain ⟨r6,hr6,h⟩ := po_some h;refine vs [1,2,14,15,32] (fun K hK => ?_);push_cast;refine cp (c_verify_inside hr6) ?_;push_cast;refine hK _ ?_;clear hK K;refine vc h (fun hb7 h => ?_) (fun hb7 h => ?_)
    ·refine vs [4,5] (fun K hK => ?_);push_cast;refine hK _ ?_;clear hK K;refine VC.ret ?_;replace h := ol h hf2;replace h := om h hk1;replace h := Option.some.inj h;subst h;exact en (by push_cast [hb3,hb5,hb7])
    ·refine VC.skip ?_;refine vl (fun K hK => ?_);push_cast;refine hK _ ?_;clear hK K;refine bk h ?_;exact sl (by push_cast [hb3,hb5,hb7])
  ·refine VC.exit ?_;replace h := ol h hf2;refine am h hk1 ?_;exact sl (by push_cast [hb3])
 ·rintro ⟨⟩ (h : p_verify_Verify_J1 a0 = some r);(try push_cast);unfold p_verify_Verify_J1 at h;obtain ⟨r8,hr8,h⟩ := po_some h;refine vs [10] (fun K hK => ?_);push_cast;refine cp (c_course_Budget hr8) ?_;push_cast;refine hK _ ?_;clear hK K;refine VC.seq ?_;refine vs [10,37] (fun K hK => ?_);push_cast;refine hK _ ?_;clear hK K;refine vc h (fun hb9 h => ?_) (fun hb9 h => ?_)
  ·refine vs [4,5] (fun K hK => ?_);push_cast;refine hK _ ?_;clear hK K;refine VC.ret ?_;replace h := Option.some.inj h;subst h;exact en (by push_cast [hb9])
  ·refine VC.skip ?_;refine vs [4,5] (fun K hK => ?_);push_cast;refine hK _ ?_;clear hK K;refine VC.ret ?_;replace h := Option.some.inj h;subst h;exact en (by push_cast [hb9])
noncomputable def p_shift_Fits_J1 (a2 : T_Prog) (i_1 : Bool) : Option (Int) :=
  cond i_1 (
  some 9) (
  po (p_verify_Verify a2 []) fun r6 =>
  some r6.2)
noncomputable def p_shift_Fits (a0 : T_Schema) (a1 : T_Schema) (a2 : T_Prog) : Option (Int) :=
  po (
  cond (a0.Kind == 3) (
  some true) (
  po (p_schema_Step a0 a1) fun r3 =>
  cond (r3 != 1) (
  some true) (
  some (decide (a1.Cap < a0.Cap))))) (fun x => p_shift_Fits_J1 a2 x)
theorem c_shift_Fits {a0 : T_Schema} {a1 : T_Schema} {a2 : T_Prog} {r : Int} (h : p_shift_Fits a0 a1 a2 = some r) : Ctr prog 23 [.agg (enc_Schema a0), .agg (enc_Schema a1), .agg (enc_Prog a2)] [] (ri r) [] := by
 unfold p_shift_Fits at h;refine Ctr.ofW tabOk func23 rfl call23 0 _ ntmps23 [.tmp 6] rfl rfl rfl (fun B => ?_);refine vs [3,4,5] (fun K hK => ?_);push_cast;refine hK _ ?_;clear hK K;refine VC.seq ?_;refine vj h (fun x => ⟨[(5,.ref 2 0),(24,rb x)],[(2,.box 56 [.sl false (a2.Fns.map enc_Fn)])],20,31,0⟩) (fun v1 h hk1 => ?_) ?_
 ·rcases Bool.eq_false_or_eq_true (a0.Kind == 3) with hb2 | hb2
  ·replace h := cond_yes hb2 h;refine vlG [some 9,some 10,some 11,some 12,some 13,some 14,some 15,some 16,some 17,some 18,some 19,some 20,some 21,some 22,some 23,some 24] (fun K hK => ?_);refine runOps_cut 8 (fun K2 hK2 => ?_);push_cast [hb2];(repeat refine .intro (by omega) ?_);refine hK2 _ _ ?_;clear hK2 K2;simp only [List.drop_succ_cons,List.drop_zero];push_cast [hb2];(repeat refine .intro (by omega) ?_);refine hK _ ?_;clear hK K;refine ar h hk1 ?_;exact sl (by push_cast [hb2])
  ·replace h := cond_no hb2 h;obtain ⟨r3,hr3,h⟩ := po_some h;rcases Bool.eq_false_or_eq_true (r3 != 1) with hb4 | hb4
   ·replace h := cond_yes hb4 h;refine vlG [some 9,some 10,some 11,some 12,some 13,some 14,some 15,some 16,some 17,some 18,some 19,some 20,some 21,some 22,some 23,some 24] (fun K hK => ?_);refine runOps_cut 8 (fun K2 hK2 => ?_);push_cast [hb2,hb4];(repeat refine .intro (by omega) ?_);refine cp (c_schema_Step hr3) ?_;push_cast [hb2,hb4];(repeat refine .intro (by omega) ?_);refine hK2 _ _ ?_;clear hK2 K2;simp only [List.drop_succ_cons,List.drop_zero];push_cast [hb2,hb4];(repeat refine .intro (by omega) ?_);refine hK _ ?_;clear hK K;refine ar h hk1 ?_;exact sl (by push_cast [hb2,hb4])
   ·replace h := cond_no hb4 h;refine vlG [some 9,some 10,some 11,some 12,some 13,some 14,some 15,some 16,some 17,some 18,some 19,some 20,some 21,some 22,some 23,some 24] (fun K hK => ?_);refine runOps_cut 8 (fun K2 hK2 => ?_);push_cast [hb2,hb4];(repeat refine .intro (by omega) ?_);refine cp (c_schema_Step hr3) ?_;push_cast [hb2,hb4];(repeat refine .intro (by omega) ?_);refine hK2 _ _ ?_;clear hK2 K2;simp only [List.drop_succ_cons,List.drop_zero];push_cast [hb2,hb4];(repeat refine .intro (by omega) ?_);refine hK _ ?_;clear hK K;refine ar h hk1 ?_;exact sl (by push_cast [hb2,hb4])
 ·rintro i_1 (h : p_shift_Fits_J1 a2 i_1 = some r);(try push_cast);unfold p_shift_Fits_J1 at h;refine vc h (fun hb5 h => ?_) (fun hb5 h => ?_)
  ·refine vs [6] (fun K hK => ?_);push_cast;refine hK _ ?_;clear hK K;refine VC.ret ?_;replace h := Option.some.inj h;subst h;exact en (by push_cast [hb5])
  ·refine VC.skip ?_;obtain ⟨r6,hr6,h⟩ := po_some h;refine vs [8] (fun K hK => ?_);push_cast;refine cp (c_verify_Verify hr6) ?_;push_cast;refine hK _ ?_;clear hK K;refine vs [6] (fun K hK => ?_);push_cast;refine hK _ ?_;clear hK K;refine VC.ret ?_;replace h := Option.some.inj h;subst h;exact en (by push_cast [hb5])
noncomputable def p_shift_may (a0 : T_Table) (a1 : T_Schema) (a2 : T_Prog) : Option (Int) :=
  po (p_table_May a0) fun r1 =>
  cond (!r1) (
  some 1) (
  po (p_shift_Fits a0.S a1 a2) fun r3 =>
  some r3)
theorem c_shift_may {a0 : T_Table} {a1 : T_Schema} {a2 : T_Prog} {r : Int} (h : p_shift_may a0 a1 a2 = some r) : Ctr prog 53 [.agg (enc_Table a0), .agg (enc_Schema a1), .agg (enc_Prog a2)] [] (ri r) [] := by
 unfold p_shift_may at h;refine Ctr.ofW tabOk func53 rfl call53 0 _ ntmps53 [.tmp 6] rfl rfl rfl (fun B => ?_);refine vs [3,4,5] (fun K hK => ?_);push_cast;refine hK _ ?_;clear hK K;refine VC.seq ?_;obtain ⟨r1,hr1,h⟩ := po_some h;refine vs [3,4,5,9] (fun K hK => ?_);push_cast;refine cp (c_table_May a0 hr1) ?_;push_cast;refine hK _ ?_;clear hK K;refine vc h (fun hb2 h => ?_) (fun hb2 h => ?_)
 ·refine vs [6] (fun K hK => ?_);push_cast;refine hK _ ?_;clear hK K;refine VC.ret ?_;replace h := Option.some.inj h;subst h;exact en (by push_cast [hb2])
 ·refine VC.skip ?_;obtain ⟨r3,hr3,h⟩ := po_some h;refine vs [6] (fun K hK => ?_);push_cast;refine cp (c_shift_Fits hr3) ?_;push_cast;refine hK _ ?_;clear hK K;refine VC.ret ?_;replace h := Option.some.inj h;subst h;exact en (by push_cast [hb2])
noncomputable def p_interp_frame_alu (a0 : T_interp_frame) (a0_r : T_interp_run) (a1 : T_Inst) : Option (T_interp_frame × T_interp_run) :=
  none
theorem c_interp_frame_alu {a0 : T_interp_frame} {a0_r : T_interp_run} {a1 : T_Inst} {r : T_interp_frame × T_interp_run} (h : p_interp_frame_alu a0 a0_r a1 = some r) : Ctr prog 198 [.ref 0 0, .agg (enc_Inst a1)] [(0, .box 283 (enc_interp_frame a0 (.ref 1 0))), (1, .box 259 (enc_interp_run a0_r))] (.tup []) [(0, .box 283 (enc_interp_frame r.1 (.ref 1 0))), (1, .box 259 (enc_interp_run r.2))] := by
 unfold p_interp_frame_alu at h;refine Ctr.ofW tabOk func198 rfl call198 2 _ ntmps198 [] rfl rfl rfl (fun B => ?_);cases h
noncomputable def p_interp_frame_call (a0 : T_interp_frame) (a0_r : T_interp_run) (a1 : T_Inst) : Option (T_interp_frame × T_interp_run) :=
  none
theorem c_interp_frame_call {a0 : T_interp_frame} {a0_r : T_interp_run} {a1 : T_Inst} {r : T_interp_frame × T_interp_run} (h : p_interp_frame_call a0 a0_r a1 = some r) : Ctr prog 202 [.ref 0 0, .agg (enc_Inst a1)] [(0, .box 283 (enc_interp_frame a0 (.ref 1 0))), (1, .box 259 (enc_interp_run a0_r))] (.tup []) [(0, .box 283 (enc_interp_frame r.1 (.ref 1 0))), (1, .box 259 (enc_interp_run r.2))] := by
 unfold p_interp_frame_call at h;refine Ctr.ofW tabOk func202 rfl call202 2 _ ntmps202 [] rfl rfl rfl (fun B => ?_);cases h
noncomputable def p_interp_run_fail (a0 : T_interp_run) (a1 : Int) : Option (T_interp_run) :=
  cond (a0.err == 0) (
  some (T_interp_run.mk a0.p a0.e a0.fuel a0.used a1)) (
  some a0)
theorem c_interp_run_fail {a0 : T_interp_run} {a1 : Int} {r : T_interp_run} (h : p_interp_run_fail a0 a1 = some r) : Ctr prog 204 [.ref 0 0, ri a1] [(0, .box 259 (enc_interp_run a0))] (.tup []) [(0, .box 259 (enc_interp_run r))] := by
 unfold p_interp_run_fail at h;refine Ctr.ofW tabOk func204 rfl call204 1 _ ntmps204 [] rfl rfl rfl (fun B => ?_);refine vs [0,1,8] (fun K hK => ?_);push_cast;refine hK _ ?_;clear hK K;refine vc h (fun hb1 h => ?_) (fun hb1 h => ?_)
 ·refine vl (fun K hK => ?_);push_cast;refine hK _ ?_;clear hK K;replace h := Option.some.inj h;subst h;exact eN (by push_cast [hb1])
 ·refine VC.skip ?_;replace h := Option.some.inj h;subst h;exact eN (by push_cast [hb1])
noncomputable def p_interp_frame_get_J1 (a0 : T_interp_frame) (a1 : Int) (s_1 : T_interp_run) : Option (UInt32 × T_interp_frame × T_interp_run) :=
  pg (0 ≤ a1 ∧ a1 < 8) <|
  some ((a0.regs.get a1.toNat), a0, s_1)
noncomputable def p_interp_frame_get (a0 : T_interp_frame) (a0_r : T_interp_run) (a1 : Int) : Option (UInt32 × T_interp_frame × T_interp_run) :=
  po (
  pg (0 ≤ a1 ∧ a1 < 8) <|
  cond (!(a0.set.get a1.toNat)) (
  po (p_interp_run_fail a0_r 10) fun r4 =>
  some r4) (
  some a0_r)) (fun x => p_interp_frame_get_J1 a0 a1 x)
theorem c_interp_frame_get {a0 : T_interp_frame} {a0_r : T_interp_run} {a1 : Int} {r : UInt32 × T_interp_frame × T_interp_run} (h : p_interp_frame_get a0 a0_r a1 = some r) : Ctr prog 224 [.ref 0 0, ri a1] [(0, .box 283 (enc_interp_frame a0 (.ref 1 0))), (1, .box 259 (enc_interp_run a0_r))] (ru r.1) [(0, .box 283 (enc_interp_frame r.2.1 (.ref 1 0))), (1, .box 259 (enc_interp_run r.2.2))] := by
 unfold p_interp_frame_get at h;refine Ctr.ofW tabOk func224 rfl call224 2 _ ntmps224 [.tmp 4] rfl rfl rfl (fun B => ?_);refine vs [0,1] (fun K hK => ?_);push_cast;refine hK _ ?_;clear hK K;refine vj h (fun x => ⟨[(0,.ref 0 0),(1,ri a1)],[(0,.box 283 (enc_interp_frame a0 (.ref 1 0))),(1,.box 259 (enc_interp_run x))],15,23,2⟩) (fun v1 h hk1 => ?_) ?_
 ·obtain ⟨hg2,h⟩ := pg_some h;have hg2n : a1.toNat < 8 := by omega
  refine vs [0,1,11] (fun K hK => ?_);push_cast [hg2,hg2n];(repeat refine .intro (by omega) ?_);refine hK _ ?_;clear hK K;refine vc h (fun hb3 h => ?_) (fun hb3 h => ?_)
  ·obtain ⟨r4,hr4,h⟩ := po_some h;refine vl (fun K hK => ?_);push_cast;refine ch (H := [(1,.box 259 (enc_interp_run a0_r))]) (Ctr.loH (Ctr.ren (Bij.swp 0 1 Bij.id) (c_interp_run_fail hr4) (by push_cast) (by push_cast))) (by push_cast) ?_;push_cast;refine hK _ ?_;clear hK K;refine ar h hk1 ?_;exact sl (by push_cast [hb3])
  ·refine VC.skip ?_;refine ar h hk1 ?_;exact sl (by push_cast [hb3])
 ·rintro s_1 (h : p_interp_frame_get_J1 a0 a1 s_1 = some r);(try push_cast);unfold p_interp_frame_get_J1 at h;obtain ⟨hg5,h⟩ := pg_some h;have hg5n : a1.toNat < 8 := by omega
  refine vs [4] (fun K hK => ?_);push_cast [hg5,hg5n];(repeat refine .intro (by omega) ?_);refine hK _ ?_;clear hK K;refine VC.ret ?_;replace h := Option.some.inj h;subst h;exact en (by push_cast)
noncomputable def p_interp_frame_exit (a0 : T_interp_frame) (a0_r : T_interp_run) (a1 : T_Inst) : Option (T_interp_frame × T_interp_run) :=
  po (p_interp_frame_get a0 a0_r 0) fun r1 =>
  some ((T_interp_frame.mk r1.2.1.fn r1.2.1.at_ r1.2.1.regs r1.2.1.set r1.2.1.stack true), r1.2.2)
theorem c_interp_frame_exit {a0 : T_interp_frame} {a0_r : T_interp_run} {a1 : T_Inst} {r : T_interp_frame × T_interp_run} (h : p_interp_frame_exit a0 a0_r a1 = some r) : Ctr prog 203 [.ref 0 0, .agg (enc_Inst a1)] [(0, .box 283 (enc_interp_frame a0 (.ref 1 0))), (1, .box 259 (enc_interp_run a0_r))] (.tup []) [(0, .box 283 (enc_interp_frame r.1 (.ref 1 0))), (1, .box 259 (enc_interp_run r.2))] := by
 unfold p_interp_frame_exit at h;refine Ctr.ofW tabOk func203 rfl call203 2 _ ntmps203 [] rfl rfl rfl (fun B => ?_);refine vs [0] (fun K hK => ?_);push_cast;refine hK _ ?_;clear hK K;obtain ⟨r1,hr1,h⟩ := po_some h;refine vs [0] (fun K hK => ?_);push_cast;refine ch (H := [(0,.box 283 (enc_interp_frame a0 (.ref 1 0))),(1,.box 259 (enc_interp_run a0_r))]) (Ctr.loH (Ctr.ren Bij.id (c_interp_frame_get hr1) (by push_cast) (by push_cast))) (by push_cast) ?_;push_cast;refine hK _ ?_;clear hK K;refine VC.sub (s' := ⟨[(0,.ref 0 0)],[(0,.box 283 (enc_interp_frame r1.2.1 (.ref 1 0))),(1,.box 259 (enc_interp_run r1.2.2))],5,9,2⟩) (so (by push_cast)) ?_;refine vl (fun K hK => ?_);push_cast;refine hK _ ?_;clear hK K;replace h := Option.some.inj h;subst h;exact eN (by push_cast)
noncomputable def p_interp_frame_help (a0 : T_interp_frame) (a0_r : T_interp_run) (a1 : T_Inst) : Option (T_interp_frame × T_interp_run) :=
  none
theorem c_interp_frame_help {a0 : T_interp_frame} {a0_r : T_interp_run} {a1 : T_Inst} {r : T_interp_frame × T_interp_run} (h : p_interp_frame_help a0 a0_r a1 = some r) : Ctr prog 201 [.ref 0 0, .agg (enc_Inst a1)] [(0, .box 283 (enc_interp_frame a0 (.ref 1 0))), (1, .box 259 (enc_interp_run a0_r))] (.tup []) [(0, .box 283 (enc_interp_frame r.1 (.ref 1 0))), (1, .box 259 (enc_interp_run r.2))] := by
 unfold p_interp_frame_help at h;refine Ctr.ofW tabOk func201 rfl call201 2 _ ntmps201 [] rfl rfl rfl (fun B => ?_);cases h
noncomputable def p_interp_frame_jump (a0 : T_interp_frame) (a0_r : T_interp_run) (a1 : T_Inst) : Option (T_interp_frame × T_interp_run) :=
  none
theorem c_interp_frame_jump {a0 : T_interp_frame} {a0_r : T_interp_run} {a1 : T_Inst} {r : T_interp_frame × T_interp_run} (h : p_interp_frame_jump a0 a0_r a1 = some r) : Ctr prog 199 [.ref 0 0, .agg (enc_Inst a1)] [(0, .box 283 (enc_interp_frame a0 (.ref 1 0))), (1, .box 259 (enc_interp_run a0_r))] (.tup []) [(0, .box 283 (enc_interp_frame r.1 (.ref 1 0))), (1, .box 259 (enc_interp_run r.2))] := by
 unfold p_interp_frame_jump at h;refine Ctr.ofW tabOk func199 rfl call199 2 _ ntmps199 [] rfl rfl rfl (fun B => ?_);cases h
noncomputable def p_interp_frame_put (a0 : T_interp_frame) (a0_r : T_interp_run) (a1 : Int) (a2 : UInt32) : Option (T_interp_frame × T_interp_run) :=
  pg (0 ≤ a1 ∧ a1 < 8) <|
  pl (a0.regs.set a1.toNat a2) fun y2 =>
  pl (a0.set.set a1.toNat true) fun y3 =>
  some ((T_interp_frame.mk a0.fn a0.at_ y2 y3 a0.stack a0.over), a0_r)
theorem c_interp_frame_put {a0 : T_interp_frame} {a0_r : T_interp_run} {a1 : Int} {a2 : UInt32} {r : T_interp_frame × T_interp_run} (h : p_interp_frame_put a0 a0_r a1 a2 = some r) : Ctr prog 197 [.ref 0 0, ri a1, ru a2] [(0, .box 283 (enc_interp_frame a0 (.ref 1 0))), (1, .box 259 (enc_interp_run a0_r))] (.tup []) [(0, .box 283 (enc_interp_frame r.1 (.ref 1 0))), (1, .box 259 (enc_interp_run r.2))] := by
 unfold p_interp_frame_put at h;refine Ctr.ofW tabOk func197 rfl call197 2 _ ntmps197 [] rfl rfl rfl (fun B => ?_);obtain ⟨hg1,h⟩ := pg_some h;have hg1n : a1.toNat < 8 := by omega
 obtain ⟨y2,hy2,h⟩ := pl_some h;obtain ⟨y3,hy3,h⟩ := pl_some h;refine vlD [some 6,some 7,some 8,some 9,some 10,some 11,some 12,some 13,none,some 14,some 15,some 16,none] (fun K hK => ?_);refine runD_cut 8 (fun K2 hK2 => ?_);push_cast [hg1,hg1n];(repeat refine .intro (by omega) ?_);refine hK2 _ _ _ ?_;clear hK2 K2;simp only [List.drop_succ_cons,List.drop_zero];push_cast [hg1,hg1n];(repeat refine .intro (by omega) ?_);refine ⟨rfl,hK _ ?_⟩;clear hK K;replace h := Option.some.inj h;subst h;exact eN (by push_cast [hy2,hy3])
noncomputable def p_interp_frame_word (a0 : T_interp_frame) (a0_r : T_interp_run) (a1 : T_Inst) : Option (UInt32 × T_interp_frame × T_interp_run) :=
  cond a1.Reg (
  po (p_interp_frame_get a0 a0_r a1.Src) fun r2 =>
  some (r2.1, r2.2.1, r2.2.2)) (
  some (a1.Imm, a0, a0_r))
theorem c_interp_frame_word {a0 : T_interp_frame} {a0_r : T_interp_run} {a1 : T_Inst} {r : UInt32 × T_interp_frame × T_interp_run} (h : p_interp_frame_word a0 a0_r a1 = some r) : Ctr prog 223 [.ref 0 0, .agg (enc_Inst a1)] [(0, .box 283 (enc_interp_frame a0 (.ref 1 0))), (1, .box 259 (enc_interp_run a0_r))] (ru r.1) [(0, .box 283 (enc_interp_frame r.2.1 (.ref 1 0))), (1, .box 259 (enc_interp_run r.2.2))] := by
 unfold p_interp_frame_word at h;refine Ctr.ofW tabOk func223 rfl call223 2 _ ntmps223 [.tmp 4] rfl rfl rfl (fun B => ?_);refine vs [0,3] (fun K hK => ?_);push_cast;refine hK _ ?_;clear hK K;refine VC.seq ?_;refine vs [0,3,6] (fun K hK => ?_);push_cast;refine hK _ ?_;clear hK K;refine vc h (fun hb1 h => ?_) (fun hb1 h => ?_)
 ·obtain ⟨r2,hr2,h⟩ := po_some h;refine vs [4] (fun K hK => ?_);push_cast;refine ch (H := [(0,.box 283 (enc_interp_frame a0 (.ref 1 0))),(1,.box 259 (enc_interp_run a0_r))]) (Ctr.loH (Ctr.ren Bij.id (c_interp_frame_get hr2) (by push_cast) (by push_cast))) (by push_cast) ?_;push_cast;refine hK _ ?_;clear hK K;refine VC.sub (s' := ⟨[(4,ru r2.1)],[(0,.box 283 (enc_interp_frame r2.2.1 (.ref 1 0))),(1,.box 259 (enc_interp_run r2.2.2))],11,13,2⟩) (so (by push_cast [hb1])) ?_;refine VC.ret ?_;replace h := Option.some.inj h;subst h;exact en (by push_cast [hb1])
 ·refine VC.skip ?_;refine vs [4] (fun K hK => ?_);push_cast;refine hK _ ?_;clear hK K;refine VC.ret ?_;replace h := Option.some.inj h;subst h;exact en (by push_cast [hb1])
noncomputable def p_interp_frame_words (a0 : T_interp_frame) (a0_r : T_interp_run) (a1 : T_Inst) : Option (T_interp_frame × T_interp_run) :=
  pg (0 ≤ 0 ∧ 0 ≤ 16 ∧ 16 ≤ 16) <|
  po (p_interp_frame_word a0 a0_r a1) fun r2 =>
  cond (a1.Op == 2) (
  pg (0 ≤ 0 ∧ 0 ≤ 4 ∧ 4 ≤ 4) <|
  cond (decide ((IntKind.u64.wrap (r2.1.toNat : Int)) ≥ 4)) (
  po (p_interp_run_fail r2.2.2 10) fun r6 =>
  some (r2.2.1, r6)) (
  pg (r2.1.toNat < 4) <|
  pl ((r2.2.2.e.Ctx.get r2.1.toNat)) fun c8 =>
  po (p_interp_frame_put r2.2.1 r2.2.2 a1.Dst c8) fun r9 =>
  some (r9.1, r9.2))) (
  cond (a1.Op == 3) (
  cond (decide ((IntKind.u64.wrap (r2.1.toNat : Int)) ≥ 16)) (
  po (p_interp_run_fail r2.2.2 10) fun r12 =>
  some (r2.2.1, r12)) (
  pg (r2.1.toNat < 16) <|
  pl ((r2.2.1.stack.get r2.1.toNat)) fun c14 =>
  po (p_interp_frame_put r2.2.1 r2.2.2 a1.Dst c14) fun r15 =>
  some (r15.1, r15.2))) (
  cond (a1.Op == 4) (
  po (p_interp_frame_get r2.2.1 r2.2.2 a1.Dst) fun r17 =>
  cond (decide ((IntKind.u64.wrap (r2.1.toNat : Int)) ≥ 16)) (
  po (p_interp_run_fail r17.2.2 10) fun r19 =>
  some (r17.2.1, r19)) (
  pg (r2.1.toNat < 16) <|
  pl (r17.2.1.stack.set r2.1.toNat r17.1) fun y21 =>
  some ((T_interp_frame.mk r17.2.1.fn r17.2.1.at_ r17.2.1.regs r17.2.1.set y21 r17.2.1.over), r17.2.2))) (
  some (r2.2.1, r2.2.2))))
theorem c_interp_frame_words {a0 : T_interp_frame} {a0_r : T_interp_run} {a1 : T_Inst} {r : T_interp_frame × T_interp_run} (h : p_interp_frame_words a0 a0_r a1 = some r) : Ctr prog 200 [.ref 0 0, .agg (enc_Inst a1)] [(0, .box 283 (enc_interp_frame a0 (.ref 1 0))), (1, .box 259 (enc_interp_run a0_r))] (.tup []) [(0, .box 283 (enc_interp_frame r.1 (.ref 1 0))), (1, .box 259 (enc_interp_run r.2))] := by
 unfold p_interp_frame_words at h;refine Ctr.ofW tabOk func200 rfl call200 2 _ ntmps200 [] rfl rfl rfl (fun B => ?_);refine vs [0,3] (fun K hK => ?_);push_cast;refine hK _ ?_;clear hK K;obtain ⟨hg1,h⟩ := pg_some h;refine vs [0,3,4] (fun K hK => ?_);push_cast [hg1];(repeat refine .intro (by omega) ?_);refine hK _ ?_;clear hK K;refine VC.sub (s' := ⟨[(0,.ref 0 0),(3,.ref 2 0),(4,.bsl 0 19 16)],[(0,.box 283 (enc_interp_frame a0 (.ref 1 0))),(1,.box 259 (enc_interp_run a0_r)),(2,.box 37 (enc_Inst a1))],8,68,2⟩) (so (by push_cast)) ?_;obtain ⟨r2,hr2,h⟩ := po_some h;refine vs [0,3,4,5] (fun K hK => ?_);push_cast;refine ch (H := [(0,.box 283 (enc_interp_frame a0 (.ref 1 0))),(1,.box 259 (enc_interp_run a0_r))]) (Ctr.loH (Ctr.ren Bij.id (c_interp_frame_word hr2) (by push_cast) (by push_cast))) (by push_cast) ?_;push_cast;refine hK _ ?_;clear hK K;refine VC.sub (s' := ⟨[(0,.ref 0 0),(3,.ref 2 0),(4,.bsl 0 19 16),(5,ru r2.1)],[(0,.box 283 (enc_interp_frame r2.2.1 (.ref 1 0))),(1,.box 259 (enc_interp_run r2.2.2)),(2,.box 37 (enc_Inst a1))],12,68,2⟩) (so (by push_cast)) ?_;refine vs [0,3,4,5,15] (fun K hK => ?_);push_cast;refine hK _ ?_;clear hK K;refine VC.block ?_;refine VC.seq ?_;refine VC.block ?_;refine VC.seq ?_;refine VC.block ?_;refine VC.seq ?_;refine VC.block ?_;refine VC.seq ?_;refine VC.seq ?_;refine vs [0,3,4,5,15,16] (fun K hK => ?_);push_cast;refine hK _ ?_;clear hK K;refine vc h (fun hb3 h => ?_) (fun hb3 h => ?_)
 ·refine VC.exit ?_;obtain ⟨hg4,h⟩ := pg_some h;refine vl (fun K hK => ?_);push_cast [hg4];(repeat refine .intro (by omega) ?_);refine hK _ ?_;clear hK K;refine VC.seq ?_;refine VC.seq ?_;refine vs [0,3,4,5,35] (fun K hK => ?_);push_cast;refine hK _ ?_;clear hK K;refine vc h (fun hb5 h => ?_) (fun hb5 h => ?_)
  ·obtain ⟨r6,hr6,h⟩ := po_some h;refine vs [] (fun K hK => ?_);push_cast;refine ch (H := [(1,.box 259 (enc_interp_run r2.2.2))]) (Ctr.loH (Ctr.ren (Bij.swp 0 1 Bij.id) (c_interp_run_fail hr6) (by push_cast) (by push_cast))) (by push_cast) ?_;push_cast;refine hK _ ?_;clear hK K;refine VC.sub (s' := ⟨[],[(0,.box 283 (enc_interp_frame r2.2.1 (.ref 1 0))),(1,.box 259 (enc_interp_run r6))],36,68,2⟩) (so (by push_cast [hb3,hb5])) ?_;refine VC.ret ?_;replace h := Option.some.inj h;subst h;exact en (by push_cast [hb3,hb5])
  ·refine VC.skip ?_;obtain ⟨hg7,h⟩ := pg_some h;obtain ⟨c8,hc8,h⟩ := pl_some h;have hc8i : (((r2.2.2.e.Ctx.get r2.1.toNat)).toNat : Int) = (c8.toNat : Int) := by rw [hc8]
   push_cast at hc8i;obtain ⟨r9,hr9,h⟩ := po_some h;refine vlD [some 41,some 42,some 43,some 44,some 45,some 46,some 47,some 48] (fun K hK => ?_);push_cast [hg7,hc8i];(repeat refine .intro (by omega) ?_);refine chD (H := [(0,.box 283 (enc_interp_frame r2.2.1 (.ref 1 0))),(1,.box 259 (enc_interp_run r2.2.2))]) (Ctr.loH (Ctr.ren Bij.id (c_interp_frame_put hr9) (by push_cast [hg7,hc8i]) (by push_cast [hg7,hc8i]))) (by push_cast [hg7,hc8i]) ?_;push_cast [hg7,hc8i];(repeat refine .intro (by omega) ?_);refine ⟨rfl,hK _ ?_⟩;clear hK K;refine VC.exit ?_;replace h := Option.some.inj h;subst h;exact eN (by push_cast [hb3,hb5,hc8i])
 ·refine VC.skip ?_;refine VC.seq ?_;refine vs [0,3,4,5,15,18] (fun K hK => ?_);push_cast;refine hK _ ?_;clear hK K;refine vc h (fun hb10 h => ?_) (fun hb10 h => ?_)
  ·refine VC.exit ?_;refine VC.seq ?_;refine VC.seq ?_;refine vs [0,3,4,5,35] (fun K hK => ?_);push_cast;refine hK _ ?_;clear hK K;refine vc h (fun hb11 h => ?_) (fun hb11 h => ?_)
   ·obtain ⟨r12,hr12,h⟩ := po_some h;refine vs [] (fun K hK => ?_);push_cast;refine ch (H := [(1,.box 259 (enc_interp_run r2.2.2))]) (Ctr.loH (Ctr.ren (Bij.swp 0 1 Bij.id) (c_interp_run_fail hr12) (by push_cast) (by push_cast))) (by push_cast) ?_;push_cast;refine hK _ ?_;clear hK K;refine VC.sub (s' := ⟨[],[(0,.box 283 (enc_interp_frame r2.2.1 (.ref 1 0))),(1,.box 259 (enc_interp_run r12))],29,68,2⟩) (so (by push_cast [hb3,hb10,hb11])) ?_;refine VC.ret ?_;replace h := Option.some.inj h;subst h;exact en (by push_cast [hb3,hb10,hb11])
   ·refine VC.skip ?_;obtain ⟨hg13,h⟩ := pg_some h;obtain ⟨c14,hc14,h⟩ := pl_some h;have hc14i : (((r2.2.1.stack.get r2.1.toNat)).toNat : Int) = (c14.toNat : Int) := by rw [hc14]
    push_cast at hc14i;obtain ⟨r15,hr15,h⟩ := po_some h;refine vlD [some 41,some 42,some 43,some 44,some 45,some 46,some 47,some 48] (fun K hK => ?_);push_cast [hg13,hc14i];(repeat refine .intro (by omega) ?_);refine chD (H := [(0,.box 283 (enc_interp_frame r2.2.1 (.ref 1 0))),(1,.box 259 (enc_interp_run r2.2.2))]) (Ctr.loH (Ctr.ren Bij.id (c_interp_frame_put hr15) (by push_cast [hg13,hc14i]) (by push_cast [hg13,hc14i]))) (by push_cast [hg13,hc14i]) ?_;push_cast [hg13,hc14i];(repeat refine .intro (by omega) ?_);refine ⟨rfl,hK _ ?_⟩;clear hK K;refine VC.exit ?_;replace h := Option.some.inj h;subst h;exact eN (by push_cast [hb3,hb10,hb11,hc14i])
  ·refine VC.skip ?_;refine vs [0,3,4,5,20] (fun K hK => ?_);push_cast;refine hK _ ?_;clear hK K;refine vc h (fun hb16 h => ?_) (fun hb16 h => ?_)
   ·refine VC.exit ?_;refine VC.seq ?_;obtain ⟨r17,hr17,h⟩ := po_some h;refine vs [0,4,5,6] (fun K hK => ?_);push_cast;refine ch (H := [(0,.box 283 (enc_interp_frame r2.2.1 (.ref 1 0))),(1,.box 259 (enc_interp_run r2.2.2))]) (Ctr.loH (Ctr.ren Bij.id (c_interp_frame_get hr17) (by push_cast) (by push_cast))) (by push_cast) ?_;push_cast;refine hK _ ?_;clear hK K;refine VC.sub (s' := ⟨[(0,.ref 0 0),(4,.bsl 0 19 16),(5,ru r2.1),(6,ru r17.1)],[(0,.box 283 (enc_interp_frame r17.2.1 (.ref 1 0))),(1,.box 259 (enc_interp_run r17.2.2))],25,68,2⟩) (so (by push_cast [hb3,hb10,hb16])) ?_;refine VC.seq ?_;refine vs [0,4,5,6,58] (fun K hK => ?_);push_cast;refine hK _ ?_;clear hK K;refine vc h (fun hb18 h => ?_) (fun hb18 h => ?_)
    ·obtain ⟨r19,hr19,h⟩ := po_some h;refine vs [] (fun K hK => ?_);push_cast;refine ch (H := [(1,.box 259 (enc_interp_run r17.2.2))]) (Ctr.loH (Ctr.ren (Bij.swp 0 1 Bij.id) (c_interp_run_fail hr19) (by push_cast) (by push_cast))) (by push_cast) ?_;push_cast;refine hK _ ?_;clear hK K;refine VC.sub (s' := ⟨[],[(0,.box 283 (enc_interp_frame r17.2.1 (.ref 1 0))),(1,.box 259 (enc_interp_run r19))],36,68,2⟩) (so (by push_cast [hb3,hb10,hb16,hb18])) ?_;refine VC.ret ?_;replace h := Option.some.inj h;subst h;exact en (by push_cast [hb3,hb10,hb16,hb18])
    ·refine VC.skip ?_;obtain ⟨hg20,h⟩ := pg_some h;obtain ⟨y21,hy21,h⟩ := pl_some h;refine vl (fun K hK => ?_);push_cast [hg20];(repeat refine .intro (by omega) ?_);refine hK _ ?_;clear hK K;refine VC.exit ?_;replace h := Option.some.inj h;subst h;exact eN (by push_cast [hb3,hb10,hb16,hb18,hy21])
   ·refine VC.skip ?_;refine VC.exit ?_;replace h := Option.some.inj h;subst h;exact eN (by push_cast [hb3,hb10,hb16])
end Go.Proofs.YtcffmheeofjifaaGreat
