/- Packed texts: Gd, Gv, Fx, Fy, Fz, Gn, Waludeeds1, Waludeeds10, Waludeeds11, Waludeeds2, Waludeeds3, Waludeeds4, Waludeeds5, Waludeeds6, Waludeeds7, Waludeeds8, Waludeeds9, Waludeeds, WaluDo, Wboundsspantold, Wboundsfit, Wboundsword, WboundsMay, Wboundsof, Wboundsrules1, Wboundsrules10, Wboundsrules11, Wboundsrules2, Wboundsrules3, Wboundsrules4, Wboundsrules5, Wboundsrules6, Wboundsrules7, Wboundspower, Wboundsrules8, Wboundsrules9, Wboundsrules, WboundsAlu, WboundsEnds, WboundsJoin, WboundsOf, Uarenaend, It, Gp, Ge, Winstin, Winstrules, WinstMay, Wcoursemay1, Wprogfine1, WslicesIndexFuncapiInstapiInstprogfine1, WslicesContainsFuncapiInstapiInstprogfine1, WslicesIndexFuncapiInstapiInstcoursemay1, WslicesContainsFuncapiInstapiInstcoursemay1, Wcoursemay, Wcoursenext, WcourseLongest, Wprogfine, WprogMay1. -/
import Derived.Test.YtcffmheeofjifaaGreatSd3
import Derived.ScopeJumps
import Derived.RangeFuncMany
set_option linter.unusedVariables false
set_option linter.unusedSimpArgs false
set_option maxHeartbeats 4000000
set_option maxRecDepth 100000
namespace Go.Proofs.YtcffmheeofjifaaGreat
open Go Go.RowKit Go.Proofs.Tryz
/-! ### Parts, one behind the other -/
section
variable {P : Program} {nid : Nat} {s : St} {K : AV → Wr → Prop} {K2 : List Ky → AV → Wr → Prop} {rs : List Ky} {c : Bool} {i : Nat} {r : List (Nat × Operand)} {k : List (Nat × AV) → Q}
theorem parts_nil : partsQ c [] k = k [] := Eq.trans rfl rfl
theorem wpQ_partT (t : Nat) : wpQ P nid s (partsQ c ((i, .tmp t) :: r) k) K = wpS (fun v => wpQ P nid s (strip c v fun v => partsQ c r fun l => k ((i, v) :: l)) K) (look s.tm t) := by
  simp only [partsQ, opd, opd0, wpQ_slot]
theorem wpQ_partF (f : FuncId) : wpQ P nid s (partsQ c ((i, .func f) :: r) k) K = wpQ P nid s (partsQ c r fun l => k ((i, .fn (.func f) [] []) :: l)) K := Eq.trans rfl rfl
theorem wpQ_partC (v : Value) : wpQ P nid s (partsQ c ((i, .const v) :: r) k) K = wpQ P nid s (strip c (ofV v) fun v => partsQ c r fun l => k ((i, v) :: l)) K := Eq.trans rfl rfl
theorem wpQD_partT (t : Nat) : wpQD P nid s (partsQ c ((i, .tmp t) :: r) k) rs K2 = wpS (fun v => wpQD P nid s (strip c v fun v => partsQ c r fun l => k ((i, v) :: l)) (.t t :: rs) K2) (look s.tm t) := by
  simp only [partsQ, opd, opd0, wpQD_slot]
theorem wpQD_partF (f : FuncId) : wpQD P nid s (partsQ c ((i, .func f) :: r) k) rs K2 = wpQD P nid s (partsQ c r fun l => k ((i, .fn (.func f) [] []) :: l)) rs K2 := Eq.trans rfl rfl
theorem wpQD_partC (v : Value) : wpQD P nid s (partsQ c ((i, .const v) :: r) k) rs K2 = wpQD P nid s (strip c (ofV v) fun v => partsQ c r fun l => k ((i, v) :: l)) rs K2 := Eq.trans rfl rfl
attribute [push_cast] parts_nil wpQ_partT wpQ_partF wpQ_partC wpQD_partT wpQD_partF wpQD_partC
end
theorem wrap_u64_0 : IntKind.u64.wrap 0 = 0 := by decide
theorem wrap_u64_1 : IntKind.u64.wrap 1 = 1 := by decide
theorem wrap_u64_2 : IntKind.u64.wrap 2 = 2 := by decide
theorem wrap_u64_4 : IntKind.u64.wrap 4 = 4 := by decide
theorem wrap_u64_5 : IntKind.u64.wrap 5 = 5 := by decide
theorem wrap_u64_8 : IntKind.u64.wrap 8 = 8 := by decide
theorem wrap_u64_16 : IntKind.u64.wrap 16 = 16 := by decide
theorem wrap_u32_0 : IntKind.u32.wrap 0 = 0 := by decide
theorem wrap_u32_1 : IntKind.u32.wrap 1 = 1 := by decide
theorem wrap_u32_2 : IntKind.u32.wrap 2 = 2 := by decide
theorem wrap_u32_4 : IntKind.u32.wrap 4 = 4 := by decide
theorem wrap_u32_5 : IntKind.u32.wrap 5 = 5 := by decide
theorem wrap_u32_8 : IntKind.u32.wrap 8 = 8 := by decide
theorem wrap_u32_16 : IntKind.u32.wrap 16 = 16 := by decide
theorem wrap_i64_0 : IntKind.i64.wrap 0 = 0 := by decide
theorem wrap_i64_1 : IntKind.i64.wrap 1 = 1 := by decide
theorem wrap_i64_2 : IntKind.i64.wrap 2 = 2 := by decide
theorem wrap_i64_4 : IntKind.i64.wrap 4 = 4 := by decide
theorem wrap_i64_5 : IntKind.i64.wrap 5 = 5 := by decide
theorem wrap_i64_8 : IntKind.i64.wrap 8 = 8 := by decide
theorem wrap_i64_16 : IntKind.i64.wrap 16 = 16 := by decide
attribute [push_cast] wrap_u64_0 wrap_u64_1 wrap_u64_2 wrap_u64_4 wrap_u64_5 wrap_u64_8 wrap_u64_16 wrap_u32_0 wrap_u32_1 wrap_u32_2 wrap_u32_4 wrap_u32_5 wrap_u32_8 wrap_u32_16 wrap_i64_0 wrap_i64_1 wrap_i64_2 wrap_i64_4 wrap_i64_5 wrap_i64_8 wrap_i64_16
/-! ### An open place of four words among other cells -/
theorem at4_0 (a : A4 UInt32) (r : List AV) {n : Nat} (h : n < 4) : (.raw (.int .u32 (a.a0.toNat : Int)) :: .raw (.int .u32 (a.a1.toNat : Int)) :: .raw (.int .u32 (a.a2.toNat : Int)) :: .raw (.int .u32 (a.a3.toNat : Int)) :: r : List AV)[n]? = some (.raw (.int .u32 ((a.get n).toNat : Int))) := by
  rcases A4.cases h with rfl | rfl | rfl | rfl <;> rfl
theorem at4_1 (a : A4 UInt32) (c : AV) (r : List AV) {n : Nat} (h : n < 4) : (c :: .raw (.int .u32 (a.a0.toNat : Int)) :: .raw (.int .u32 (a.a1.toNat : Int)) :: .raw (.int .u32 (a.a2.toNat : Int)) :: .raw (.int .u32 (a.a3.toNat : Int)) :: r : List AV)[1 + n]? = some (.raw (.int .u32 ((a.get n).toNat : Int))) := by
  rcases A4.cases h with rfl | rfl | rfl | rfl <;> rfl
attribute [push_cast] at4_0 at4_1
def ri (n : Int) : AV := .raw (.int .i64 n)
def ru (x : UInt32) : AV := .raw (.int .u32 (x.toNat : Int))
def rb (b : Bool) : AV := .raw (.bool b)
theorem ri_ (n : Int) : ri n = .raw (.int .i64 n) := Eq.trans rfl rfl
theorem ru_ (x : UInt32) : ru x = .raw (.int .u32 (x.toNat : Int)) := Eq.trans rfl rfl
theorem rb_ (b : Bool) : rb b = .raw (.bool b) := Eq.trans rfl rfl
attribute [push_cast] ri_ ru_ rb_
section
variable {B : Base} {Q : Exit → St → Prop} {s s' : St} {x y : Code} {id : Nat} {ops : List Oper}
theorem vs (l : List Nat) (h : ∀ K : St → Prop, (∀ s', VC prog B y Q s' → K s') → runOps evOperF prog tab (ops.map (·.dst)) ops 0 s fun s' => K (s'.keep l)) (hd : dstOk ops.toArray s.nt = true := by exact rfl) : VC prog B (.seq (.region id ops.toArray false) y) Q s := VC.seqF tabOkF _ l rfl hd h
theorem vl (h : ∀ K : St → Prop, (∀ s', Q .normal s' → K s') → runOps evOperF prog tab (ops.map (·.dst)) ops 0 s fun s' => K s') (hd : dstOk ops.toArray s.nt = true := by exact rfl) : VC prog B (.region id ops.toArray false) Q s := VC.lastF tabOkF _ rfl hd h
theorem vlG (ds : List (Option Nat)) (h : ∀ K : St → Prop, (∀ s', Q .normal s' → K s') → runOps evOperF prog tab ds ops 0 s fun s' => K s') (hds : ops.map (·.dst) = ds := by exact rfl) (hd : dstOk ops.toArray s.nt = true := by exact rfl) : VC prog B (.region id ops.toArray false) Q s := VC.lastF tabOkF _ hds hd h
theorem vsD (ds : List (Option Nat)) (l : List Nat) (h : ∀ K : St → Prop, (∀ s', VC prog B y Q s' → K s') → runD evOperF prog tab ds ops 0 s [] fun recs s' => ordOk (befs ops []) recs = true ∧ K (s'.keep l)) (hds : ops.map (·.dst) = ds := by exact rfl) (hd : dstOk ops.toArray s.nt = true := by exact rfl) (hb : backOk ops.toArray = true := by exact rfl) : VC prog B (.seq (.region id ops.toArray true) y) Q s := VC.seqFD tabOkF hmixO ds l hds hd hb h
theorem vlD (ds : List (Option Nat)) (h : ∀ K : St → Prop, (∀ s', Q .normal s' → K s') → runD evOperF prog tab ds ops 0 s [] fun recs s' => ordOk (befs ops []) recs = true ∧ K s') (hds : ops.map (·.dst) = ds := by exact rfl) (hd : dstOk ops.toArray s.nt = true := by exact rfl) (hb : backOk ops.toArray = true := by exact rfl) : VC prog B (.region id ops.toArray true) Q s := VC.lastFD tabOkF hmixO ds hds hd hb h
theorem vc {t : Nat} {b : Bool} {α : Type} {u v : Option α} {r : α} (h : cond b u v = some r) (ht : b = true → u = some r → VC prog B x Q s) (hf : b = false → v = some r → VC prog B y Q s) (hl : look s.tm t = some (.raw (.bool b)) := by exact rfl) : VC prog B (.cond (.tmp t) x y) Q s :=
  VC.cond rfl hl (fun hb => ht hb (cond_yes hb h)) (fun hb => hf hb (cond_no hb h))
theorem vj {X R : Type} {m : Option X} {k : X → Option R} {r : R} (h : po m k = some r) (S : X → St) (hx : ∀ v, m = some v → k v = some r → VC prog B x (thn (fun s' => ∃ v, k v = some r ∧ Sub s' (S v)) Q) s) (hy : ∀ v, k v = some r → VC prog B y Q (S v)) : VC prog B (.seq x y) Q s :=
  let ⟨v, h1, h2⟩ := po_some h
  VC.seqJ (fun v => k v = some r) S (hx v h1 h2) hy
theorem vm {X R : Type} {m : Option (X ⊕ R)} {k : X → Option R} {r : R} (h : pm m k = some r) (S : X → St) (hx : ∀ v, m = some v → finM k r v → VC prog B x (thn (fun s' => ∃ v, k v = some r ∧ Sub s' (S v)) Q) s) (hy : ∀ v, k v = some r → VC prog B y Q (S v)) : VC prog B (.seq x y) Q s :=
  let ⟨v, h1, h2⟩ := pm_some h
  VC.seqJ (fun v => k v = some r) S (hx v h1 h2) hy
theorem ar {X R : Type} {k : X → Option R} {r : R} {a v : X} {P : X → Prop} (h : some a = some v) (hk : k v = some r) (hp : P a) : ∃ v, k v = some r ∧ P v := ⟨a, Option.some.inj h ▸ hk, hp⟩
theorem am {X R : Type} {k : X → Option R} {r : R} {a : X} {v : X ⊕ R} {P : X → Prop} (h : some (Sum.inl a) = some v) (hk : finM k r v) (hp : P a) : ∃ v, k v = some r ∧ P v := ⟨a, (by have := Option.some.inj h; subst this; exact hk), hp⟩
theorem om {X R : Type} {k : X → Option R} {r a : R} {v : X ⊕ R} (h : some (Sum.inr a) = some v) (hk : finM k r v) : some a = some r := by
  have := Option.some.inj h
  subst this
  exact hk
theorem bk {X R : Type} {a : X} {b : X ⊕ R} {P : X → Prop} (h : some (Sum.inl a) = some b) (hp : P a) : ∃ v, b = .inl v ∧ P v := ⟨a, (Option.some.inj h).symm, hp⟩
theorem ol {X R : Type} {a v : R} {b : X ⊕ R} (h : some (Sum.inr a) = some b) (hf : ∀ p, b = .inr p → p = v) : some a = some v := congrArg some (hf _ (Option.some.inj h).symm)
theorem so (h : (∀ p ∈ s'.tm, look s.tm p.1 = some p.2) ∧ ∀ p ∈ s'.hp, look s.hp p.1 = some p.2) (h3 : (s'.nt == s.nt && (s'.lo == s.lo && Nat.ble s'.lo s'.nx)) = true := by exact rfl) (h4 : s'.wf = true := by exact rfl) : Sub s s' := by
  simp only [Bool.and_eq_true, beq_iff_eq] at h3
  exact Sub.of h.1 h.2 ⟨h3.1, h3.2.1, Nat.le_of_ble_eq_true h3.2.2⟩ h4
theorem sl (h : (∀ p ∈ s'.tm, look s.lo_.tm p.1 = some p.2) ∧ ∀ p ∈ s'.hp, look s.lo_.hp p.1 = some p.2) (h3 : (s'.nt == s.lo_.nt && (s'.lo == s.lo_.lo && Nat.ble s'.lo s'.nx)) = true := by exact rfl) (h4 : s'.wf = true := by exact rfl) : Sub s s' := Sub.trans (Sub.lo s) (so h h3 h4)
theorem en {rs : List ResultVar} {r : AV} {H' : Hp} (h : (resL tab s.lo_ rs).map resAV = some r ∧ ∀ p ∈ H', look s.lo_.hp p.1 = some p.2) (h3 : (r.in3 H'.has && H'.all fun p => p.2.inD H'.has) = true := by exact rfl) : ∃ s'', Sub s s'' ∧ Post tab rs r H' .ret s'' := ⟨_, Sub.lo s, Post.ret h.1 h.2 h3⟩
theorem eN {rs : List ResultVar} {r : AV} {H' : Hp} (h : (resL tab s.lo_ rs).map resAV = some r ∧ ∀ p ∈ H', look s.lo_.hp p.1 = some p.2) (h3 : (r.in3 H'.has && H'.all fun p => p.2.inD H'.has) = true := by exact rfl) : ∃ s'', Sub s s'' ∧ Post tab rs r H' .normal s'' := ⟨_, Sub.lo s, Post.nrm h.1 h.2 h3⟩
variable {nid : Nat} {K : AV → Wr → Prop} {K2 : List Ky → AV → Wr → Prop} {rs : List Ky} {f : FuncId} {args : List AV} {r : AV}
theorem cp (hc : Ctr prog f (args.map AV.lo) [] r []) (h : K r []) (ha : (args.all (AV.in3 (Hp.has []))) = true := by exact rfl) : wpQ prog nid s (.call none f args) K := callP (Ctr.lo hc) ha h
theorem cpD (hc : Ctr prog f (args.map AV.lo) [] r []) (h : K2 rs r []) (ha : (args.all (AV.in3 (Hp.has []))) = true := by exact rfl) : wpQD prog nid s (.call none f args) rs K2 := callPD (Ctr.lo hc) ha h
theorem ch {H H' : Hp} (hc : Ctr prog f args H r H') (hl : ∀ p ∈ H, look s.hp p.1 = some p.2) (h : K r (callW H H')) (ha : (args.all (AV.in3 H.has)) = true := by exact rfl) (hi : (H.all fun p => p.2.inD H.has) = true := by exact rfl) (hh : (H'.all fun p => H.has p.1 || p.1 == nid) = true := by exact rfl) : wpQ prog nid s (.call none f args) K := callH hc hl ha hi hh h
theorem chD {H H' : Hp} (hc : Ctr prog f args H r H') (hl : ∀ p ∈ H, look s.hp p.1 = some p.2) (h : K2 (H.map (fun p => Ky.o p.1) ++ rs) r (callW H H')) (ha : (args.all (AV.in3 H.has)) = true := by exact rfl) (hi : (H.all fun p => p.2.inD H.has) = true := by exact rfl) (hh : (H'.all fun p => H.has p.1 || p.1 == nid) = true := by exact rfl) : wpQD prog nid s (.call none f args) rs K2 := callHD hc hl ha hi hh h
theorem chR {H H' : Hp} (hc : Ctr prog f args H r H') (he : H' = H) (hl : ∀ p ∈ H, look s.hp p.1 = some p.2) (h : K r []) (ha : (args.all (AV.in3 H.has)) = true := by exact rfl) (hi : (H.all fun p => p.2.inD H.has) = true := by exact rfl) : wpQ prog nid s (.call none f args) K := callR hc he hl ha hi h
theorem chRD {H H' : Hp} (hc : Ctr prog f args H r H') (he : H' = H) (hl : ∀ p ∈ H, look s.hp p.1 = some p.2) (h : K2 (H.map (fun p => Ky.o p.1) ++ rs) r []) (ha : (args.all (AV.in3 H.has)) = true := by exact rfl) (hi : (H.all fun p => p.2.inD H.has) = true := by exact rfl) : wpQD prog nid s (.call none f args) rs K2 := callRD hc he hl ha hi h
end
theorem gL {α : Type} {l : List α} {n : Nat} {a : α} (h : l[n]? = some a) : l[n]? = some a ∧ n < l.length ∧ (n : Int) < (l.length : Int) := ⟨h, get_lt h, get_ltI h⟩
def jmp (l : Nat) (G : St → Prop) (Q : Exit → St → Prop) : Exit → St → Prop
  | .goto l', s => l' = l ∧ G s
  | e, s => Q e s
section
variable {P : Program} {B : Base} {Q : Exit → St → Prop} {s : St} {c rest : Code}
theorem VC.wide (hB : B.rd = none) : VC P B c Q s ↔ ∀ a w, SRel B s a w → c.wp P (fun e a' w' => ∃ s', Q e s' ∧ SRel B s' a' w') a w := by
  unfold VC
  rw [hB]
  exact forall_congr' fun a => forall_congr' fun w => forall_congr' fun _ => wpIn_wide
theorem VC.jumps (hB : B.rd = none) {l : Nat} {X : Type} (hf : findLabel c l = some rest) (S : X → St) (I : X → Prop) (μ : X → Nat) (first : VC P B c (jmp l (fun s' => ∃ x, I x ∧ Sub s' (S x)) Q) s)
    (pass : ∀ x, I x → VC P B rest (jmp l (fun s' => ∃ x', I x' ∧ μ x' < μ x ∧ Sub s' (S x')) Q) (S x)) : VC P B (.scope c) Q s := (VC.wide hB).2 fun a w hs => by
  let J : Nat → Act → World → Prop := fun n a w => ∃ x, I x ∧ μ x = n ∧ SRel B (S x) a w
  have least : ∀ a w, (∃ n, J n a w) → ∃ n, J n a w ∧ ∀ m, J m a w → n ≤ m := by
    intro a w ⟨n, hn⟩
    induction n using Nat.strongRecOn with
    | _ n ih =>
      by_cases h : ∃ m, m < n ∧ J m a w
      · obtain ⟨m, h1, h2⟩ := h
        exact ih m h1 h2
      · exact ⟨n, hn, fun m hm => Nat.le_of_not_lt fun hlt => h ⟨m, hlt, hm⟩⟩
  open Classical in
  refine wp_scope_jumps l (fun a w => ∃ n, J n a w) (fun a w => if h : ∃ n, J n a w then Classical.choose (least a w h) else 0) hf ?_ ?_
  · refine wp_mono ((VC.wide hB).1 first a w hs) ?_
    rintro e a' w' ⟨s', h3, h4⟩
    cases e with
    | goto l' =>
      obtain ⟨rfl, x, h5, h6⟩ := h3
      exact ⟨rfl, _, x, h5, rfl, h6 B a' w' h4⟩
    | _ => exact ⟨s', h3, h4⟩
  · intro a w hJ
    obtain ⟨h1, h2⟩ := Classical.choose_spec (least a w hJ)
    obtain ⟨x, hx1, hx2, hx3⟩ := h1
    refine wp_mono ((VC.wide hB).1 (pass x hx1) a w hx3) ?_
    rintro e a' w' ⟨s', h3, h4⟩
    cases e with
    | goto l' =>
      obtain ⟨rfl, x', h5, h6, h7⟩ := h3
      have hJ' : J (μ x') a' w' := ⟨x', h5, rfl, h7 B a' w' h4⟩
      refine ⟨rfl, ⟨_, hJ'⟩, ?_⟩
      show (if h : ∃ n, J n a' w' then Classical.choose (least a' w' h) else 0) < (if h : ∃ n, J n a w then Classical.choose (least a w h) else 0)
      rw [dif_pos ⟨_, hJ'⟩, dif_pos hJ]
      have h8 := (Classical.choose_spec (least a' w' ⟨_, hJ'⟩)).2 _ hJ'
      omega
    | _ => exact ⟨s', h3, h4⟩
theorem VC.goto {l : Nat} (h : Q (.goto l) s) : VC P B (.goto l) Q s := fun a w hs => wpIn_goto ⟨s, h, hs⟩
theorem VC.jumpsP (hB : B.rd = none) {l : Nat} {σ ρ : Type} {step : σ → Option (σ ⊕ ρ)} (hf : findLabel c l = some rest) (S : σ → St)
    (first : VC P B c (jmp l (fun s' => ∃ x v, lpU step x = some v ∧ Sub s' (S x) ∧ ∀ x b, step x = some b → (∀ p, b = .inr p → p = v) → VC P B rest (jmp l (fun s' => ∃ x', b = .inl x' ∧ Sub s' (S x')) Q) (S x)) Q) s) : VC P B (.scope c) Q s := by
  refine VC.jumps hB (X := σ × Nat × ρ) hf (fun q => S q.1) (fun q => iterU step q.2.1 q.1 = some q.2.2 ∧ ∀ x b, step x = some b → (∀ p, b = .inr p → p = q.2.2) → VC P B rest (jmp l (fun s' => ∃ x', b = .inl x' ∧ Sub s' (S x')) Q) (S x)) (fun q => q.2.1) (VC.mono first fun e s' h => ?_) ?_
  · cases e with
    | goto l' =>
      obtain ⟨rfl, x, v, h1, h2, h3⟩ := h
      obtain ⟨n, hn⟩ := lpU_some.1 h1
      exact ⟨rfl, (x, n, v), ⟨hn, h3⟩, h2⟩
    | _ => exact h
  · rintro ⟨x, n, v⟩ ⟨hn, round⟩
    simp only at hn round
    cases n with
    | zero => cases hn
    | succ n =>
      simp only [iterU] at hn
      split at hn
      · cases hn
      · rename_i s' hst
        refine VC.mono (round x (.inl s') hst fun p hp => by cases hp) fun e s'' h => ?_
        cases e with
        | goto l' =>
          obtain ⟨rfl, x', hx', hsub⟩ := h
          injection hx' with hx'
          subst hx'
          exact ⟨rfl, (s', n, v), ⟨hn, round⟩, Nat.lt_succ_self n, hsub⟩
        | _ => exact h
      · rename_i r hst
        injection hn with hn
        subst hn
        refine VC.mono (round x (.inr r) hst fun p hp => by injection hp with hp; exact hp.symm) fun e s'' h => ?_
        cases e with
        | goto l' =>
          obtain ⟨rfl, x', hx', hsub⟩ := h
          cases hx'
        | _ => exact h
theorem VC.labelP {l : Nat} {σ ρ : Type} {step : σ → Option (σ ⊕ ρ)} {x0 : σ} {v : ρ} (h : lpU step x0 = some v) (S : σ → St) (hs : Sub s (S x0))
    (round : ∀ x b, step x = some b → (∀ p, b = .inr p → p = v) → VC P B rest (jmp l (fun s' => ∃ x', b = .inl x' ∧ Sub s' (S x')) Q) (S x)) :
    VC P B (.seq (.label l) rest) (jmp l (fun s' => ∃ x v, lpU step x = some v ∧ Sub s' (S x) ∧ ∀ x b, step x = some b → (∀ p, b = .inr p → p = v) → VC P B (.seq .skip rest) (jmp l (fun s' => ∃ x', b = .inl x' ∧ Sub s' (S x')) Q) (S x)) Q) s := by
  refine VC.seq (VC.label ?_)
  show VC P B rest _ s
  refine VC.sub hs ?_
  have rounds : ∀ x b, step x = some b → (∀ p, b = .inr p → p = v) → VC P B (.seq .skip rest) (jmp l (fun s' => ∃ x', b = .inl x' ∧ Sub s' (S x')) Q) (S x) := fun x b h1 h2 => VC.seq (VC.skip (round x b h1 h2))
  rw [lpU_eq] at h
  split at h
  · cases h
  · rename_i s' hst
    refine VC.mono (round x0 (.inl s') hst fun p hp => by cases hp) fun e s'' h2 => ?_
    cases e with
    | goto l' =>
      obtain ⟨rfl, x', hx', hsub⟩ := h2
      injection hx' with hx'
      subst hx'
      exact ⟨rfl, s', v, h, hsub, rounds⟩
    | _ => exact h2
  · rename_i r hst
    injection h with h
    subst h
    refine VC.mono (round x0 (.inr r) hst fun p hp => by injection hp with hp; exact hp.symm) fun e s'' h2 => ?_
    cases e with
    | goto l' =>
      obtain ⟨rfl, x', hx', hsub⟩ := h2
      cases hx'
    | _ => exact h2
end
theorem Ctr.ofN {P : Program} {T : Nat → TI} (hT : TabOk P T) {f : FuncId} {fn : Func} {c : Code} (hf : P.funcs[f]? = some fn) (hb : fn.body = some c) (hcall : ∀ vals w, (callFunc f vals).run P w = .ok (.enter f vals) w) {args : List AV} {H H' : Hp} {r : AV} (n nt : Nat) (hnt : fn.ntmps = nt) (rs : List ResultVar) (hrs : fn.results.toList = rs)
    (hn : decide (args.length ≤ nt) = true) (hids : (H.all fun p => decide (p.1 < n)) = true) (h : ∀ B, B.rd = none → VC P B c (fun e s' => ∃ s'', Sub s' s'' ∧ Post T rs r H' e s'') ⟨enumA 0 args, H, n, nt, n⟩) : Ctr P f args H r H' :=
  Ctr.of_ hT hf hb hcall n nt hnt rs hrs hn hids fun B hB a w hs => wpIn_mono (h B hB a w hs) fun e a' w' ⟨s', ⟨s'', hsub, hq⟩, hr⟩ => ⟨s'', hq, hsub B a' w' hr⟩
structure Grows (w w' : World) : Prop where
  os : w'.os = w.os
  tape : w'.tape = w.tape
  output : w'.output = w.output
  size : w.heap.size ≤ w'.heap.size
  keep : ∀ b, b < w.heap.size → w'.heap[b]? = w.heap[b]?
theorem Grows.refl (w : World) : Grows w w := ⟨rfl, rfl, rfl, Nat.le_refl _, fun _ _ => rfl⟩
theorem Grows.trans {a b c : World} (h : Grows a b) (k : Grows b c) : Grows a c :=
  ⟨k.os.trans h.os, k.tape.trans h.tape, k.output.trans h.output, Nat.le_trans h.size k.size, fun q hq => (k.keep q (Nat.lt_of_lt_of_le hq h.size)).trans (h.keep q hq)⟩
theorem Grows.alloc (w : World) (o : Obj) : Grows w (w.alloc o) := ⟨rfl, rfl, rfl, by simp, fun b hb => Below.heap_alloc _ _ _ hb⟩
theorem Grows.of_tr {w w' : World} {x x' : Cx} {hp' : Hp} (t : Tr w x [] w' x' hp') : Grows w w' := ⟨t.os, t.tape, t.output, t.size, fun b hb => t.keep b hb fun id o hl => by simp [look] at hl⟩
section
variable {P : Program} {B : Base} {s : St} {a : Act} {w : World} {x : Cx} {hp : Hp}
theorem HRel.nob {l : Nat} {r : Loop} (h : HRel w x hp) (hl : w.heap[l]? = some (.loop r)) : ∀ id o, look hp id = some o → x.β id ≠ some l := fun id o ho hb => by
  have hob := h.obj id o ho
  cases o with
  | box t cs =>
    obtain ⟨b, vs, e1, e2, _⟩ := hob
    rw [hb] at e1
    injection e1 with e1
    subst e1
    rw [hl] at e2
    cases e2
  | row t sz g els =>
    rcases hob.2 with e | ⟨b, vs, e1, e2, _⟩
    · rw [hb] at e
      cases e.1
    · rw [hb] at e1
      injection e1 with e1
      subst e1
      rw [hl] at e2
      cases e2
  | mp es n =>
    obtain ⟨b, ms, e1, e2, _⟩ := hob
    rw [hb] at e1
    injection e1 with e1
    subst e1
    rw [hl] at e2
    cases e2
theorem Mo.poke {l : Nat} (hok : ¬ x.ok l) (o : Obj) : Mo w x hp (w.putObj l o) x hp :=
  ⟨fun _ h => h, fun _ _ h => h, fun b hb => World.putObj_heap_other (by rintro rfl; exact hok hb), fun _ _ h => ⟨h, rfl⟩, fun _ _ _ _ h => ⟨h, rfl, rfl⟩, fun _ _ h => ⟨h, rfl⟩⟩
theorem HRel.poke {l : Nat} {r : Loop} (h : HRel w x hp) (hl : w.heap[l]? = some (.loop r)) (hok : ¬ x.ok l) (o : Obj) : HRel (w.putObj l o) x hp :=
  ⟨fun b hb => by rw [World.putObj_size]; exact h.okb b hb, h.dom, h.gen, h.gdm, fun id o b h1 h2 => by rw [World.putObj_size]; exact h.liv id o b h1 h2, h.inj,
    fun id o' ho => (h.obj id o' ho).mono (Mo.poke hok o) rfl rfl fun b hb => World.putObj_heap_other fun e => by subst e; exact h.nob hl id o' ho hb⟩
theorem Core.poke {D : Nat → Prop} {l : Nat} {r : Loop} (hC : Core B D s a w x) (hl : w.heap[l]? = some (.loop r)) (hok : ¬ x.ok l) (hb : B.w.heap.size ≤ l) (o : Obj) : Core B D s a (w.putObj l o) x := by
  refine ⟨hC.h.poke hl hok o, fun t u ht => (hC.t t u ht).mono (Mo.poke hok o), hC.n, ?_, ?_, hC.mo.trans (Mo.poke hok o), hC.lo, hC.ln, hC.dom⟩
  · obtain ⟨Ds, h1, h2, h3, hrd⟩ := hC.d
    refine ⟨Ds, h1, h2, fun D hD => ?_, hrd⟩
    obtain ⟨h4, h5, h6⟩ := h3 D hD
    exact ⟨(World.putObj_heap_other (by rintro rfl; rw [hl] at h4; cases h4)).trans h4, h5, h6⟩
  · have t := hC.tr
    exact ⟨t.os, t.tape, t.output, by rw [World.putObj_size]; exact t.size, fun b hb' hn => (World.putObj_heap_other (by omega)).trans (t.keep b hb' hn), t.okx, t.newb⟩
theorem Core.grow {D : Nat → Prop} {w' : World} (hC : Core B D s a w x) (h : Grows w w') : Core B D s a w' x := by
  have m : Mo w x s.hp w' x s.hp := ⟨fun _ h => h, fun _ _ h => h, fun b hb => h.keep b (hC.h.okb b hb), fun _ _ h => ⟨h, rfl⟩, fun _ _ _ _ h => ⟨h, rfl, rfl⟩, fun _ _ h => ⟨h, rfl⟩⟩
  have t : Tr w x s.hp w' x s.hp := ⟨h.os, h.tape, h.output, h.size, fun b hb _ => h.keep b hb, fun _ h => .inl h, fun id o _ h1 h2 => .inr ⟨id, o, h1, h2⟩⟩
  refine ⟨⟨fun b hb => Nat.lt_of_lt_of_le (hC.h.okb b hb) h.size, hC.h.dom, hC.h.gen, hC.h.gdm, fun id o b h1 h2 => ⟨Nat.lt_of_lt_of_le (hC.h.liv id o b h1 h2).1 h.size, (hC.h.liv id o b h1 h2).2⟩, hC.h.inj,
    fun id o ho => (hC.h.obj id o ho).mono m rfl rfl fun b hb => h.keep b (hC.h.liv id o b ho hb).1⟩, fun t u ht => (hC.t t u ht).mono m, hC.n, hC.d.step hC.h t, hC.tr.trans t, hC.mo.trans m, hC.lo, hC.ln, hC.dom⟩
theorem Core.step {w' : World} {x' : Cx} {hp' : Hp} (hC : Core B (· < s.nx) s a w x) (st : Stp w x s.hp w' x' hp') (hd : ∀ id g, x'.dom id g → id < s.nx) : Core B (· < s.nx) { s with hp := hp' } a w' x' :=
  ⟨st.h, fun t u ht => (hC.t t u ht).mono st.mo, hC.n, hC.d.step hC.h st.tr, hC.tr.trans st.tr, hC.mo.trans st.mo, hC.lo, hC.ln, hd⟩
end
def putAll : List Nat → List AV → List (Nat × AV) → List (Nat × AV)
  | p :: ps, u :: us, m => putAll ps us ((p, u) :: m)
  | _, _, m => m
def ItC (P : Program) (gf : Nat) (caps : List AV) (us : List (List AV)) : Prop :=
  ∀ (W0 : World) (x0 : Cx) (lb : Array Value), HRel W0 x0 [] → lb.size = caps.length → (∀ (i : Nat) (u : AV), caps[i]? = some u → VRel W0 x0 [] u (lb.getD i undef)) →
  ∀ (l : Nat) (J : Nat → World → (Nat → Prop) → Prop) (Jx : World → Prop),
    (∀ k A A' own, J k A own → Grows A A' → J k A' own) → (∀ A A', Jx A → Grows A A' → Jx A') →
    (∀ k W own, J k W own → (∀ b, own b → b < W.heap.size) ∧ ∀ b, x0.ok b → ¬ own b) →
    (∀ k (u : List AV) (vals : Array Value) W own, J k W own → us[k]? = some u → vals.size = u.length →
      (∀ (i : Nat) (u0 : AV), u[i]? = some u0 → ∀ (x' : Cx) (hp' : Hp), VRel W x' hp' u0 (vals.getD i undef)) →
      YieldAt Fence.wide 0 P l vals W fun e W' => ∃ c : Bool, e = .returned (.bool c) ∧ (∀ b, b < W.heap.size → ¬ own b → W'.heap[b]? = W.heap[b]?) ∧ W.heap.size ≤ W'.heap.size ∧
        (c = true → ∃ own', J (k + 1) W' own' ∧ ∀ b, own' b → own b ∨ W.heap.size ≤ b) ∧ (c = false → Jx W')) →
    ∀ own, J 0 W0 own → CallsIn Fence.wide 0 P gf (#[.func (.yield l) #[] #[]] ++ lb) W0 fun e W' => (∃ v, e = .returned v) ∧ ((∃ own', J us.length W' own') ∨ Jx W')
def rnd (s : St) (J : Hp → Prop) (Jx : Hp → Prop) : Exit → St → Prop
  | .normal, s' => ∃ hp', J hp' ∧ Sub s' ⟨[], hp', s.nx, s.nt, s.nx⟩
  | .ret, s' => ∃ hp', Jx hp' ∧ Sub s' ⟨[], hp', s.nx, s.nt, s.nx⟩
  | _, _ => False
theorem putAll_rel {w : World} {x : Cx} {hp : Hp} : ∀ (ps : List Nat) (us : List AV) (m : List (Nat × AV)) (vals : List Value) (tm : Array Value), vals.length = us.length → ps.length = us.length → (∀ p ∈ ps, p < tm.size) →
    (∀ (i : Nat) (u : AV), us[i]? = some u → VRel w x hp u (vals.getD i undef)) → (∀ t u, look m t = some u → VRel w x hp u (tm.getD t undef)) →
    ((ps.zip vals).foldl (fun (t : Array Value) (q : Nat × Value) => t.setIfInBounds q.1 q.2) tm).size = tm.size ∧
    ∀ t u, look (putAll ps us m) t = some u → VRel w x hp u (((ps.zip vals).foldl (fun (t : Array Value) (q : Nat × Value) => t.setIfInBounds q.1 q.2) tm).getD t undef)
  | [], [], m, [], tm, _, _, _, _, h => ⟨rfl, h⟩
  | p :: ps, u :: us, m, v :: vals, tm, h1, h2, h3, h4, h => by
    have hr := putAll_rel (w := w) (x := x) (hp := hp) ps us ((p, u) :: m) vals (tm.setIfInBounds p v) (by simpa using h1) (by simpa using h2) (fun q hq => by simpa using h3 q (by simp [hq]))
      (fun i u0 hu => by have := h4 (i + 1) u0 (by simpa using hu); simpa using this) (fun t u0 ht => by
        simp only [look] at ht
        split at ht
        · rename_i e
          subst e
          injection ht with ht
          subst ht
          have hlt := h3 t (by simp)
          have : (tm.setIfInBounds t v).getD t undef = v := by simp [hlt]
          rw [this]
          simpa using h4 0 u rfl
        · rename_i e
          have : (tm.setIfInBounds p v).getD t undef = tm.getD t undef := by
            simp only [Array.getD_eq_getD_getElem?]
            rw [Array.getElem?_setIfInBounds_ne (Ne.symm e)]
          rw [this]
          exact h t u0 ht)
    exact ⟨by simpa using hr.1, by simpa [putAll] using hr.2⟩
  | [], _ :: _, _, _, _, _, h2, _, _, _ => by simp at h2
  | _ :: _, [], _, _, _, _, h2, _, _, _ => by simp at h2
  | [], [], _, _ :: _, _, h1, _, _, _, _ => by simp at h1
  | _ :: _, _ :: _, _, [], _, h1, _, _, _, _ => by simp at h1
section
variable {P : Program} {B : Base} {Q : Exit → St → Prop} {s : St}
theorem VC.rangeF (hB : B.rd = none) {g gf : Nat} {ps : Array Tmp} {assign body : Code} {caps : List AV} {us : List (List AV)} (hg : look s.tm g = some (.fn (.func gf) [] caps)) (eg : ∀ args w, (callFunc gf args).run P w = .ok (.enter gf args) w)
    (hin : (caps.all (AV.in3 (Hp.has []))) = true) (hps : (ps.toList.all fun p => decide (p < s.nt)) = true) (hus : ∀ u ∈ us, u.length = ps.size) (hit : ItC P gf caps us)
    (J : Nat → Hp → Prop) (Jx : Hp → Prop) (h0 : J 0 s.hp)
    (round : ∀ (k : Nat) (u : List AV) (hp : Hp), J k hp → us[k]? = some u → ∀ B', VC P B' assign (thn (fun s1 => ∃ tm2, Sub s1 ⟨tm2, hp, s.nx, s.nt, s.nx⟩ ∧ ∀ B'', VC P B'' body (rnd s (J (k + 1)) Jx) ⟨tm2, hp, s.nx, s.nt, s.nx⟩) (fun _ _ => False)) ⟨putAll ps.toList u s.tm, hp, s.nx, s.nt, s.nx⟩)
    (hdone : ∀ hp, J us.length hp → Q .normal { s with hp := hp }) (hstop : ∀ hp, Jx hp → Q .ret { s with hp := hp }) : VC P B (.rangeFunc (.tmp g) ps assign body) Q s := fun a w hs => by
  obtain ⟨x0, hC0⟩ := hs
  rw [hB]
  have hfn := hC0.t g _ hg
  obtain ⟨lb, hlb, hlsz, hlrel⟩ : ∃ lb, a.tmps.getD g undef = .func (.func gf) #[] lb ∧ lb.size = caps.length ∧ ∀ (i : Nat) (u : AV), caps[i]? = some u → VRel w x0 s.hp u (lb.getD i undef) := by
    generalize a.tmps.getD g undef = v at hfn
    cases hfn with
    | dat h => cases h
    | fn f first caps fs cs hl hl' h h' => exact ⟨cs, by rw [show fs = #[] from Array.eq_empty_of_size_eq_zero hl], hl', h'⟩
  refine wpIn_rangeFunc (F := Fence.wide) (n := 0) ?_
  intro fn _
  obtain ⟨rec, hrec⟩ : ∃ rec : LoopState → Option Code → Loop, rec = fun st pe => { state := st, pending := pe, fn, tmps := a.tmps, params := ps, assign, body, defers := w.heap.size } := ⟨_, rfl⟩
  obtain ⟨l, hl⟩ : ∃ l, l = w.heap.size + 1 := ⟨_, rfl⟩
  obtain ⟨W1, hW1⟩ : ∃ W1, (w.alloc (.deferred (some []))).alloc (.loop (rec .ready none)) = W1 := ⟨_, rfl⟩
  have hL1 : W1.heap[l]? = some (.loop (rec .ready none)) := by
    rw [← hW1, hl]; have := World.alloc_heap_new (w.alloc (.deferred (some []))) (.loop (rec .ready none)); rwa [World.size_alloc] at this
  have hK1 : W1.heap[w.heap.size]? = some (.deferred (some [])) := by
    rw [← hW1]; exact (Below.heap_alloc _ _ _ (by simp)).trans (World.alloc_heap_new w _)
  have hgr : Grows w W1 := by rw [← hW1]; exact (Grows.alloc _ _).trans (Grows.alloc _ _)
  obtain ⟨a', ha'⟩ : ∃ a' : Act, a' = { a with defers := [{ target := .collected w.heap.size, args := #[] }] ++ a.defers } := ⟨_, rfl⟩
  have htm : a'.tmps = a.tmps := by rw [ha']
  have hC1 : Core B (· < s.nx) s a' W1 x0 := by
    have hC := hC0.grow hgr
    refine ⟨hC.h, fun t u ht => by rw [htm]; exact hC.t t u ht, by rw [htm]; exact hC.n, ?_, hC.tr, hC.mo, hC.lo, hC.ln, hC.dom⟩
    obtain ⟨Ds, h1, h2, h3, _⟩ := hC.d
    obtain ⟨Ds0, h10, h20, h30, _⟩ := hC0.d
    have hlt : ∀ D ∈ Ds0, D < w.heap.size := fun D hD => (Array.getElem?_eq_some_iff.1 (h30 D hD).1).1
    have hds : Ds = Ds0 := by
      have : Ds.map mark = Ds0.map mark := h1.symm.trans h10
      have inj : ∀ a b, mark a = mark b → a = b := fun a b h => by simpa [mark] using h
      exact List.map_inj_right inj |>.1 this
    subst hds
    refine ⟨w.heap.size :: Ds, by rw [ha', h1]; rfl, List.nodup_cons.2 ⟨fun hm => by have := hlt _ hm; omega, h2⟩, fun D hD => ?_, fun h => absurd hB h⟩
    rcases List.mem_cons.1 hD with rfl | hD
    · exact ⟨hK1, hC0.tr.size, fun h => by have := hC0.h.okb _ h; omega⟩
    · exact h3 D hD
  have hlB : B.w.heap.size ≤ l := by have := hC0.tr.size; omega
  have hlok : ¬ x0.ok l := fun h => by have := hC0.h.okb _ h; omega
  refine ⟨l, [{ target := .collected w.heap.size, args := #[] }], W1, { target := .fn (.func gf) lb, args := #[.func (.yield l) #[] #[]] }, W1, gf,
    #[.func (.yield l) #[] #[]] ++ lb, W1, ?_, ?_, fun _ _ => trivial, ?_, fun h => by simp [Fence.wide] at h, ?_⟩
  · rw [← hW1, hrec, hl]; exact run_enterLoop_outer _ _ _ _ _
  · have : a.eval (.tmp g) = .func (.func gf) #[] lb := hlb
    simp only [resolve, this]
    simp [go_sem]
  · simp [invoke, go_sem, eg]
  rw [← ha']
  -- the invariant
  let own : Hp → Cx → Nat → Prop := fun hp x b => b = l ∨ ∃ id o, look hp id = some o ∧ x.β id = some b
  let JW : Nat → World → (Nat → Prop) → Prop := fun k W ow => ∃ hp x, J k hp ∧ Core B (· < s.nx) { s with hp := hp } a' W x ∧ (∀ b, x0.ok b → x.ok b) ∧ W.heap[l]? = some (.loop (rec .ready none)) ∧ ¬ x.ok l ∧ ow = own hp x
  let JxW : World → Prop := fun W => ∃ hp x, Jx hp ∧ Core B (· < s.nx) { s with hp := hp } a' W x ∧ W.heap[l]? = some (.loop (rec .done (some .ret))) ∧ ¬ x.ok l
  have hS0 : SubH [] s.hp := fun id o h => by simp [look] at h
  have hH0 : HRel W1 (x0.only (Hp.has [])) [] := hC1.h.sub hS0 (Hp.has []) fun id o h => by simp [look] at h
  refine (hit W1 (x0.only (Hp.has [])) lb hH0 hlsz (fun i u hu => ?_) l JW JxW ?_ ?_ ?_ ?_ (own s.hp x0) ⟨s.hp, x0, h0, hC1, fun _ h => h, hL1, hlok, rfl⟩).mono ?_
  · have hfn := hC1.t g _ hg
    rw [htm, hlb] at hfn
    have hv : VRel W1 x0 s.hp u (lb.getD i undef) := by
      cases hfn with
      | dat h => cases h
      | fn f first caps fs cs hl hl' h h' => exact h' i u hu
    exact (hv.in3_ (all_at hin hu)).mono (Mo.sub hS0)
  · rintro k A A' ow ⟨hp, x1, h1, h2, h3, h4, h5, h6⟩ hg
    exact ⟨hp, x1, h1, h2.grow hg, h3, (hg.keep l (Array.getElem?_eq_some_iff.1 h4).1).trans h4, h5, h6⟩
  · rintro A A' ⟨hp, x1, h1, h2, h4, h5⟩ hg
    exact ⟨hp, x1, h1, h2.grow hg, (hg.keep l (Array.getElem?_eq_some_iff.1 h4).1).trans h4, h5⟩
  · rintro k W ow ⟨hp, x1, h1, h2, h3, h4, h5, rfl⟩
    refine ⟨?_, ?_⟩
    · rintro b (rfl | ⟨id, o, e1, e2⟩)
      · exact (Array.getElem?_eq_some_iff.1 h4).1
      · exact (h2.h.liv id o b e1 e2).1
    · rintro b hb (rfl | ⟨id, o, e1, e2⟩)
      · exact h5 (h3 _ hb)
      · exact (h2.h.liv id o b e1 e2).2 (h3 _ hb)
  · rintro k u vals W ow ⟨hp, x1, h1, h2, h3, h4, h5, rfl⟩ hu hvs hvals
    have hupl : u.length = ps.size := hus u (List.mem_of_getElem? hu)
    have hy := run_yield (P := P) (args := vals) h4 (by rw [hrec]; exact hvs.trans hupl)
    rw [hrec] at hy
    refine ⟨fn, _, assign, body, hy, roundIn_of_wpIn (F := Fence.wide) trivial ?_⟩
    have hfold : (ps.zip vals).foldl (fun (tmps : Array Value) (q : Nat × Value) => tmps.setIfInBounds q.1 q.2) a.tmps = (ps.toList.zip vals.toList).foldl (fun (t : Array Value) (q : Nat × Value) => t.setIfInBounds q.1 q.2) a.tmps := by
      rw [← Array.foldl_toList, Array.toList_zip]
    have hpr := putAll_rel (w := W) (x := x1) (hp := hp) ps.toList u s.tm vals.toList a.tmps (by simpa using hvs) (by simpa using hupl.symm) (fun p hp => by
        have := (List.all_eq_true.1 hps) p hp
        have hn := h2.n
        rw [htm] at hn
        show p < a.tmps.size
        rw [hn]
        simpa using this) (fun i u0 hu0 => by
          have := hvals i u0 hu0 x1 hp
          simpa [List.getD_eq_getElem?_getD, Array.getD_eq_getD_getElem?] using this) (fun t u0 ht => by have := h2.t t u0 ht; rwa [htm] at this)
    rw [← hfold] at hpr
    have hn2 := h2.n
    rw [htm] at hn2
    have hCa : Core ⟨W, x1, hp, some (some l)⟩ (· < s.nx) ⟨putAll ps.toList u s.tm, hp, s.nx, s.nt, s.nx⟩ { tmps := (ps.zip vals).foldl (fun (tmps : Array Value) (q : Nat × Value) => tmps.setIfInBounds q.1 q.2) a.tmps, defers := [] } W x1 :=
      ⟨h2.h, hpr.2, hpr.1.trans hn2, Mk.nil _ _ _, Tr.refl _ _ _, Mo.refl _ _ _, h2.dom, Nat.le_refl _, h2.dom⟩
    have hlW : l < W.heap.size := (Array.getElem?_eq_some_iff.1 h4).1
    refine wpIn_mono (round k u hp h1 hu ⟨W, x1, hp, some (some l)⟩ _ W ⟨x1, hCa⟩) ?_
    rintro e a1 W2 ⟨s1, hs1, hr1⟩
    cases e with
    | normal =>
      obtain ⟨tm2, hsub, hbody⟩ := hs1
      obtain ⟨x2, hC2⟩ := hsub _ _ _ hr1
      have hst2 : Stp W x1 hp W2 x2 hp := ⟨hC2.mo, hC2.tr, hC2.h⟩
      have hl2 : W2.heap[l]? = some (.loop (rec .ready none)) := (hC2.tr.keep l hlW (h2.h.nob h4)).trans h4
      have hok2 : ¬ x2.ok l := fun h => by
        rcases hC2.tr.okx l h with e | e | ⟨id, o, e1, e2⟩
        · exact h5 e
        · have : W.heap.size ≤ l := e
          omega
        · exact h2.h.nob h4 id o e1 e2
      have hCo2 := h2.step (s := { s with hp := hp }) hst2 hC2.dom
      refine ⟨_, run_beginRound hl2 (by rw [hrec]), ?_⟩
      obtain ⟨W3, hW3⟩ : ∃ W3, W2.putObj l (.loop { rec .ready none with state := .busy }) = W3 := ⟨_, rfl⟩
      rw [hW3]
      have hCo3 : Core B (· < s.nx) { s with hp := hp } a' W3 x2 := by rw [← hW3]; exact hCo2.poke hl2 hok2 hlB _
      have hl2s : l < W2.heap.size := (Array.getElem?_eq_some_iff.1 hl2).1
      have hl3 : W3.heap[l]? = some (.loop { rec .ready none with state := .busy }) := by rw [← hW3]; exact World.putObj_heap_same hl2s
      have hm3 : Mo W2 x2 hp W3 x2 hp := by rw [← hW3]; exact Mo.poke hok2 _
      have hCb : Core ⟨W3, x2, hp, some (some l)⟩ (· < s.nx) ⟨tm2, hp, s.nx, s.nt, s.nx⟩ a1 W3 x2 :=
        ⟨hCo3.h, fun t u0 ht => (hC2.t t u0 ht).mono hm3, hC2.n, by
          obtain ⟨Ds, e1, _, _, e4⟩ := hC2.d
          exact ⟨Ds, e1, by rw [e4 (by simp)]; exact .nil, (fun D hD => by rw [e4 (by simp)] at hD; cases hD), fun _ => e4 (by simp)⟩, Tr.refl _ _ _, Mo.refl _ _ _, hC2.dom, Nat.le_refl _, hC2.dom⟩
      refine wpIn_mono (hbody ⟨W3, x2, hp, some (some l)⟩ a1 W3 ⟨x2, hCb⟩) ?_
      have hfin : ∀ (jump : Option Code) (hp' : Hp) (W4 : World) (a4 : Act) (s4 : St), Sub s4 ⟨[], hp', s.nx, s.nt, s.nx⟩ → SRel ⟨W3, x2, hp, some (some l)⟩ s4 a4 W4 →
          ∃ W5 x5, (Instr.endRound l jump).run P W4 = .ok (.bool jump.isNone) W5 ∧ Core B (· < s.nx) { s with hp := hp' } a' W5 x5 ∧ W5.heap[l]? = some (.loop (rec (if jump.isNone then .ready else .done) jump)) ∧ ¬ x5.ok l ∧
            (∀ b, x1.ok b → x5.ok b) ∧ (∀ b, b < W.heap.size → ¬ own hp x1 b → W5.heap[b]? = W.heap[b]?) ∧ W.heap.size ≤ W5.heap.size ∧ ∀ b, own hp' x5 b → own hp x1 b ∨ W.heap.size ≤ b := by
        intro jump hp' W4 a4 s4 hs4 hr4
        obtain ⟨x5, hC5⟩ := hs4 _ _ _ hr4
        have t5 : Tr W3 x2 hp W4 x5 hp' := hC5.tr
        have hst5 : Stp W3 x2 hp W4 x5 hp' := ⟨hC5.mo, hC5.tr, hC5.h⟩
        have hl3s : l < W3.heap.size := (Array.getElem?_eq_some_iff.1 hl3).1
        have hl4 : W4.heap[l]? = some (.loop { rec .ready none with state := .busy }) := (t5.keep l hl3s (hCo3.h.nob hl3)).trans hl3
        have hok5 : ¬ x5.ok l := fun h => by
          rcases t5.okx l h with e | e | ⟨id, o, e1, e2⟩
          · exact hok2 e
          · omega
          · exact hCo3.h.nob hl3 id o e1 e2
        have hCo5 := hCo3.step (s := { s with hp := hp }) hst5 hC5.dom
        have hrun := run_endRound (P := P) jump hl4
        have hl4s : l < W4.heap.size := (Array.getElem?_eq_some_iff.1 hl4).1
        refine ⟨_, x5, hrun, hCo5.poke hl4 hok5 hlB _, ?_, hok5, fun b hb => hC5.mo.ok b (hC2.mo.ok b hb), ?_, ?_, ?_⟩
        · rw [World.putObj_heap_same hl4s, hrec]
        · intro b hb hn
          have hbl : b ≠ l := fun e => hn (.inl e)
          have n1 : ∀ id o, look hp id = some o → x1.β id ≠ some b := fun id o e1 e2 => hn (.inr ⟨id, o, e1, e2⟩)
          have k1 : W2.heap[b]? = W.heap[b]? := hC2.tr.keep b hb n1
          have k2 : W3.heap[b]? = W2.heap[b]? := by rw [← hW3]; exact World.putObj_heap_other hbl
          have n2 : ∀ id o, look hp id = some o → x2.β id ≠ some b := fun id o e1 e2 => by
            rcases hC2.tr.newb id o b e1 e2 with e | ⟨id0, o0, e3, e4⟩
            · have : W.heap.size ≤ b := e
              omega
            · exact n1 id0 o0 e3 e4
          have s23 : W3.heap.size = W2.heap.size := by rw [← hW3, World.putObj_size]
          have s12 : W.heap.size ≤ W2.heap.size := hC2.tr.size
          have k3 : W4.heap[b]? = W3.heap[b]? := t5.keep b (by omega) n2
          rw [World.putObj_heap_other hbl, k3, k2, k1]
        · have s23 : W3.heap.size = W2.heap.size := by rw [← hW3, World.putObj_size]
          have s12 : W.heap.size ≤ W2.heap.size := hC2.tr.size
          have s34 : W3.heap.size ≤ W4.heap.size := t5.size
          rw [World.putObj_size]
          omega
        · rintro b (rfl | ⟨id, o, e1, e2⟩)
          · exact .inl (.inl rfl)
          · have s23 : W3.heap.size = W2.heap.size := by rw [← hW3, World.putObj_size]
            have s12 : W.heap.size ≤ W2.heap.size := hC2.tr.size
            rcases t5.newb id o b e1 e2 with e | ⟨id0, o0, e3, e4⟩
            · exact .inr (by omega)
            · rcases hC2.tr.newb id0 o0 b e3 e4 with e | ⟨id1, o1, e5, e6⟩
              · exact .inr e
              · exact .inl (.inr ⟨id1, o1, e5, e6⟩)
      rintro e a4 W4 ⟨s4, hq4, hr4⟩
      cases e with
      | normal =>
        obtain ⟨hp', hJ', hs4⟩ := hq4
        obtain ⟨W5, x5, r1, r2, r3, r4, r5, r6, r7, r8⟩ := hfin none hp' W4 a4 s4 hs4 hr4
        exact ⟨_, _, r1, true, rfl, r6, r7, fun _ => ⟨own hp' x5, ⟨hp', x5, hJ', r2, fun b hb => r5 b (h3 b hb), r3, r4, rfl⟩, r8⟩, fun h => by cases h⟩
      | ret =>
        obtain ⟨hp', hJ', hs4⟩ := hq4
        obtain ⟨W5, x5, r1, r2, r3, r4, r5, r6, r7, r8⟩ := hfin (some .ret) hp' W4 a4 s4 hs4 hr4
        exact ⟨_, _, r1, false, rfl, r6, r7, (fun h => by cases h), fun _ => ⟨hp', x5, hJ', r2, r3, r4⟩⟩
      | _ => exact hq4.elim
    | _ => exact hs1.elim
  · rintro e W2 ⟨⟨v, rfl⟩, (⟨ow, hp, x, h1, h2, h3, h4, h5, h6⟩ | ⟨hp, x, h1, h2, h4, h5⟩)⟩
    · refine ⟨none, _, by have := run_endLoop (P := P) h4 (by rw [hrec]; simp); rw [hrec] at this; exact this, ?_⟩
      exact ⟨_, hdone hp h1, x, h2.poke h4 h5 hlB _⟩
    · refine ⟨some .ret, _, by have := run_endLoop (P := P) h4 (by rw [hrec]; simp); rw [hrec] at this; exact this, ?_⟩
      exact wpIn_ret ⟨_, hstop hp h1, x, h2.poke h4 h5 hlB _⟩
def itU {α σ ρ : Type} (step : σ → α → Option (σ ⊕ ρ)) : List α → σ → Option (σ ⊕ ρ)
  | [], s => some (.inl s)
  | u :: l, s => match step s u with
    | none => none
    | some (.inl s') => itU step l s'
    | some (.inr r) => some (.inr r)
def pq {α β γ : Type} (x : Option (α ⊕ β)) (k : α → Option γ) (kr : β → Option γ) : Option γ := match x with
  | none => none
  | some (.inl a) => k a
  | some (.inr b) => kr b
theorem pq_some {α β γ : Type} {x : Option (α ⊕ β)} {k : α → Option γ} {kr : β → Option γ} {r : γ} (h : pq x k kr = some r) : ∃ b, x = some b ∧ (∀ a, b = .inl a → k a = some r) ∧ ∀ y, b = .inr y → kr y = some r := by
  unfold pq at h
  split at h
  · cases h
  · exact ⟨_, rfl, (fun a e => by injection e with e; subst e; exact h), fun y e => by cases e⟩
  · exact ⟨_, rfl, (fun a e => by cases e), fun y e => by injection e with e; subst e; exact h⟩
def rndP {σ ρ : Type} (s : St) (S : σ → Hp) (SR : ρ → Hp) (c : σ ⊕ ρ) : Exit → St → Prop
  | .normal, s' => ∃ x', c = .inl x' ∧ Sub s' ⟨[], S x', s.nx, s.nt, s.nx⟩
  | .ret, s' => ∃ y, c = .inr y ∧ Sub s' ⟨[], SR y, s.nx, s.nt, s.nx⟩
  | _, _ => False
theorem VC.rangeP (hB : B.rd = none) {α σ ρ : Type} {xs : List α} {enc : α → List AV} {step : σ → α → Option (σ ⊕ ρ)} {x0 : σ} {b : σ ⊕ ρ} (h : itU step xs x0 = some b) {g gf : Nat} {ps : Array Tmp} {assign body : Code} {caps : List AV}
    (hg : look s.tm g = some (.fn (.func gf) [] caps)) (eg : ∀ args w, (callFunc gf args).run P w = .ok (.enter gf args) w)
    (hin : (caps.all (AV.in3 (Hp.has []))) = true) (hps : (ps.toList.all fun p => decide (p < s.nt)) = true) (hlen : ∀ u, (enc u).length = ps.size) (hit : ItC P gf caps (xs.map enc)) (S : σ → Hp) (SR : ρ → Hp) (h0 : s.hp = S x0)
    (round : ∀ x u c, step x u = some c → ∀ B', VC P B' assign (thn (fun s1 => ∃ tm2, Sub s1 ⟨tm2, S x, s.nx, s.nt, s.nx⟩ ∧ ∀ B'', VC P B'' body (rndP s S SR c) ⟨tm2, S x, s.nx, s.nt, s.nx⟩) (fun _ _ => False)) ⟨putAll ps.toList (enc u) s.tm, S x, s.nx, s.nt, s.nx⟩)
    (hdone : ∀ x, b = .inl x → Q .normal { s with hp := S x }) (hstop : ∀ y, b = .inr y → Q .ret { s with hp := SR y }) : VC P B (.rangeFunc (.tmp g) ps assign body) Q s := by
  refine VC.rangeF hB hg eg hin hps (fun u hu => by obtain ⟨y, _, rfl⟩ := List.mem_map.1 hu; exact hlen y) hit (fun k hp => ∃ x, itU step (xs.drop k) x = some b ∧ hp = S x) (fun hp => ∃ y, b = .inr y ∧ hp = SR y) ⟨x0, by simpa using h, h0⟩ ?_ ?_ ?_
  · rintro k u hp ⟨x, h1, rfl⟩ hu B'
    rw [List.getElem?_map] at hu
    obtain ⟨y, hy, rfl⟩ := Option.map_eq_some_iff.1 hu
    have hk : k < xs.length := (List.getElem?_eq_some_iff.1 hy).1
    have hd : xs.drop k = y :: xs.drop (k + 1) := by
      rw [List.drop_eq_getElem_cons hk]
      congr 1
      exact (List.getElem?_eq_some_iff.1 hy).2
    rw [hd] at h1
    simp only [itU] at h1
    have key : ∀ c, step x y = some c → (∀ x', c = .inl x' → itU step (xs.drop (k + 1)) x' = some b) → (∀ r, c = .inr r → b = .inr r) → VC P B' assign (thn (fun s1 => ∃ tm2, Sub s1 ⟨tm2, S x, s.nx, s.nt, s.nx⟩ ∧ ∀ B'', VC P B'' body (rnd s (fun hp => ∃ x, itU step (xs.drop (k + 1)) x = some b ∧ hp = S x) (fun hp => ∃ y, b = .inr y ∧ hp = SR y)) ⟨tm2, S x, s.nx, s.nt, s.nx⟩) (fun _ _ => False)) ⟨putAll ps.toList (enc y) s.tm, S x, s.nx, s.nt, s.nx⟩ := by
      intro c hc k1 k2
      refine VC.mono (round x y c hc B') ?_
      rintro e s1 h3
      cases e with
      | normal =>
        obtain ⟨tm2, h4, h5⟩ := h3
        refine ⟨tm2, h4, fun B'' => VC.mono (h5 B'') ?_⟩
        rintro e s2 h6
        cases e with
        | normal =>
          obtain ⟨x', h7, h8⟩ := h6
          exact ⟨_, ⟨x', k1 x' h7, rfl⟩, h8⟩
        | ret =>
          obtain ⟨y', h7, h8⟩ := h6
          exact ⟨_, ⟨y', k2 y' h7, rfl⟩, h8⟩
        | _ => exact h6.elim
      | _ => exact h3.elim
    split at h1
    · cases h1
    · rename_i x' hst
      exact key _ hst (fun x'' e => by injection e with e; subst e; exact h1) (fun r e => by cases e)
    · rename_i r hst
      injection h1 with h1
      exact key _ hst (fun x'' e => by cases e) (fun r' e => by injection e with e; subst e; exact h1.symm)
  · rintro hp ⟨x, h1, rfl⟩
    rw [List.length_map, List.drop_length] at h1
    simp only [itU, Option.some.injEq] at h1
    exact hdone x h1.symm
  · rintro hp ⟨y, h1, rfl⟩
    exact hstop y h1
end
def AV.isDat : AV → Bool
  | .raw _ => true
  | .sl _ _ => true
  | _ => false
theorem VRel.toDat {w : World} {x : Cx} {hp : Hp} {u : AV} {v : Value} (hu : u.isDat = true) (h : VRel w x hp u v) : Dat w x.ok u v := by
  cases h with
  | dat h => exact h
  | _ => cases hu
theorem Sub.freezeP {s : St} {k b : Nat} {t : TypeId} {cs : List AV} (hk : look s.tm k = some (.ref b 0)) (hb : look s.hp b = some (.box t cs)) (hd : (cs.all AV.isDat) = true) :
    Sub s { s with tm := setA k (.dat cs.length [cs] 0 0) s.tm, hp := delA b s.hp } := fun B a w ⟨x, hC⟩ => by
  obtain ⟨bb, vs, h1, h2, h3, h4, h5⟩ := hC.h.obj b _ hb
  have st := Stp.del hC.h hb
  have hp : VRel w (x.free b) (delA b s.hp) (.dat cs.length [cs] 0 0) (a.tmps.getD k undef) := by
    have hv := hC.t k _ hk
    generalize a.tmps.getD k undef = v at hv
    cases hv with
    | dat h => cases h
    | ref id off p hid h =>
      obtain ⟨b', e1, rfl⟩ := h ⟨t, cs, hb⟩
      rw [h1] at e1
      injection e1 with e1
      subst e1
      refine .datp [cs] 0 0 cs.length ⟨bb, 0, none⟩ (fun j => vs.getD j undef) (.inr h1) (fun cs' h => by simp at h; rw [← h]) (fun j hj => ?_) (fun cs' j u h hj => ?_)
      · rw [Nat.zero_add, av_lit_add, Nat.zero_add]
        have e := cell_getD (o := 0) (j := j) h2 (by omega)
        rw [av_lit_add] at e
        exact ⟨by simpa using e, h4 _ (by omega)⟩
      · simp only [List.getElem?_cons_zero, Option.some.injEq] at h
        subst h
        exact ((h5 j u hj).toDat (all_at hd hj)).mono (fun b hb => .inl hb) (fun _ _ => rfl)
  refine ⟨_, st.h, fun t u ht => ?_, hC.n, hC.d.step hC.h st.tr, hC.tr.trans st.tr, hC.mo.trans st.mo, hC.lo, hC.ln, hC.dom⟩
  rw [look_setA] at ht
  split at ht
  · rename_i e1
    subst e1
    injection ht with ht
    subst ht
    exact hp
  · exact (hC.t t u ht).mono st.mo
def GrowI (I : World → (Nat → Prop) → Prop) : Prop := ∀ A A' own, I A own → Grows A A' → I A' own
def IR (I : World → (Nat → Prop) → Prop) (s : St) (a : Act) (W : World) : Prop :=
  ∃ (own : Nat → Prop) (x : Cx), I W own ∧ (∀ b, own b → b < W.heap.size) ∧ Core ⟨W, x, [], some none⟩ (· < s.nx) ⟨s.tm, [], s.nx, s.nt, s.nx⟩ a W x ∧ ∀ b, x.ok b → ¬ own b
def YV (P : Program) (c : Code) (Q : Exit → St → (World → (Nat → Prop) → Prop) → Prop) (s : St) (I : World → (Nat → Prop) → Prop) : Prop :=
  ∀ a W, IR I s a W → c.wpIn Fence.wide 0 P (fun e a' W' => ∃ s' I', Q e s' I' ∧ IR I' s' a' W') a W
def thnY (next : St → (World → (Nat → Prop) → Prop) → Prop) (Q : Exit → St → (World → (Nat → Prop) → Prop) → Prop) : Exit → St → (World → (Nat → Prop) → Prop) → Prop
  | .normal, s, I => next s I
  | e, s, I => Q e s I
def inBkY (id : Nat) (Q : Exit → St → (World → (Nat → Prop) → Prop) → Prop) : Exit → St → (World → (Nat → Prop) → Prop) → Prop
  | .exit i, s, I => if i = id then Q .normal s I else Q (.exit i) s I
  | e, s, I => Q e s I
section
variable {P : Program} {T : Nat → TI} {Q : Exit → St → (World → (Nat → Prop) → Prop) → Prop} {s : St} {I : World → (Nat → Prop) → Prop}
theorem YV.skip (h : Q .normal s I) : YV P .skip Q s I := fun a w hs => wpIn_skip ⟨s, I, h, hs⟩
theorem YV.exit {id : Nat} (h : Q (.exit id) s I) : YV P (.exit id) Q s I := fun a w hs => wpIn_exit ⟨s, I, h, hs⟩
theorem YV.ret (h : Q .ret s I) : YV P .ret Q s I := fun a w hs => wpIn_ret ⟨s, I, h, hs⟩
theorem YV.mono {c : Code} {Q' : Exit → St → (World → (Nat → Prop) → Prop) → Prop} (h : YV P c Q s I) (hq : ∀ e s I, Q e s I → Q' e s I) : YV P c Q' s I :=
  fun a w hs => wpIn_mono (h a w hs) fun e a' w' ⟨s', I', h1, h2⟩ => ⟨s', I', hq _ _ _ h1, h2⟩
theorem YV.seq {x y : Code} (h : YV P x (thnY (fun s I => YV P y Q s I) Q) s I) : YV P (.seq x y) Q s I := fun a w hs => by
  refine wpIn_seq (wpIn_mono (h a w hs) ?_)
  rintro e a' w' ⟨s', I', h1, h2⟩
  cases e <;> first | exact h1 a' w' h2 | exact ⟨s', I', h1, h2⟩
theorem YV.block {id : Nat} {c : Code} (h : YV P c (inBkY id Q) s I) : YV P (.block id c) Q s I := fun a w hs => by
  refine wpIn_block (wpIn_mono (h a w hs) ?_)
  rintro e a' w' ⟨s', I', h1, h2⟩
  cases e with
  | exit i =>
    simp only [inBkY] at h1
    simp only [Exit.inBlock]
    split
    · rename_i e
      rw [if_pos e] at h1
      exact ⟨s', I', h1, h2⟩
    · rename_i e
      rw [if_neg e] at h1
      exact ⟨s', I', h1, h2⟩
  | _ => exact ⟨s', I', h1, h2⟩
theorem YV.cond {c : Operand} {x y : Code} {t : Nat} {b : Bool} (hc : c = .tmp t) (hl : look s.tm t = some (.raw (.bool b))) (ht : b = true → YV P x Q s I) (hf : b = false → YV P y Q s I) : YV P (.cond c x y) Q s I := fun a w hs => by
  obtain ⟨own, x0, h1, h2, hC, h3⟩ := hs
  have := (hC.t t _ hl).rawEq
  subst hc
  exact wpIn_cond_split (t := b) this (fun h => ht h a w ⟨own, x0, h1, h2, hC, h3⟩) (fun h => hf h a w ⟨own, x0, h1, h2, hC, h3⟩)
theorem YV.loop {c : Code} {X : Type} (S : X → St) (IX : X → World → (Nat → Prop) → Prop) (ok : X → Prop) (μ : X → Nat) (x0 : X) (h0 : ok x0) (hs0 : s = S x0) (hI0 : I = IX x0)
    (round : ∀ x, ok x → YV P c (thnY (fun s' I' => ∃ x', ok x' ∧ μ x' < μ x ∧ s' = S x' ∧ I' = IX x') Q) (S x) (IX x)) : YV P (.loop c) Q s I := fun a w hs => by
  let J : Nat → Act → World → Prop := fun n a w => ∃ x, ok x ∧ μ x = n ∧ IR (IX x) (S x) a w
  have least : ∀ a w, (∃ n, J n a w) → ∃ n, J n a w ∧ ∀ m, J m a w → n ≤ m := by
    intro a w ⟨n, hn⟩
    induction n using Nat.strongRecOn with
    | _ n ih =>
      by_cases h : ∃ m, m < n ∧ J m a w
      · obtain ⟨m, h1, h2⟩ := h
        exact ih m h1 h2
      · exact ⟨n, hn, fun m hm => Nat.le_of_not_lt fun hlt => h ⟨m, hlt, hm⟩⟩
  open Classical in
  refine wpIn_loop (fun a w => ∃ n, J n a w) (fun a w => if h : ∃ n, J n a w then Classical.choose (least a w h) else 0) ?_ ?_
  · exact ⟨_, x0, h0, rfl, by rw [← hs0, ← hI0]; exact hs⟩
  · intro a w hJ
    obtain ⟨h1, h2⟩ := Classical.choose_spec (least a w hJ)
    obtain ⟨x, hx1, hx2, hx3⟩ := h1
    refine wpIn_mono (round x hx1 a w hx3) ?_
    rintro e a' w' ⟨s', I', h3, h4⟩
    cases e with
    | normal =>
      obtain ⟨x', h5, h6, rfl, rfl⟩ := h3
      have hJ' : J (μ x') a' w' := ⟨x', h5, rfl, h4⟩
      refine ⟨⟨_, hJ'⟩, ?_⟩
      show (if h : ∃ n, J n a' w' then Classical.choose (least a' w' h) else 0) < (if h : ∃ n, J n a w then Classical.choose (least a w h) else 0)
      rw [dif_pos ⟨_, hJ'⟩, dif_pos hJ]
      have h8 := (Classical.choose_spec (least a' w' ⟨_, hJ'⟩)).2 _ hJ'
      omega
    | _ => exact ⟨s', I', h3, h4⟩
theorem IR.next {own : Nat → Prop} {W W' : World} {x : Cx} {s'' : St} {a' : Act} (hg : GrowI I) (hI : I W own) (hb : ∀ b, own b → b < W.heap.size) (ho : ∀ b, x.ok b → ¬ own b) (hp : s''.hp = []) (h : SRel ⟨W, x, [], some none⟩ s'' a' W') : IR I s'' a' W' := by
  obtain ⟨x', hC'⟩ := h
  have t : Tr W x [] W' x' s''.hp := hC'.tr
  obtain ⟨Ds, e1, e2, e3, e4⟩ := hC'.d
  have hd : a'.defers = [] := by rw [e1, e4 (by simp)]; rfl
  refine ⟨own, x', hg _ _ _ hI (Grows.of_tr t), fun b h => Nat.lt_of_lt_of_le (hb b h) t.size, ?_, fun b h => ?_⟩
  · have h1 := hC'.h
    have h2 := hC'.t
    rw [hp] at h1 h2
    exact ⟨h1, h2, hC'.n, by rw [hd]; exact Mk.nil _ _ _, Tr.refl _ _ _, Mo.refl _ _ _, hC'.dom, Nat.le_refl _, hC'.dom⟩
  · rcases t.okx b h with e | e | ⟨id, o, h1, _⟩
    · exact ho b e
    · exact fun h => by have := hb b h; omega
    · simp [look] at h1
theorem YV.seg {c : Code} (hg : GrowI I) (h : ∀ B, VC P B c (fun e s' => ∃ s'', Sub s' s'' ∧ s''.hp = [] ∧ Q e s'' I) ⟨s.tm, [], s.nx, s.nt, s.nx⟩) : YV P c Q s I := fun a W ⟨own, x, hI, hb, hC, ho⟩ => by
  refine wpIn_mono (h ⟨W, x, [], some none⟩ a W ⟨x, hC⟩) ?_
  rintro e a' W' ⟨s', ⟨s'', hsub, hp, hq⟩, hr⟩
  exact ⟨s'', I, hq, IR.next hg hI hb ho hp (hsub _ _ _ hr)⟩
def runPre (E : EvT) (P : Program) (T : Nat → TI) (dsts : List (Option Nat)) : List Oper → Nat → St → (St → Prop) → Prop
  | [], i, s, K => K s
  | o :: r, i, s, K => wpQ P (s.nx + i) s (E T (s.nx + i) dsts o) fun v wr => runPre E P T dsts r (i + 1) ((s.wr wr).put o.dst v) K
theorem runPre_s {E : EvT} (hE : EvOk P T E) {B : Base} {ops : Array Oper} {Qx : Exit → Act → World → Prop} {nx nt q : Nat} {K : St → Prop} {rest : List Nat} (hd : (ops.all fun o => match o.dst with | some k => decide (k < nt) | none => true) = true) {n : Nat}
    (hQ : ∀ s' a' w' x', K s' → s'.nx = nx → s'.nt = nt → Core B (· < nx + n) s' a' w' x' → wpOpsIn (wR B.rd) 0 P ops Qx rest a' w') :
    ∀ (l : List Oper) (i : Nat) (s' : St) (a : Act) (w : World) (x : Cx), i + l.length = n → (∀ j, (hj : j < l.length) → ops[q + i + j]? = some l[j]) → s'.nt = nt → s'.nx = nx → Core B (· < nx + i) s' a w x → runPre E P T (dstsOf ops) l i s' K → wpOpsIn (wR B.rd) 0 P ops Qx (List.range' (q + i) l.length ++ rest) a w
  | [], i, s', a, w, x, hn, _, hnt, hnx, hC, h => by
    have : i = n := by simpa using hn
    subst this
    exact hQ s' a w x h hnx hnt hC
  | o :: l, i, s', a, w, x, hn, hl, hnt, hnx, hC, h => by
    have hi : ops[q + i]? = some o := hl 0 (by simp)
    rw [List.length_cons, List.range'_succ, List.cons_append, wpOpsIn_cons]
    have hdst : ∀ k, o.dst = some k → k < s'.nt := fun k hk => by
      have h1 := (Array.all_eq_true_iff_forall_mem.1 hd) o (Array.mem_of_getElem? hi)
      rw [hk] at h1
      rw [hnt]
      simpa using h1
    unfold runPre at h
    rw [hnx] at h
    refine hE hC (nid := nx + i) (by omega) hi hdst h ?_
    intro v wr a' w' x' hk hC'
    refine runPre_s hE hd hQ l (i + 1) _ a' w' x' ?_ ?_ ?_ ?_ ?_ hk
    · simp only [List.length_cons] at hn
      omega
    · intro j hj
      have := hl (j + 1) (by simpa using hj)
      rw [show q + (i + 1) + j = q + i + (j + 1) by omega, this]
      rfl
    · rw [← hnt]
      cases o.dst <;> rfl
    · rw [← hnx]
      cases o.dst <;> rfl
    · refine ⟨hC'.h, hC'.t, hC'.n, hC'.d, hC'.tr, hC'.mo, hC'.lo, hC'.ln, fun id g hdm => ?_⟩
      rcases hC'.dom id g hdm with h1 | h1
      · have : id < nx + i := h1
        omega
      · omega
def argOk (tm : List (Nat × AV)) : List Operand → List AV → Prop
  | [], [] => True
  | .tmp t :: os, .raw v :: us => look tm t = some (.raw v) ∧ argOk tm os us
  | _ :: os, .dead :: us => argOk tm os us
  | _, _ => False
theorem argOk_rel {tm : List (Nat × AV)} {a : Act} (ht : ∀ t v, look tm t = some (.raw v) → a.tmps.getD t undef = v) : ∀ (os : List Operand) (us : List AV), argOk tm os us → os.length = us.length ∧ ∀ (i : Nat) (u0 : AV), us[i]? = some u0 → ∀ (w : World) (x' : Cx) (hp' : Hp), VRel w x' hp' u0 ((os.map a.eval).getD i undef)
  | [], [], _ => ⟨rfl, fun i u h => by simp at h⟩
  | o :: os, .raw v :: us, h => by
    cases o with
    | tmp t =>
      obtain ⟨h1, h2⟩ := h
      obtain ⟨h3, h4⟩ := argOk_rel ht os us h2
      refine ⟨by simp [h3], fun i u0 hu w x' hp' => ?_⟩
      cases i with
      | zero =>
        simp only [List.getElem?_cons_zero, Option.some.injEq] at hu
        subst hu
        have : (((Operand.tmp t :: os).map a.eval).getD 0 undef) = v := ht t v h1
        rw [this]
        exact .raw v
      | succ i => exact h4 i u0 (by simpa using hu) w x' hp'
    | _ => exact h.elim
  | o :: os, .dead :: us, h => by
    have h2 : argOk tm os us := by
      cases o <;> exact h
    obtain ⟨h3, h4⟩ := argOk_rel ht os us h2
    refine ⟨by simp [h3], fun i u0 hu w x' hp' => ?_⟩
    cases i with
    | zero =>
      simp only [List.getElem?_cons_zero, Option.some.injEq] at hu
      subst hu
      exact .dead _
    | succ i => exact h4 i u0 (by simpa using hu) w x' hp'
  | [], _ :: _, h => h.elim
  | _ :: _, [], h => by
    rename_i o os
    cases o <;> exact h.elim
  | o :: os, .agg _ :: us, h => by cases o <;> exact h.elim
  | o :: os, .tup _ :: us, h => by cases o <;> exact h.elim
  | o :: os, .ref _ _ :: us, h => by cases o <;> exact h.elim
  | o :: os, .elt _ _ _ _ _ :: us, h => by cases o <;> exact h.elim
  | o :: os, .dat _ _ _ _ :: us, h => by cases o <;> exact h.elim
  | o :: os, .sl _ _ :: us, h => by cases o <;> exact h.elim
  | o :: os, .row _ _ _ _ _ :: us, h => by cases o <;> exact h.elim
  | o :: os, .bsl _ _ _ :: us, h => by cases o <;> exact h.elim
  | o :: os, .rsl _ _ _ _ _ _ :: us, h => by cases o <;> exact h.elim
  | o :: os, .fn _ _ _ :: us, h => by cases o <;> exact h.elim
  | o :: os, .mp _ :: us, h => by cases o <;> exact h.elim
  | o :: os, .ifb _ _ :: us, h => by cases o <;> exact h.elim
def gdOk (tm : List (Nat × AV)) (ds : List (Option Nat)) : Option (Nat × Bool) → Prop
  | none => True
  | some (j, want) => ∃ d, ds.getD j none = some d ∧ look tm d = some (.raw (.bool want))
def YieldOk (P : Program) (l : Nat) (J : Nat → World → (Nat → Prop) → Prop) (Jx : World → Prop) (us : List (List AV)) : Prop :=
  ∀ k (u : List AV) (vals : Array Value) W own, J k W own → us[k]? = some u → vals.size = u.length →
    (∀ (i : Nat) (u0 : AV), u[i]? = some u0 → ∀ (x' : Cx) (hp' : Hp), VRel W x' hp' u0 (vals.getD i undef)) →
    YieldAt Fence.wide 0 P l vals W fun e W' => ∃ c : Bool, e = .returned (.bool c) ∧ (∀ b, b < W.heap.size → ¬ own b → W'.heap[b]? = W.heap[b]?) ∧ W.heap.size ≤ W'.heap.size ∧
      (c = true → ∃ own', J (k + 1) W' own' ∧ ∀ b, own' b → own b ∨ W.heap.size ≤ b) ∧ (c = false → Jx W')
theorem YV.yield {E : EvT} (hE : EvOk P T E) {id l k g : Nat} {pre post : List Oper} {o : Oper} {c : Call} {J : Nat → World → (Nat → Prop) → Prop} {Jx : World → Prop} {us : List (List AV)} {u : List AV}
    (hJ : ∀ k, GrowI (J k)) (hJx : ∀ A A', Jx A → Grows A A' → Jx A') (hJb : ∀ k W own, J k W own → ∀ b, own b → b < W.heap.size) (hY : YieldOk P l J Jx us) (hu : us[k]? = some u)
    (ho : o.op = .call c) (hcal : c.callee = .value (.tmp g)) (hd : dstOk (pre ++ o :: post).toArray s.nt = true) {ds : List (Option Nat)} (hds : (pre ++ o :: post).map (·.dst) = ds)
    (h : runPre E P T ds pre 0 ⟨s.tm, [], s.nx, s.nt, s.nx⟩ fun s1 => s1.hp = [] ∧ look s1.tm g = some (.fn (.yield l) [] []) ∧ argOk s1.tm c.args.toList u ∧ gdOk s1.tm ds o.guard ∧
      ∀ b : Bool, runPre E P T ds post 0 (({ s1 with nx := s.nx + pre.length, lo := s.nx + pre.length } : St).put o.dst (.raw (.bool b))) fun s4 => ∃ s5, Sub { s4 with nx := s4.nx + post.length } s5 ∧ s5.hp = [] ∧ Q .normal s5 (bif b then J (k + 1) else fun W _ => Jx W)) :
    YV P (.region id (pre ++ o :: post).toArray false) Q s (J k) := fun a W ⟨own, x, hI, hb, hC, hok⟩ => by
  subst hds
  obtain ⟨ops, hops⟩ : ∃ ops, ops = (pre ++ o :: post).toArray := ⟨_, rfl⟩
  rw [← hops]
  refine wpIn_region ?_
  have hsz : ops.size = pre.length + (post.length + 1) := by rw [hops]; simp
  have hdsE : (pre ++ o :: post).map (·.dst) = dstsOf ops := by rw [hops]; rfl
  rw [hdsE] at h
  have hd' : (ops.all fun o => match o.dst with | some k => decide (k < s.nt) | none => true) = true := by rw [hops, ← Array.all_toList]; exact hd
  have hrng : List.range ops.size = List.range' (0 + 0) pre.length ++ pre.length :: List.range' (pre.length + 1) post.length := by
    rw [hsz, List.range_eq_range', ← List.range'_append_1, Nat.zero_add, List.range'_succ]
  rw [hrng]
  refine runPre_s (B := ⟨W, x, [], some none⟩) (nt := s.nt) (nx := s.nx) (q := 0) (n := pre.length) hE hd' ?_ pre 0 ⟨s.tm, [], s.nx, s.nt, s.nx⟩ a W x (by simp) (fun j hj => ?_) rfl rfl (by simpa using hC) h
  · rintro s1 a1 W1 x1 ⟨h1, h2, h3, h4, h5⟩ hnx hnt hC1
    have t1 : Tr W x [] W1 x1 s1.hp := hC1.tr
    have hJ1 := hJ k _ _ _ hI (Grows.of_tr t1)
    have hok1 : ∀ b, x1.ok b → ¬ own b := fun b h => by
      rcases t1.okx b h with e | e | ⟨id, o, h1, _⟩
      · exact hok b e
      · exact fun h => by have := hb b h; omega
      · simp [look] at h1
    have hi : ops[pre.length]? = some o := by rw [hops]; simp
    rw [wpOpsIn_cons]
    unfold wpOpIn
    rw [hi]
    have hw : Region.wanted o (yielded ops a1.tmps) = true := by
      cases hgd : o.guard with
      | none => simp [Region.wanted, hgd]
      | some q =>
        obtain ⟨j, want⟩ := q
        rw [hgd] at h4
        obtain ⟨d, e1, e2⟩ := h4
        have := yielded_of hC1 (dsts_at e1) (hC1.t d _ e2).rawEq
        simp [Region.wanted, hgd, this]
    simp only [hw, if_true]
    obtain ⟨r1, r2⟩ := argOk_rel (a := a1) (fun t v ht => (hC1.t t _ ht).rawEq) _ _ h3
    obtain ⟨fn, tmps, assign, body, hy, hR⟩ := hY k u (c.args.map a1.eval) W1 own hJ1 hu (by simpa using r1) (fun i u0 hu0 x' hp' => by
      have := r2 i u0 hu0 W1 x' hp'
      simpa [List.getD_eq_getElem?_getD, Array.getD_eq_getD_getElem?] using this)
    have hfn : a1.eval (.tmp g) = .func (.yield l) #[] #[] := by
      have hv := hC1.t g _ h2
      show a1.tmps.getD g undef = _
      generalize a1.tmps.getD g undef = v at hv
      cases hv with
      | dat h => cases h
      | fn f first caps fs cs hl hl' h h' => rw [show fs = #[] from Array.eq_empty_of_size_eq_zero hl, show cs = #[] from Array.eq_empty_of_size_eq_zero hl']
    refine ⟨fun _ _ => trivial, ?_⟩
    have hrun : (Oper.semAt (wR (some none)).round a1.eval o).run P W1 = .ok (.round l fn tmps assign body) W1 := by
      show (execOp a1.eval o).run P W1 = _
      rw [← hy]
      simp [execOp, ho, resolve, hcal, hfn, invoke, Deferred.ofValue]
    rw [hrun]
    refine ⟨fun hd => by simp [wR, Fence.wide] at hd, hR.mono ?_⟩
    rintro e W2 ⟨b, rfl, k1, k2, k3, k4⟩
    have hm : Mo W1 x1 s1.hp W2 x1 s1.hp := ⟨fun _ h => h, fun _ _ h => h, fun q hq => k1 q (hC1.h.okb q hq) (hok1 q hq), fun _ _ h => ⟨h, rfl⟩, fun _ _ _ _ h => ⟨h, rfl, rfl⟩, fun _ _ h => ⟨h, rfl⟩⟩
    obtain ⟨own2, q1, q2, q3⟩ : ∃ own2, (bif b then J (k + 1) else fun W _ => Jx W) W2 own2 ∧ (∀ q, own2 q → q < W2.heap.size) ∧ ∀ q, x1.ok q → ¬ own2 q := by
      cases b with
      | true =>
        obtain ⟨own', e1, e2⟩ := k3 rfl
        exact ⟨own', e1, hJb _ _ _ e1, fun q hq ho => by
          rcases e2 q ho with e | e
          · exact hok1 q hq e
          · have := hC1.h.okb q hq
            omega⟩
      | false => exact ⟨fun _ => False, k4 rfl, fun _ h => h.elim, fun _ _ h => h⟩
    have hd1 : a1.defers = [] := by
      obtain ⟨Ds, e1, _, _, e4⟩ := hC1.d
      rw [e1, e4 (by simp)]
      rfl
    have hH2 : HRel W2 x1 s1.hp := by
      rw [h1]
      exact ⟨fun q hq => Nat.lt_of_lt_of_le (hC1.h.okb q hq) k2, fun id o hl => by simp [look] at hl, fun id t sz g els g' hl => by simp [look] at hl, fun id t sz g els hl => by simp [look] at hl, fun id o b hl => by simp [look] at hl, fun id id' o o' b hl => by simp [look] at hl, fun id o hl => by simp [look] at hl⟩
    have hC2 : Core ⟨W2, x1, s1.hp, some none⟩ (· < s.nx + pre.length) { s1 with nx := s.nx + pre.length, lo := s.nx + pre.length } a1 W2 x1 :=
      ⟨hH2, fun t u0 ht => (hC1.t t u0 ht).mono hm, hC1.n, by rw [hd1]; exact Mk.nil _ _ _, Tr.refl _ _ _, Mo.refl _ _ _, hC1.dom, Nat.le_refl _, hC1.dom⟩
    have hdst : ∀ k, o.dst = some k → k < s1.nt := fun k hk => by
      have h1 := (Array.all_eq_true_iff_forall_mem.1 hd') o (Array.mem_of_getElem? hi)
      rw [hk] at h1
      rw [hnt]
      simpa using h1
    have hN := hC2.next (nid := 0) (wr := []) (v := .raw (.bool b)) (val := .bool b) (d := o.dst) hdst (Stp.refl hC2.h) (.raw _) (fun _ _ h => .inl h)
    have hC3 : Core ⟨W2, x1, s1.hp, some none⟩ (· < s.nx + pre.length) (({ s1 with nx := s.nx + pre.length, lo := s.nx + pre.length } : St).put o.dst (.raw (.bool b))) (a1.put o.dst (.bool b)) W2 x1 :=
      ⟨hN.h, hN.t, hN.n, hN.d, hN.tr, hN.mo, hN.lo, hN.ln, hC2.dom⟩
    have hlast : wpOpsIn (wR (some none)) 0 P ops (fun e a' W' => ∃ s' I', Q e s' I' ∧ IR I' s' a' W') (List.range' (pre.length + 1 + 0) post.length ++ []) (a1.put o.dst (.bool b)) W2 := by
      refine runPre_s (B := ⟨W2, x1, s1.hp, some none⟩) (nt := s.nt) (nx := s.nx + pre.length) (q := pre.length + 1) (n := post.length) hE hd' ?_ post 0 _ (a1.put o.dst (.bool b)) W2 x1 (by simp) (fun j hj => ?_) (by rw [← hnt]; cases o.dst <;> rfl) (by cases o.dst <;> rfl) (by simpa using hC3) (h5 b)
      · rintro s4 a4 W4 x4 ⟨s5, e1, e2, e3⟩ hnx4 hnt4 hC4
        have hC5 : Core ⟨W2, x1, [], some none⟩ (· < s4.nx + post.length) { s4 with nx := s4.nx + post.length } a4 W4 x4 := by
          rw [h1] at hC4
          exact ⟨hC4.h, hC4.t, hC4.n, hC4.d, hC4.tr, hC4.mo, hC4.lo, Nat.le_trans hC4.ln (Nat.le_add_right _ _), fun id g hd => by have := hC4.dom id g hd; rw [hnx4]; exact this⟩
        refine ⟨s5, _, e3, IR.next ?_ q1 q2 q3 e2 (e1 _ _ _ ⟨x4, hC5⟩)⟩
        cases b with
        | true => exact hJ _
        | false => exact fun A A' own h hg => hJx A A' h hg
      · rw [hops, List.getElem?_toArray, List.getElem?_append_right (by omega), show pre.length + 1 + 0 + j - pre.length = j + 1 by omega]
        simp [hj]
    simpa using hlast
  · rw [hops]
    simp only [List.getElem?_toArray, Nat.zero_add]
    rw [List.getElem?_append_left hj]
    simp [hj]
theorem YV.yieldAt (n : Nat) {E : EvT} (hE : EvOk P T E) {id l k g : Nat} {ops : List Oper} {o : Oper} {c : Call} {J : Nat → World → (Nat → Prop) → Prop} {Jx : World → Prop} {us : List (List AV)} {u : List AV} (hn : ops[n]? = some o)
    (hJ : ∀ k, GrowI (J k)) (hJx : ∀ A A', Jx A → Grows A A' → Jx A') (hJb : ∀ k W own, J k W own → ∀ b, own b → b < W.heap.size) (hY : YieldOk P l J Jx us) (hu : us[k]? = some u)
    (ho : o.op = .call c) (hcal : c.callee = .value (.tmp g)) (hd : dstOk ops.toArray s.nt = true) {ds : List (Option Nat)} (hds : ops.map (·.dst) = ds)
    (h : ∀ K : Bool → St → Prop, (∀ b s', (∃ s5, Sub s' s5 ∧ s5.hp = [] ∧ Q .normal s5 (bif b then J (k + 1) else fun W _ => Jx W)) → K b s') → runPre E P T ds (ops.take n) 0 ⟨s.tm, [], s.nx, s.nt, s.nx⟩ fun s1 => s1.hp = [] ∧ look s1.tm g = some (.fn (.yield l) [] []) ∧ argOk s1.tm c.args.toList u ∧ gdOk s1.tm ds o.guard ∧
      ∀ b : Bool, runPre E P T ds (ops.drop (n + 1)) 0 (({ s1 with nx := s.nx + (ops.take n).length, lo := s.nx + (ops.take n).length } : St).put o.dst (.raw (.bool b))) fun s4 => K b { s4 with nx := s4.nx + (ops.drop (n + 1)).length }) :
    YV P (.region id ops.toArray false) Q s (J k) := by
  have hlt : n < ops.length := (List.getElem?_eq_some_iff.1 hn).1
  have hsp : ops = ops.take n ++ o :: ops.drop (n + 1) := by
    have h1 : ops.drop n = o :: ops.drop (n + 1) := by
      rw [List.drop_eq_getElem_cons hlt]
      congr 1
      exact (List.getElem?_eq_some_iff.1 hn).2
    rw [← h1, List.take_append_drop]
  have key := YV.yield (id := id) (pre := ops.take n) (post := ops.drop (n + 1)) (o := o) (Q := Q) (s := s) (ds := ds) hE hJ hJx hJb hY hu ho hcal (by rw [← hsp]; exact hd) (by rw [← hsp]; exact hds) (h (fun b s' => ∃ s5, Sub s' s5 ∧ s5.hp = [] ∧ Q .normal s5 (bif b then J (k + 1) else fun W _ => Jx W)) fun _ _ h => h)
  rwa [← hsp] at key
theorem ItC.of {gf : FuncId} {fn : Func} {c : Code} (hf : P.funcs[gf]? = some fn) (hb : fn.body = some c) (nt : Nat) (hnt : fn.ntmps = nt) (hres : fn.results.toList = []) {caps : List AV} {us : List (List AV)} (hn : decide (caps.length + 1 ≤ nt) = true) (hin : (caps.all (AV.in3 (Hp.has []))) = true)
    (h : ∀ (l : Nat) (J : Nat → World → (Nat → Prop) → Prop) (Jx : World → Prop), (∀ k, GrowI (J k)) → (∀ A A', Jx A → Grows A A' → Jx A') → (∀ k W own, J k W own → ∀ b, own b → b < W.heap.size) → YieldOk P l J Jx us →
      YV P c (fun e _ I => (e = .normal ∨ e = .ret) ∧ (I = J us.length ∨ I = fun W _ => Jx W)) ⟨(0, .fn (.yield l) [] []) :: enumA 1 caps, [], 0, nt, 0⟩ (J 0)) : ItC P gf caps us := by
  subst hnt
  have hn := of_decide_eq_true hn
  intro W0 x0 lb hH hsz hrel l J Jx hJ hJx hJo hY own h0
  have hres' : fn.results = #[] := by
    apply Array.ext'
    rw [hres]
  refine callsIn_of_wp (F := Fence.wide) (n := 0) hf hb trivial ?_
  have hS0 : SubH [] ([] : Hp) := fun id o h => h
  have hx : HRel W0 (x0.only (Hp.has [])) [] := hH.sub hS0 (Hp.has []) fun id o h => by simp [look] at h
  have hno : ∀ id g, ¬ (x0.only (Hp.has [])).dom id g := fun id g h => by
    have := h.2
    simp [Hp.has, look] at this
  have hIR : IR (J 0) ⟨(0, .fn (.yield l) [] []) :: enumA 1 caps, [], 0, fn.ntmps, 0⟩ { tmps := (#[Value.func (.yield l) #[] #[]] ++ lb) ++ Array.replicate (fn.ntmps - (#[Value.func (.yield l) #[] #[]] ++ lb).size) undef, defers := [] } W0 := by
    have hb0 := hJo 0 W0 own h0
    refine ⟨own, x0.only (Hp.has []), h0, hb0.1, ⟨hx, fun t u ht => ?_, by simp; omega, Mk.nil _ _ _, Tr.refl _ _ _, Mo.refl _ _ _, fun id g h => absurd h (hno id g), Nat.le_refl _, fun id g h => absurd h (hno id g)⟩, hb0.2⟩
    simp only [look] at ht
    split at ht
    · rename_i e
      subst e
      injection ht with ht
      subst ht
      have e : ((#[Value.func (.yield l) #[] #[]] ++ lb) ++ Array.replicate (fn.ntmps - (#[Value.func (.yield l) #[] #[]] ++ lb).size) undef).getD 0 undef = .func (.yield l) #[] #[] := by
        simp [Array.getD_eq_getD_getElem?, Array.getElem?_append]
      show VRel W0 _ [] _ (((#[Value.func (.yield l) #[] #[]] ++ lb) ++ Array.replicate (fn.ntmps - (#[Value.func (.yield l) #[] #[]] ++ lb).size) undef).getD 0 undef)
      rw [e]
      exact .fn _ [] [] #[] #[] rfl rfl (fun i u h => by simp at h) (fun i u h => by simp at h)
    · obtain ⟨h1, h2⟩ := look_enumA caps 1 t u ht
      have h4 := lt_of_get h2
      have e : ((#[Value.func (.yield l) #[] #[]] ++ lb) ++ Array.replicate (fn.ntmps - (#[Value.func (.yield l) #[] #[]] ++ lb).size) undef).getD t undef = lb.getD (t - 1) undef := by
        simp only [Array.getD_eq_getD_getElem?]
        rw [Array.getElem?_append_left (by simp; omega), Array.getElem?_append_right (by simpa using h1)]
        simp
      show VRel W0 _ [] u (((#[Value.func (.yield l) #[] #[]] ++ lb) ++ Array.replicate (fn.ntmps - (#[Value.func (.yield l) #[] #[]] ++ lb).size) undef).getD t undef)
      rw [e]
      exact ((hrel (t - 1) u h2).in3_ (all_at hin h2)).mono (Mo.sub hS0)
  refine wpIn_mono (h l J Jx (fun k A A' own => hJ k A A' own) hJx (fun k W own h => (hJo k W own h).1) (fun k u vals W own a b c d => hY k u vals W own a b c d) _ W0 hIR) ?_
  rintro e a' W' ⟨s', I', ⟨he, hI⟩, own', x', q1, q2, hC', q3⟩
  have hd : a'.defers = [] := by
    obtain ⟨Ds, e1, _, _, e4⟩ := hC'.d
    rw [e1, e4 (by simp)]
    rfl
  have hfin : (∃ own', J us.length W' own') ∨ Jx W' := by
    rcases hI with rfl | rfl
    · exact .inl ⟨own', q1⟩
    · exact .inr q1
  have hr : ∃ v, (results fn a'.tmps).run P W' = .ok v W' := by
    refine ⟨.tuple #[], ?_⟩
    rw [results_eq, hres']
    simp
  obtain ⟨v, hv⟩ := hr
  rcases he with rfl | rfl
  · exact ⟨hd, v, hv, ⟨v, rfl⟩, hfin⟩
  · exact ⟨hd, v, hv, ⟨v, rfl⟩, hfin⟩
end
structure AN (n : Nat) where
  l : List Int
  h : l.length = n
def AN.get {n : Nat} (a : AN n) (k : Nat) : Int := a.l.getD k 0
def AN.set {n : Nat} (a : AN n) (k : Nat) (v : Int) : AN n := ⟨a.l.set k v, by simp [a.h]⟩
def AN.zero (n : Nat) : AN n := ⟨List.replicate n 0, by simp⟩
def encAN {n : Nat} (a : AN n) : List AV := a.l.map fun x => .raw (.int .i64 x)
theorem encAN_len {n : Nat} (a : AN n) : (encAN a).length = n := by simp [encAN, a.h]
theorem encAN_get {n : Nat} (a : AN n) {k : Nat} (hk : k < n) : (encAN a)[k]? = some (.raw (.int .i64 (a.get k))) := by
  have : k < a.l.length := by rw [a.h]; exact hk
  simp [encAN, AN.get, this]
theorem encAN_set {n : Nat} (a : AN n) (k : Nat) (v : Int) : (encAN a).set k (.raw (.int .i64 v)) = encAN (a.set k v) := by
  simp [encAN, AN.set, List.map_set]
theorem encAN_lo {n : Nat} (a : AN n) : (encAN a).map AV.lo0 = encAN a := by simp [encAN, AV.lo0]
theorem encAN_ren {n : Nat} (a : AN n) (π : Nat → Nat) : (encAN a).map (AV.ren1 π) = encAN a := by simp [encAN, AV.ren1, AV.ren0]
theorem encAN_in {n : Nat} (a : AN n) (d : Nat → Bool) : (encAN a).all (AV.in1 d) = true := by simp [encAN, AV.in1, AV.in0]
theorem AN.un (n : Nat) (x : Int) : List.replicate (n + 1) x = x :: List.replicate n x := Eq.trans rfl rfl
attribute [push_cast] encAN_len encAN_get encAN_set encAN_lo encAN_ren encAN_in
attribute [push_cast] putAll
theorem cast64_rem (x y : UInt64) : ((x % y).toNat : Int) = Int.tmod (x.toNat : Int) (y.toNat : Int) := by
  rw [UInt64.toNat_mod, Int.ofNat_tmod]
theorem cast64_quo (x y : UInt64) : ((x / y).toNat : Int) = IntKind.u64.wrap (Int.tdiv (x.toNat : Int) (y.toNat : Int)) := by
  have h1 : Int.tdiv (x.toNat : Int) (y.toNat : Int) = ((x.toNat / y.toNat : Nat) : Int) := (Int.ofNat_tdiv _ _).symm
  have h2 := x.toNat_lt
  have h3 : x.toNat / y.toNat ≤ x.toNat := Nat.div_le_self _ _
  rw [h1, UInt64.toNat_div, IntKind.wrap_u64]
  have hq : x.toNat / y.toNat < 18446744073709551616 := by omega
  generalize x.toNat / y.toNat = q at hq
  omega
theorem cast64_sub (x y : UInt64) : ((x - y).toNat : Int) = IntKind.u64.wrap ((x.toNat : Int) - (y.toNat : Int)) := by
  have h1 := x.toNat_lt
  have h2 := y.toNat_lt
  rw [IntKind.wrap_u64, UInt64.toNat_sub]
  omega
theorem cast64_mul (x y : UInt64) : ((x * y).toNat : Int) = IntKind.u64.wrap ((x.toNat : Int) * (y.toNat : Int)) := by
  rw [IntKind.wrap_u64, UInt64.toNat_mul]
  simp
theorem cast_min32 (a b : UInt32) : ((min32 a b).toNat : Int) = if b.toNat < a.toNat then (b.toNat : Int) else (a.toNat : Int) := by
  rw [← min32_of]
  simp only [Int.ofNat_lt]
theorem cast_max32 (a b : UInt32) : ((max32 a b).toNat : Int) = if a.toNat < b.toNat then (b.toNat : Int) else (a.toNat : Int) := by
  rw [← max32_of]
  simp only [GT.gt, Int.ofNat_lt]
theorem cast_min64 (a b : UInt64) : ((min64 a b).toNat : Int) = if b.toNat < a.toNat then (b.toNat : Int) else (a.toNat : Int) := by
  rw [← min64_of]
  simp only [Int.ofNat_lt]
theorem cast_max64 (a b : UInt64) : ((max64 a b).toNat : Int) = if a.toNat < b.toNat then (b.toNat : Int) else (a.toNat : Int) := by
  rw [← max64_of]
  simp only [GT.gt, Int.ofNat_lt]
theorem cast32_64 (x : UInt64) : (x.toUInt32.toNat : Int) = IntKind.u32.wrap (x.toNat : Int) := by
  rw [IntKind.wrap_u32, UInt64.toNat_toUInt32]
  omega
theorem cast8_64 (x : UInt64) : (x.toUInt8.toNat : Int) = IntKind.u8.wrap (x.toNat : Int) := by
  rw [IntKind.wrap_u8, UInt64.toNat_toUInt8]
  omega
theorem cast8_32 (x : UInt32) : (x.toUInt8.toNat : Int) = IntKind.u8.wrap (x.toNat : Int) := by
  rw [IntKind.wrap_u8, UInt32.toNat_toUInt8]
  omega
attribute [push_cast] cast32_64 cast8_64 cast8_32
attribute [push_cast] cast64_rem cast64_quo cast64_sub cast64_mul cast_min32 cast_max32 cast_min64 cast_max64
noncomputable def p_alu_deeds_1 (a0 : UInt32) (a1 : UInt32) : Option (UInt32) :=
  some a1
theorem c_alu_deeds_1 {a0 : UInt32} {a1 : UInt32} {r : UInt32} (h : p_alu_deeds_1 a0 a1 = some r) : Ctr prog 154 [ru a0, ru a1] [] (ru r) [] := by
 unfold p_alu_deeds_1 at h; refine Ctr.ofW tabOk func154 rfl call154 0 _ ntmps154 [.tmp 4] rfl rfl rfl (fun B => ?_); refine vs [1] (fun K hK => ?_); push_cast; refine hK _ ?_; clear hK K; refine vs [4] (fun K hK => ?_); push_cast; refine hK _ ?_; clear hK K; refine VC.ret ?_; replace h := Option.some.inj h; subst h; exact en (by push_cast)
noncomputable def p_alu_deeds_10 (a0 : UInt32) (a1 : UInt32) : Option (UInt32) :=
  some (shl32 a0 (Int.tmod (a1.toNat : Int) 32))
theorem c_alu_deeds_10 {a0 : UInt32} {a1 : UInt32} {r : UInt32} (h : p_alu_deeds_10 a0 a1 = some r) : Ctr prog 163 [ru a0, ru a1] [] (ru r) [] := by
 unfold p_alu_deeds_10 at h; refine Ctr.ofW tabOk func163 rfl call163 0 _ ntmps163 [.tmp 4] rfl rfl rfl (fun B => ?_); refine vs [0, 1] (fun K hK => ?_); push_cast; refine hK _ ?_; clear hK K; refine vs [4] (fun K hK => ?_); push_cast; refine hK _ ?_; clear hK K; refine VC.ret ?_; replace h := Option.some.inj h; subst h; exact en (by push_cast)
noncomputable def p_alu_deeds_11 (a0 : UInt32) (a1 : UInt32) : Option (UInt32) :=
  some (shr32 a0 (Int.tmod (a1.toNat : Int) 32))
theorem c_alu_deeds_11 {a0 : UInt32} {a1 : UInt32} {r : UInt32} (h : p_alu_deeds_11 a0 a1 = some r) : Ctr prog 164 [ru a0, ru a1] [] (ru r) [] := by
 unfold p_alu_deeds_11 at h; refine Ctr.ofW tabOk func164 rfl call164 0 _ ntmps164 [.tmp 4] rfl rfl rfl (fun B => ?_); refine vs [0, 1] (fun K hK => ?_); push_cast; refine hK _ ?_; clear hK K; refine vs [4] (fun K hK => ?_); push_cast; refine hK _ ?_; clear hK K; refine VC.ret ?_; replace h := Option.some.inj h; subst h; exact en (by push_cast)
noncomputable def p_alu_deeds_2 (a0 : UInt32) (a1 : UInt32) : Option (UInt32) :=
  some (a0 + a1)
theorem c_alu_deeds_2 {a0 : UInt32} {a1 : UInt32} {r : UInt32} (h : p_alu_deeds_2 a0 a1 = some r) : Ctr prog 155 [ru a0, ru a1] [] (ru r) [] := by
 unfold p_alu_deeds_2 at h; refine Ctr.ofW tabOk func155 rfl call155 0 _ ntmps155 [.tmp 4] rfl rfl rfl (fun B => ?_); refine vs [0, 1] (fun K hK => ?_); push_cast; refine hK _ ?_; clear hK K; refine vs [4] (fun K hK => ?_); push_cast; refine hK _ ?_; clear hK K; refine VC.ret ?_; replace h := Option.some.inj h; subst h; exact en (by push_cast)
noncomputable def p_alu_deeds_3 (a0 : UInt32) (a1 : UInt32) : Option (UInt32) :=
  some (a0 - a1)
theorem c_alu_deeds_3 {a0 : UInt32} {a1 : UInt32} {r : UInt32} (h : p_alu_deeds_3 a0 a1 = some r) : Ctr prog 156 [ru a0, ru a1] [] (ru r) [] := by
 unfold p_alu_deeds_3 at h; refine Ctr.ofW tabOk func156 rfl call156 0 _ ntmps156 [.tmp 4] rfl rfl rfl (fun B => ?_); refine vs [0, 1] (fun K hK => ?_); push_cast; refine hK _ ?_; clear hK K; refine vs [4] (fun K hK => ?_); push_cast; refine hK _ ?_; clear hK K; refine VC.ret ?_; replace h := Option.some.inj h; subst h; exact en (by push_cast)
noncomputable def p_alu_deeds_4 (a0 : UInt32) (a1 : UInt32) : Option (UInt32) :=
  some (a0 * a1)
theorem c_alu_deeds_4 {a0 : UInt32} {a1 : UInt32} {r : UInt32} (h : p_alu_deeds_4 a0 a1 = some r) : Ctr prog 157 [ru a0, ru a1] [] (ru r) [] := by
 unfold p_alu_deeds_4 at h; refine Ctr.ofW tabOk func157 rfl call157 0 _ ntmps157 [.tmp 4] rfl rfl rfl (fun B => ?_); refine vs [0, 1] (fun K hK => ?_); push_cast; refine hK _ ?_; clear hK K; refine vs [4] (fun K hK => ?_); push_cast; refine hK _ ?_; clear hK K; refine VC.ret ?_; replace h := Option.some.inj h; subst h; exact en (by push_cast)
noncomputable def p_alu_deeds_5 (a0 : UInt32) (a1 : UInt32) : Option (UInt32) :=
  cond ((a1.toNat : Int) == 0) (
  some 0) (
  pg ((a1.toNat : Int) ≠ 0) <|
  some (a0 / a1))
theorem c_alu_deeds_5 {a0 : UInt32} {a1 : UInt32} {r : UInt32} (h : p_alu_deeds_5 a0 a1 = some r) : Ctr prog 158 [ru a0, ru a1] [] (ru r) [] := by
 unfold p_alu_deeds_5 at h; refine Ctr.ofW tabOk func158 rfl call158 0 _ ntmps158 [.tmp 4] rfl rfl rfl (fun B => ?_); refine vs [0, 1] (fun K hK => ?_); push_cast; refine hK _ ?_; clear hK K; refine VC.seq ?_; refine vs [0, 1, 6] (fun K hK => ?_); push_cast; refine hK _ ?_; clear hK K; refine vc h (fun hb1 h => ?_) (fun hb1 h => ?_)
 ·refine vs [4] (fun K hK => ?_); push_cast; refine hK _ ?_; clear hK K; refine VC.ret ?_; replace h := Option.some.inj h; subst h; exact en (by push_cast [hb1])
 ·refine VC.skip ?_; obtain ⟨hg2, h⟩ := pg_some h; refine vs [4] (fun K hK => ?_); push_cast [hg2]; (repeat refine .intro (by omega) ?_); refine hK _ ?_; clear hK K; refine VC.ret ?_; replace h := Option.some.inj h; subst h; exact en (by push_cast [hb1])
noncomputable def p_alu_deeds_6 (a0 : UInt32) (a1 : UInt32) : Option (UInt32) :=
  cond ((a1.toNat : Int) == 0) (
  some a0) (
  pg ((a1.toNat : Int) ≠ 0) <|
  some (a0 % a1))
theorem c_alu_deeds_6 {a0 : UInt32} {a1 : UInt32} {r : UInt32} (h : p_alu_deeds_6 a0 a1 = some r) : Ctr prog 159 [ru a0, ru a1] [] (ru r) [] := by
 unfold p_alu_deeds_6 at h; refine Ctr.ofW tabOk func159 rfl call159 0 _ ntmps159 [.tmp 4] rfl rfl rfl (fun B => ?_); refine vs [0, 1] (fun K hK => ?_); push_cast; refine hK _ ?_; clear hK K; refine VC.seq ?_; refine vs [0, 1, 6] (fun K hK => ?_); push_cast; refine hK _ ?_; clear hK K; refine vc h (fun hb1 h => ?_) (fun hb1 h => ?_)
 ·refine vs [4] (fun K hK => ?_); push_cast; refine hK _ ?_; clear hK K; refine VC.ret ?_; replace h := Option.some.inj h; subst h; exact en (by push_cast [hb1])
 ·refine VC.skip ?_; obtain ⟨hg2, h⟩ := pg_some h; refine vs [4] (fun K hK => ?_); push_cast [hg2]; (repeat refine .intro (by omega) ?_); refine hK _ ?_; clear hK K; refine VC.ret ?_; replace h := Option.some.inj h; subst h; exact en (by push_cast [hb1])
noncomputable def p_alu_deeds_7 (a0 : UInt32) (a1 : UInt32) : Option (UInt32) :=
  some (a0 &&& a1)
theorem c_alu_deeds_7 {a0 : UInt32} {a1 : UInt32} {r : UInt32} (h : p_alu_deeds_7 a0 a1 = some r) : Ctr prog 160 [ru a0, ru a1] [] (ru r) [] := by
 unfold p_alu_deeds_7 at h; refine Ctr.ofW tabOk func160 rfl call160 0 _ ntmps160 [.tmp 4] rfl rfl rfl (fun B => ?_); refine vs [0, 1] (fun K hK => ?_); push_cast; refine hK _ ?_; clear hK K; refine vs [4] (fun K hK => ?_); push_cast; refine hK _ ?_; clear hK K; refine VC.ret ?_; replace h := Option.some.inj h; subst h; exact en (by push_cast)
noncomputable def p_alu_deeds_8 (a0 : UInt32) (a1 : UInt32) : Option (UInt32) :=
  some (a0 ||| a1)
theorem c_alu_deeds_8 {a0 : UInt32} {a1 : UInt32} {r : UInt32} (h : p_alu_deeds_8 a0 a1 = some r) : Ctr prog 161 [ru a0, ru a1] [] (ru r) [] := by
 unfold p_alu_deeds_8 at h; refine Ctr.ofW tabOk func161 rfl call161 0 _ ntmps161 [.tmp 4] rfl rfl rfl (fun B => ?_); refine vs [0, 1] (fun K hK => ?_); push_cast; refine hK _ ?_; clear hK K; refine vs [4] (fun K hK => ?_); push_cast; refine hK _ ?_; clear hK K; refine VC.ret ?_; replace h := Option.some.inj h; subst h; exact en (by push_cast)
noncomputable def p_alu_deeds_9 (a0 : UInt32) (a1 : UInt32) : Option (UInt32) :=
  some (a0 ^^^ a1)
theorem c_alu_deeds_9 {a0 : UInt32} {a1 : UInt32} {r : UInt32} (h : p_alu_deeds_9 a0 a1 = some r) : Ctr prog 162 [ru a0, ru a1] [] (ru r) [] := by
 unfold p_alu_deeds_9 at h; refine Ctr.ofW tabOk func162 rfl call162 0 _ ntmps162 [.tmp 4] rfl rfl rfl (fun B => ?_); refine vs [0, 1] (fun K hK => ?_); push_cast; refine hK _ ?_; clear hK K; refine vs [4] (fun K hK => ?_); push_cast; refine hK _ ?_; clear hK K; refine VC.ret ?_; replace h := Option.some.inj h; subst h; exact en (by push_cast)
noncomputable def p_alu_deeds : Option (Unit) :=
  some ()
theorem c_alu_deeds {r : Unit} (h : p_alu_deeds = some r) : Ctr prog 116 [] [] (.agg [.fn (.func 154) [] [], .fn (.func 155) [] [], .fn (.func 156) [] [], .fn (.func 157) [] [], .fn (.func 158) [] [], .fn (.func 159) [] [], .fn (.func 160) [] [], .fn (.func 161) [] [], .fn (.func 162) [] [], .fn (.func 163) [] [], .fn (.func 164) [] []]) [] := by
 unfold p_alu_deeds at h; refine Ctr.ofW tabOk func116 rfl call116 0 _ ntmps116 [.cell 0 197] rfl rfl rfl (fun B => ?_); refine vs [0] (fun K hK => ?_); push_cast (maxSteps := 9000000) [-partsQ]; refine hK _ ?_; clear hK K; refine vs [0] (fun K hK => ?_); refine runOps_cut 8 (fun K2 hK2 => ?_); push_cast (maxSteps := 9000000) [-partsQ]; refine hK2 _ _ ?_; clear hK2 K2; simp only [List.drop_succ_cons, List.drop_zero]; push_cast (maxSteps := 9000000) [-partsQ]; refine hK _ ?_; clear hK K; refine VC.ret ?_; replace h := Option.some.inj h; subst h; exact en (by push_cast (maxSteps := 9000000) [-partsQ])
noncomputable def p_alu_Do_J1 (a0 : Int) (a1 : UInt32) (a2 : UInt32) (i_1 : Bool) : Option (UInt32 × Bool) :=
  cond i_1 (
  some (0, false)) (
  po (some ()) fun r5 =>
  cond (a0 == 0) (
  po (p_alu_deeds_1 a1 a2) fun r7 =>
  some (r7, true)) (
  cond (a0 == 1) (
  po (p_alu_deeds_2 a1 a2) fun r9 =>
  some (r9, true)) (
  cond (a0 == 2) (
  po (p_alu_deeds_3 a1 a2) fun r11 =>
  some (r11, true)) (
  cond (a0 == 3) (
  po (p_alu_deeds_4 a1 a2) fun r13 =>
  some (r13, true)) (
  cond (a0 == 4) (
  po (p_alu_deeds_5 a1 a2) fun r15 =>
  some (r15, true)) (
  cond (a0 == 5) (
  po (p_alu_deeds_6 a1 a2) fun r17 =>
  some (r17, true)) (
  cond (a0 == 6) (
  po (p_alu_deeds_7 a1 a2) fun r19 =>
  some (r19, true)) (
  cond (a0 == 7) (
  po (p_alu_deeds_8 a1 a2) fun r21 =>
  some (r21, true)) (
  cond (a0 == 8) (
  po (p_alu_deeds_9 a1 a2) fun r23 =>
  some (r23, true)) (
  cond (a0 == 9) (
  po (p_alu_deeds_10 a1 a2) fun r25 =>
  some (r25, true)) (
  cond (a0 == 10) (
  po (p_alu_deeds_11 a1 a2) fun r27 =>
  some (r27, true)) (
  none))))))))))))
noncomputable def p_alu_Do (a0 : Int) (a1 : UInt32) (a2 : UInt32) : Option (UInt32 × Bool) :=
  po (
  cond (decide (a0 < 0)) (
  some true) (
  some (decide (a0 ≥ 11)))) (fun x => p_alu_Do_J1 a0 a1 a2 x)
theorem c_alu_Do {a0 : Int} {a1 : UInt32} {a2 : UInt32} {r : UInt32 × Bool} (h : p_alu_Do a0 a1 a2 = some r) : Ctr prog 81 [ri a0, ru a1, ru a2] [] (.tup [ru r.1, rb r.2]) [] := by
 unfold p_alu_Do at h; refine Ctr.ofW tabOk func81 rfl call81 0 _ ntmps81 [.tmp 6, .tmp 7] rfl rfl rfl (fun B => ?_); refine vs [0, 1, 2] (fun K hK => ?_); push_cast; refine hK _ ?_; clear hK K; refine VC.seq ?_; refine vj h (fun x => ⟨[(0, ri a0), (1, ru a1), (2, ru a2), (13, rb x)], [], 8, 21, 0⟩) (fun v1 h hk1 => ?_) ?_
 ·rcases Bool.eq_false_or_eq_true (decide (a0 < 0)) with hb2 | hb2
  ·replace h := cond_yes hb2 h; refine vlG [some 8, some 9, some 10, some 11, some 12, some 13] (fun K hK => ?_); push_cast [hb2]; (repeat refine .intro (by omega) ?_); refine hK _ ?_; clear hK K; refine ar h hk1 ?_; exact sl (by push_cast [hb2])
  ·replace h := cond_no hb2 h; refine vlG [some 8, some 9, some 10, some 11, some 12, some 13] (fun K hK => ?_); push_cast [hb2]; (repeat refine .intro (by omega) ?_); refine hK _ ?_; clear hK K; refine ar h hk1 ?_; exact sl (by push_cast [hb2])
 ·rintro i_1 (h : p_alu_Do_J1 a0 a1 a2 i_1 = some r); (try push_cast); unfold p_alu_Do_J1 at h; refine vc h (fun hb3 h => ?_) (fun hb3 h => ?_)
  ·refine vs [6, 7] (fun K hK => ?_); push_cast; refine hK _ ?_; clear hK K; refine VC.ret ?_; replace h := Option.some.inj h; subst h; exact en (by push_cast [hb3])
  ·refine VC.skip ?_; obtain ⟨r5, hr5, h⟩ := po_some h; rcases Bool.eq_false_or_eq_true (a0 == 0) with hb6 | hb6
   ·replace h := cond_yes hb6 h; have hb6e : a0 = 0 := by simpa using hb6
    have hb6n : a0.toNat = 0 := by omega
    obtain ⟨r7, hr7, h⟩ := po_some h; refine vs [6, 7] (fun K hK => ?_); push_cast [hb6n]; (repeat refine .intro (by omega) ?_); refine cp (c_alu_deeds hr5) ?_; push_cast [hb6n]; (repeat refine .intro (by omega) ?_); refine cp (c_alu_deeds_1 hr7) ?_; push_cast [hb6n]; (repeat refine .intro (by omega) ?_); refine hK _ ?_; clear hK K; refine VC.ret ?_; replace h := Option.some.inj h; subst h; exact en (by push_cast [hb3])
   ·replace h := cond_no hb6 h; rcases Bool.eq_false_or_eq_true (a0 == 1) with hb8 | hb8
    ·replace h := cond_yes hb8 h; have hb8e : a0 = 1 := by simpa using hb8
     have hb8n : a0.toNat = 1 := by omega
     obtain ⟨r9, hr9, h⟩ := po_some h; refine vs [6, 7] (fun K hK => ?_); push_cast [hb8n]; (repeat refine .intro (by omega) ?_); refine cp (c_alu_deeds hr5) ?_; push_cast [hb8n]; (repeat refine .intro (by omega) ?_); refine cp (c_alu_deeds_2 hr9) ?_; push_cast [hb8n]; (repeat refine .intro (by omega) ?_); refine hK _ ?_; clear hK K; refine VC.ret ?_; replace h := Option.some.inj h; subst h; exact en (by push_cast [hb3])
    ·replace h := cond_no hb8 h; rcases Bool.eq_false_or_eq_true (a0 == 2) with hb10 | hb10
     ·replace h := cond_yes hb10 h; have hb10e : a0 = 2 := by simpa using hb10
      have hb10n : a0.toNat = 2 := by omega
      obtain ⟨r11, hr11, h⟩ := po_some h; refine vs [6, 7] (fun K hK => ?_); push_cast [hb10n]; (repeat refine .intro (by omega) ?_); refine cp (c_alu_deeds hr5) ?_; push_cast [hb10n]; (repeat refine .intro (by omega) ?_); refine cp (c_alu_deeds_3 hr11) ?_; push_cast [hb10n]; (repeat refine .intro (by omega) ?_); refine hK _ ?_; clear hK K; refine VC.ret ?_; replace h := Option.some.inj h; subst h; exact en (by push_cast [hb3])
     ·replace h := cond_no hb10 h; rcases Bool.eq_false_or_eq_true (a0 == 3) with hb12 | hb12
      ·replace h := cond_yes hb12 h; have hb12e : a0 = 3 := by simpa using hb12
       have hb12n : a0.toNat = 3 := by omega
       obtain ⟨r13, hr13, h⟩ := po_some h; refine vs [6, 7] (fun K hK => ?_); push_cast [hb12n]; (repeat refine .intro (by omega) ?_); refine cp (c_alu_deeds hr5) ?_; push_cast [hb12n]; (repeat refine .intro (by omega) ?_); refine cp (c_alu_deeds_4 hr13) ?_; push_cast [hb12n]; (repeat refine .intro (by omega) ?_); refine hK _ ?_; clear hK K; refine VC.ret ?_; replace h := Option.some.inj h; subst h; exact en (by push_cast [hb3])
      ·replace h := cond_no hb12 h; rcases Bool.eq_false_or_eq_true (a0 == 4) with hb14 | hb14
       ·replace h := cond_yes hb14 h; have hb14e : a0 = 4 := by simpa using hb14
        have hb14n : a0.toNat = 4 := by omega
        obtain ⟨r15, hr15, h⟩ := po_some h; refine vs [6, 7] (fun K hK => ?_); push_cast [hb14n]; (repeat refine .intro (by omega) ?_); refine cp (c_alu_deeds hr5) ?_; push_cast [hb14n]; (repeat refine .intro (by omega) ?_); refine cp (c_alu_deeds_5 hr15) ?_; push_cast [hb14n]; (repeat refine .intro (by omega) ?_); refine hK _ ?_; clear hK K; refine VC.ret ?_; replace h := Option.some.inj h; subst h; exact en (by push_cast [hb3])
       ·replace h := cond_no hb14 h; rcases Bool.eq_false_or_eq_true (a0 == 5) with hb16 | hb16
        ·replace h := cond_yes hb16 h; have hb16e : a0 = 5 := by simpa using hb16
         have hb16n : a0.toNat = 5 := by omega
         obtain ⟨r17, hr17, h⟩ := po_some h; refine vs [6, 7] (fun K hK => ?_); push_cast [hb16n]; (repeat refine .intro (by omega) ?_); refine cp (c_alu_deeds hr5) ?_; push_cast [hb16n]; (repeat refine .intro (by omega) ?_); refine cp (c_alu_deeds_6 hr17) ?_; push_cast [hb16n]; (repeat refine .intro (by omega) ?_); refine hK _ ?_; clear hK K; refine VC.ret ?_; replace h := Option.some.inj h; subst h; exact en (by push_cast [hb3])
        ·replace h := cond_no hb16 h; rcases Bool.eq_false_or_eq_true (a0 == 6) with hb18 | hb18
         ·replace h := cond_yes hb18 h; have hb18e : a0 = 6 := by simpa using hb18
          have hb18n : a0.toNat = 6 := by omega
          obtain ⟨r19, hr19, h⟩ := po_some h; refine vs [6, 7] (fun K hK => ?_); push_cast [hb18n]; (repeat refine .intro (by omega) ?_); refine cp (c_alu_deeds hr5) ?_; push_cast [hb18n]; (repeat refine .intro (by omega) ?_); refine cp (c_alu_deeds_7 hr19) ?_; push_cast [hb18n]; (repeat refine .intro (by omega) ?_); refine hK _ ?_; clear hK K; refine VC.ret ?_; replace h := Option.some.inj h; subst h; exact en (by push_cast [hb3])
         ·replace h := cond_no hb18 h; rcases Bool.eq_false_or_eq_true (a0 == 7) with hb20 | hb20
          ·replace h := cond_yes hb20 h; have hb20e : a0 = 7 := by simpa using hb20
           have hb20n : a0.toNat = 7 := by omega
           obtain ⟨r21, hr21, h⟩ := po_some h; refine vs [6, 7] (fun K hK => ?_); push_cast [hb20n]; (repeat refine .intro (by omega) ?_); refine cp (c_alu_deeds hr5) ?_; push_cast [hb20n]; (repeat refine .intro (by omega) ?_); refine cp (c_alu_deeds_8 hr21) ?_; push_cast [hb20n]; (repeat refine .intro (by omega) ?_); refine hK _ ?_; clear hK K; refine VC.ret ?_; replace h := Option.some.inj h; subst h; exact en (by push_cast [hb3])
          ·replace h := cond_no hb20 h; rcases Bool.eq_false_or_eq_true (a0 == 8) with hb22 | hb22
           ·replace h := cond_yes hb22 h; have hb22e : a0 = 8 := by simpa using hb22
            have hb22n : a0.toNat = 8 := by omega
            obtain ⟨r23, hr23, h⟩ := po_some h; refine vs [6, 7] (fun K hK => ?_); push_cast [hb22n]; (repeat refine .intro (by omega) ?_); refine cp (c_alu_deeds hr5) ?_; push_cast [hb22n]; (repeat refine .intro (by omega) ?_); refine cp (c_alu_deeds_9 hr23) ?_; push_cast [hb22n]; (repeat refine .intro (by omega) ?_); refine hK _ ?_; clear hK K; refine VC.ret ?_; replace h := Option.some.inj h; subst h; exact en (by push_cast [hb3])
           ·replace h := cond_no hb22 h; rcases Bool.eq_false_or_eq_true (a0 == 9) with hb24 | hb24
            ·replace h := cond_yes hb24 h; have hb24e : a0 = 9 := by simpa using hb24
             have hb24n : a0.toNat = 9 := by omega
             obtain ⟨r25, hr25, h⟩ := po_some h; refine vs [6, 7] (fun K hK => ?_); push_cast [hb24n]; (repeat refine .intro (by omega) ?_); refine cp (c_alu_deeds hr5) ?_; push_cast [hb24n]; (repeat refine .intro (by omega) ?_); refine cp (c_alu_deeds_10 hr25) ?_; push_cast [hb24n]; (repeat refine .intro (by omega) ?_); refine hK _ ?_; clear hK K; refine VC.ret ?_; replace h := Option.some.inj h; subst h; exact en (by push_cast [hb3])
            ·replace h := cond_no hb24 h; rcases Bool.eq_false_or_eq_true (a0 == 10) with hb26 | hb26
             ·replace h := cond_yes hb26 h; have hb26e : a0 = 10 := by simpa using hb26
              have hb26n : a0.toNat = 10 := by omega
              obtain ⟨r27, hr27, h⟩ := po_some h; refine vs [6, 7] (fun K hK => ?_); push_cast [hb26n]; (repeat refine .intro (by omega) ?_); refine cp (c_alu_deeds hr5) ?_; push_cast [hb26n]; (repeat refine .intro (by omega) ?_); refine cp (c_alu_deeds_11 hr27) ?_; push_cast [hb26n]; (repeat refine .intro (by omega) ?_); refine hK _ ?_; clear hK K; refine VC.ret ?_; replace h := Option.some.inj h; subst h; exact en (by push_cast [hb3])
             ·replace h := cond_no hb26 h; cases h
noncomputable def p_bounds_span_told (a0 : T_bounds_span) : Option (C128) :=
  some (C128.mk (i2f (a0.low.toNat : Int)) (i2f (a0.high.toNat : Int)))
theorem c_bounds_span_told {a0 : T_bounds_span} {r : C128} (h : p_bounds_span_told a0 = some r) : Ctr prog 227 [.agg (enc_bounds_span a0)] [] (.raw (.complex .f64 r.re r.im)) [] := by
 unfold p_bounds_span_told at h; refine Ctr.ofW tabOk func227 rfl call227 0 _ ntmps227 [.tmp 2] rfl rfl rfl (fun B => ?_); refine vs [1] (fun K hK => ?_); push_cast; refine hK _ ?_; clear hK K; refine vs [2] (fun K hK => ?_); push_cast; refine hK _ ?_; clear hK K; refine VC.ret ?_; replace h := Option.some.inj h; subst h; exact en (by push_cast)
noncomputable def p_bounds_fit_J1 (a0 : UInt64) (a1 : UInt64) (i_1 : Bool) : Option (T_bounds_span) :=
  cond i_1 (
  pl ((4294967295 : UInt64)) fun c4 =>
  some (T_bounds_span.mk 0 c4)) (
  some (T_bounds_span.mk a0 a1))
noncomputable def p_bounds_fit (a0 : UInt64) (a1 : UInt64) : Option (T_bounds_span) :=
  po (
  cond (decide ((a1.toNat : Int) > 4294967295)) (
  some true) (
  some (decide (a0.toNat > a1.toNat)))) (fun x => p_bounds_fit_J1 a0 a1 x)
theorem c_bounds_fit {a0 : UInt64} {a1 : UInt64} {r : T_bounds_span} (h : p_bounds_fit a0 a1 = some r) : Ctr prog 233 [.raw (.int .u64 (a0.toNat : Int)), .raw (.int .u64 (a1.toNat : Int))] [] (.agg (enc_bounds_span r)) [] := by
 unfold p_bounds_fit at h; refine Ctr.ofW tabOk func233 rfl call233 0 _ ntmps233 [.cell 4 311] rfl rfl rfl (fun B => ?_); refine vs [0, 1, 4] (fun K hK => ?_); push_cast; refine hK _ ?_; clear hK K; refine VC.seq ?_; refine vj h (fun x => ⟨[(0, .raw (.int .u64 (a0.toNat : Int))), (1, .raw (.int .u64 (a1.toNat : Int))), (4, .ref 0 0), (11, rb x)], [(0, .box 311 (enc_bounds_span (T_bounds_span.mk 0 0)))], 8, 16, 0⟩) (fun v1 h hk1 => ?_) ?_
 ·rcases Bool.eq_false_or_eq_true (decide ((a1.toNat : Int) > 4294967295)) with hb2 | hb2
  ·replace h := cond_yes hb2 h; refine vlG [some 5, some 6, some 7, some 8, some 9, some 10, some 11] (fun K hK => ?_); push_cast [hb2]; (repeat refine .intro (by omega) ?_); refine hK _ ?_; clear hK K; refine ar h hk1 ?_; exact sl (by push_cast [hb2])
  ·replace h := cond_no hb2 h; refine vlG [some 5, some 6, some 7, some 8, some 9, some 10, some 11] (fun K hK => ?_); push_cast [hb2]; (repeat refine .intro (by omega) ?_); refine hK _ ?_; clear hK K; refine ar h hk1 ?_; exact sl (by push_cast [hb2])
 ·rintro i_1 (h : p_bounds_fit_J1 a0 a1 i_1 = some r); (try push_cast); unfold p_bounds_fit_J1 at h; refine vc h (fun hb3 h => ?_) (fun hb3 h => ?_)
  ·obtain ⟨c4, hc4, h⟩ := pl_some h; have hc4i : (c4.toNat : Int) = 4294967295 := by rw [hc4]; rfl
   refine vs [4] (fun K hK => ?_); push_cast [hc4i]; (repeat refine .intro (by omega) ?_); refine hK _ ?_; clear hK K; refine VC.ret ?_; replace h := Option.some.inj h; subst h; exact en (by push_cast [hb3, hc4i])
  ·refine VC.skip ?_; refine vs [4] (fun K hK => ?_); push_cast; refine hK _ ?_; clear hK K; refine VC.ret ?_; replace h := Option.some.inj h; subst h; exact en (by push_cast [hb3])
noncomputable def p_bounds_word_J1 (i_1 : Bool) : Option (Bool) :=
  some i_1
noncomputable def p_bounds_word (a0 : F64) : Option (Bool) :=
  po (
  cond (fge a0 0) (
  cond (fle a0 4751297606873776128) (
  po (f2u a0) fun x4 =>
  some (feq a0 (i2f (x4.toNat : Int)))) (
  some false)) (
  some false)) (fun x => p_bounds_word_J1 x)
theorem c_bounds_word {a0 : F64} {r : Bool} (h : p_bounds_word a0 = some r) : Ctr prog 235 [.raw (.float .f64 a0)] [] (rb r) [] := by
 unfold p_bounds_word at h; refine Ctr.ofW tabOk func235 rfl call235 0 _ ntmps235 [.tmp 2] rfl rfl rfl (fun B => ?_); refine vs [0] (fun K hK => ?_); push_cast; refine hK _ ?_; clear hK K; refine vj h (fun x => ⟨[(2, rb x)], [], 15, 16, 0⟩) (fun v1 h hk1 => ?_) ?_
 ·rcases Bool.eq_false_or_eq_true (fge a0 0) with hb2 | hb2
  ·replace h := cond_yes hb2 h; rcases Bool.eq_false_or_eq_true (fle a0 4751297606873776128) with hb3 | hb3
   ·replace h := cond_yes hb3 h; obtain ⟨x4, hx4, h⟩ := po_some h; replace hx4 := f2u_some hx4; refine vlG [some 3, some 4, some 5, some 6, some 7, some 8, some 9, some 10, some 11, some 12, some 13, some 14, some 15, some 2] (fun K hK => ?_); refine runOps_cut 8 (fun K2 hK2 => ?_); push_cast [hb2, hb3, hx4]; (repeat refine .intro (by omega) ?_); refine hK2 _ _ ?_; clear hK2 K2; simp only [List.drop_succ_cons, List.drop_zero]; push_cast [hb2, hb3, hx4]; (repeat refine .intro (by omega) ?_); refine hK _ ?_; clear hK K; refine ar h hk1 ?_; exact sl (by push_cast [hb2, hb3])
   ·replace h := cond_no hb3 h; refine vlG [some 3, some 4, some 5, some 6, some 7, some 8, some 9, some 10, some 11, some 12, some 13, some 14, some 15, some 2] (fun K hK => ?_); refine runOps_cut 8 (fun K2 hK2 => ?_); push_cast [hb2, hb3]; (repeat refine .intro (by omega) ?_); refine hK2 _ _ ?_; clear hK2 K2; simp only [List.drop_succ_cons, List.drop_zero]; push_cast [hb2, hb3]; (repeat refine .intro (by omega) ?_); refine hK _ ?_; clear hK K; refine ar h hk1 ?_; exact sl (by push_cast [hb2, hb3])
  ·replace h := cond_no hb2 h; refine vlG [some 3, some 4, some 5, some 6, some 7, some 8, some 9, some 10, some 11, some 12, some 13, some 14, some 15, some 2] (fun K hK => ?_); refine runOps_cut 8 (fun K2 hK2 => ?_); push_cast [hb2]; (repeat refine .intro (by omega) ?_); refine hK2 _ _ ?_; clear hK2 K2; simp only [List.drop_succ_cons, List.drop_zero]; push_cast [hb2]; (repeat refine .intro (by omega) ?_); refine hK _ ?_; clear hK K; refine ar h hk1 ?_; exact sl (by push_cast [hb2])
 ·rintro i_1 (h : p_bounds_word_J1 i_1 = some r); (try push_cast); unfold p_bounds_word_J1 at h; refine VC.ret ?_; replace h := Option.some.inj h; subst h; exact en (by push_cast)
noncomputable def p_bounds_May_J1 (i_1 : Bool) : Option (Bool) :=
  some i_1
noncomputable def p_bounds_May (a0 : C128) : Option (Bool) :=
  po (
  po (p_bounds_word a0.re) fun r2 =>
  cond r2 (
  po (p_bounds_word a0.im) fun r4 =>
  cond r4 (
  some (fle a0.re a0.im)) (
  some false)) (
  some false)) (fun x => p_bounds_May_J1 x)
theorem c_bounds_May {a0 : C128} {r : Bool} (h : p_bounds_May a0 = some r) : Ctr prog 228 [.raw (.complex .f64 a0.re a0.im)] [] (rb r) [] := by
 unfold p_bounds_May at h; refine Ctr.ofW tabOk func228 rfl call228 0 _ ntmps228 [.tmp 2] rfl rfl rfl (fun B => ?_); refine vs [0] (fun K hK => ?_); push_cast; refine hK _ ?_; clear hK K; refine vj h (fun x => ⟨[(2, rb x)], [], 17, 18, 0⟩) (fun v1 h hk1 => ?_) ?_
 ·obtain ⟨r2, hr2, h⟩ := po_some h; rcases Bool.eq_false_or_eq_true r2 with hb3 | hb3
  ·replace h := cond_yes hb3 h; obtain ⟨r4, hr4, h⟩ := po_some h; rcases Bool.eq_false_or_eq_true r4 with hb5 | hb5
   ·replace h := cond_yes hb5 h; refine vlG [some 3, some 4, some 5, some 6, some 7, some 8, some 9, some 10, some 11, some 12, some 13, some 14, some 15, some 16, some 17, some 2] (fun K hK => ?_); refine runOps_cut 8 (fun K2 hK2 => ?_); push_cast [hb3, hb5]; (repeat refine .intro (by omega) ?_); refine cp (c_bounds_word hr2) ?_; push_cast [hb3, hb5]; (repeat refine .intro (by omega) ?_); refine cp (c_bounds_word hr4) ?_; push_cast [hb3, hb5]; (repeat refine .intro (by omega) ?_); refine hK2 _ _ ?_; clear hK2 K2; simp only [List.drop_succ_cons, List.drop_zero]; push_cast [hb3, hb5]; (repeat refine .intro (by omega) ?_); refine hK _ ?_; clear hK K; refine ar h hk1 ?_; exact sl (by push_cast [hb3, hb5])
   ·replace h := cond_no hb5 h; refine vlG [some 3, some 4, some 5, some 6, some 7, some 8, some 9, some 10, some 11, some 12, some 13, some 14, some 15, some 16, some 17, some 2] (fun K hK => ?_); refine runOps_cut 8 (fun K2 hK2 => ?_); push_cast [hb3, hb5]; (repeat refine .intro (by omega) ?_); refine cp (c_bounds_word hr2) ?_; push_cast [hb3, hb5]; (repeat refine .intro (by omega) ?_); refine cp (c_bounds_word hr4) ?_; push_cast [hb3, hb5]; (repeat refine .intro (by omega) ?_); refine hK2 _ _ ?_; clear hK2 K2; simp only [List.drop_succ_cons, List.drop_zero]; push_cast [hb3, hb5]; (repeat refine .intro (by omega) ?_); refine hK _ ?_; clear hK K; refine ar h hk1 ?_; exact sl (by push_cast [hb3, hb5])
  ·replace h := cond_no hb3 h; refine vlG [some 3, some 4, some 5, some 6, some 7, some 8, some 9, some 10, some 11, some 12, some 13, some 14, some 15, some 16, some 17, some 2] (fun K hK => ?_); refine runOps_cut 8 (fun K2 hK2 => ?_); push_cast [hb3]; (repeat refine .intro (by omega) ?_); refine cp (c_bounds_word hr2) ?_; push_cast [hb3]; (repeat refine .intro (by omega) ?_); refine hK2 _ _ ?_; clear hK2 K2; simp only [List.drop_succ_cons, List.drop_zero]; push_cast [hb3]; (repeat refine .intro (by omega) ?_); refine hK _ ?_; clear hK K; refine ar h hk1 ?_; exact sl (by push_cast [hb3])
 ·rintro i_1 (h : p_bounds_May_J1 i_1 = some r); (try push_cast); unfold p_bounds_May_J1 at h; refine VC.ret ?_; replace h := Option.some.inj h; subst h; exact en (by push_cast)
noncomputable def p_bounds_of (a0 : C128) : Option (T_bounds_span) :=
  po (p_bounds_May a0) fun r1 =>
  cond (!r1) (
  pl ((4294967295 : UInt64)) fun c3 =>
  some (T_bounds_span.mk 0 c3)) (
  po (f2u a0.re) fun x4 =>
  po (f2u a0.im) fun x5 =>
  some (T_bounds_span.mk x4 x5))
theorem c_bounds_of {a0 : C128} {r : T_bounds_span} (h : p_bounds_of a0 = some r) : Ctr prog 230 [.raw (.complex .f64 a0.re a0.im)] [] (.agg (enc_bounds_span r)) [] := by
 unfold p_bounds_of at h; refine Ctr.ofW tabOk func230 rfl call230 0 _ ntmps230 [.cell 2 311] rfl rfl rfl (fun B => ?_); refine vs [0, 2] (fun K hK => ?_); push_cast; refine hK _ ?_; clear hK K; refine VC.seq ?_; obtain ⟨r1, hr1, h⟩ := po_some h; refine vs [0, 2, 5] (fun K hK => ?_); push_cast; refine cp (c_bounds_May hr1) ?_; push_cast; refine hK _ ?_; clear hK K; refine vc h (fun hb2 h => ?_) (fun hb2 h => ?_)
 ·obtain ⟨c3, hc3, h⟩ := pl_some h; have hc3i : (c3.toNat : Int) = 4294967295 := by rw [hc3]; rfl
  refine vs [2] (fun K hK => ?_); push_cast [hc3i]; (repeat refine .intro (by omega) ?_); refine hK _ ?_; clear hK K; refine VC.ret ?_; replace h := Option.some.inj h; subst h; exact en (by push_cast [hb2, hc3i])
 ·refine VC.skip ?_; obtain ⟨x4, hx4, h⟩ := po_some h; replace hx4 := f2u_some hx4; obtain ⟨x5, hx5, h⟩ := po_some h; replace hx5 := f2u_some hx5; refine vs [2] (fun K hK => ?_); push_cast [hx4, hx5]; (repeat refine .intro (by omega) ?_); refine hK _ ?_; clear hK K; refine VC.ret ?_; replace h := Option.some.inj h; subst h; exact en (by push_cast [hb2])
noncomputable def p_bounds_rules_1 (a0 : T_bounds_span) (a1 : T_bounds_span) : Option (T_bounds_span) :=
  some a1
theorem c_bounds_rules_1 {a0 : T_bounds_span} {a1 : T_bounds_span} {r : T_bounds_span} (h : p_bounds_rules_1 a0 a1 = some r) : Ctr prog 236 [.agg (enc_bounds_span a0), .agg (enc_bounds_span a1)] [] (.agg (enc_bounds_span r)) [] := by
 unfold p_bounds_rules_1 at h; refine Ctr.ofW tabOk func236 rfl call236 0 _ ntmps236 [.cell 4 311] rfl rfl rfl (fun B => ?_); refine vs [3, 4] (fun K hK => ?_); push_cast; refine hK _ ?_; clear hK K; refine vs [4] (fun K hK => ?_); push_cast; refine hK _ ?_; clear hK K; refine VC.ret ?_; replace h := Option.some.inj h; subst h; exact en (by push_cast)
noncomputable def p_bounds_rules_10 (a0 : T_bounds_span) (a1 : T_bounds_span) : Option (T_bounds_span) :=
  cond ((a1.low.toNat : Int) != (a1.high.toNat : Int)) (
  po (p_bounds_fit 1 0) fun r2 =>
  some r2) (
  pl ((shl64 a0.low (Int.tmod (a1.low.toNat : Int) 32))) fun c3 =>
  pl ((shl64 a0.high (Int.tmod (a1.low.toNat : Int) 32))) fun c4 =>
  po (p_bounds_fit c3 c4) fun r5 =>
  some r5)
theorem c_bounds_rules_10 {a0 : T_bounds_span} {a1 : T_bounds_span} {r : T_bounds_span} (h : p_bounds_rules_10 a0 a1 = some r) : Ctr prog 246 [.agg (enc_bounds_span a0), .agg (enc_bounds_span a1)] [] (.agg (enc_bounds_span r)) [] := by
 unfold p_bounds_rules_10 at h; refine Ctr.ofW tabOk func246 rfl call246 0 _ ntmps246 [.cell 4 311] rfl rfl rfl (fun B => ?_); refine vs [2, 3, 4] (fun K hK => ?_); push_cast; refine hK _ ?_; clear hK K; refine VC.seq ?_; refine vs [2, 3, 4, 10] (fun K hK => ?_); push_cast; refine hK _ ?_; clear hK K; refine vc h (fun hb1 h => ?_) (fun hb1 h => ?_)
 ·obtain ⟨r2, hr2, h⟩ := po_some h; refine vs [4] (fun K hK => ?_); push_cast; refine cp (c_bounds_fit hr2) ?_; push_cast; refine hK _ ?_; clear hK K; refine VC.ret ?_; replace h := Option.some.inj h; subst h; exact en (by push_cast [hb1])
 ·refine VC.skip ?_; refine vs [2, 4, 5] (fun K hK => ?_); push_cast; refine hK _ ?_; clear hK K; obtain ⟨c3, hc3, h⟩ := pl_some h; have hc3i : (((shl64 a0.low (Int.tmod (a1.low.toNat : Int) 32))).toNat : Int) = (c3.toNat : Int) := by rw [hc3]
  push_cast at hc3i; obtain ⟨c4, hc4, h⟩ := pl_some h; have hc4i : (((shl64 a0.high (Int.tmod (a1.low.toNat : Int) 32))).toNat : Int) = (c4.toNat : Int) := by rw [hc4]
  push_cast at hc4i; obtain ⟨r5, hr5, h⟩ := po_some h; refine vs [4] (fun K hK => ?_); push_cast [hc3i, hc4i]; (repeat refine .intro (by omega) ?_); refine cp (c_bounds_fit hr5) ?_; push_cast [hc3i, hc4i]; (repeat refine .intro (by omega) ?_); refine hK _ ?_; clear hK K; refine VC.ret ?_; replace h := Option.some.inj h; subst h; exact en (by push_cast [hb1, hc3i, hc4i])
noncomputable def p_bounds_rules_11 (a0 : T_bounds_span) (a1 : T_bounds_span) : Option (T_bounds_span) :=
  cond ((a1.low.toNat : Int) != (a1.high.toNat : Int)) (
  some (T_bounds_span.mk 0 a0.high)) (
  some (T_bounds_span.mk (shr64 a0.low (Int.tmod (a1.low.toNat : Int) 32)) (shr64 a0.high (Int.tmod (a1.low.toNat : Int) 32))))
theorem c_bounds_rules_11 {a0 : T_bounds_span} {a1 : T_bounds_span} {r : T_bounds_span} (h : p_bounds_rules_11 a0 a1 = some r) : Ctr prog 247 [.agg (enc_bounds_span a0), .agg (enc_bounds_span a1)] [] (.agg (enc_bounds_span r)) [] := by
 unfold p_bounds_rules_11 at h; refine Ctr.ofW tabOk func247 rfl call247 0 _ ntmps247 [.cell 4 311] rfl rfl rfl (fun B => ?_); refine vs [2, 3, 4] (fun K hK => ?_); push_cast; refine hK _ ?_; clear hK K; refine VC.seq ?_; refine vs [2, 3, 4, 10] (fun K hK => ?_); push_cast; refine hK _ ?_; clear hK K; refine vc h (fun hb1 h => ?_) (fun hb1 h => ?_)
 ·refine vs [4] (fun K hK => ?_); push_cast; refine hK _ ?_; clear hK K; refine VC.ret ?_; replace h := Option.some.inj h; subst h; exact en (by push_cast [hb1])
 ·refine VC.skip ?_; refine vs [2, 4, 5] (fun K hK => ?_); push_cast; refine hK _ ?_; clear hK K; refine vs [4] (fun K hK => ?_); push_cast; refine hK _ ?_; clear hK K; refine VC.ret ?_; replace h := Option.some.inj h; subst h; exact en (by push_cast [hb1])
noncomputable def p_bounds_rules_2 (a0 : T_bounds_span) (a1 : T_bounds_span) : Option (T_bounds_span) :=
  pl ((a0.low + a1.low)) fun c1 =>
  pl ((a0.high + a1.high)) fun c2 =>
  po (p_bounds_fit c1 c2) fun r3 =>
  some r3
theorem c_bounds_rules_2 {a0 : T_bounds_span} {a1 : T_bounds_span} {r : T_bounds_span} (h : p_bounds_rules_2 a0 a1 = some r) : Ctr prog 237 [.agg (enc_bounds_span a0), .agg (enc_bounds_span a1)] [] (.agg (enc_bounds_span r)) [] := by
 unfold p_bounds_rules_2 at h; refine Ctr.ofW tabOk func237 rfl call237 0 _ ntmps237 [.cell 4 311] rfl rfl rfl (fun B => ?_); refine vs [2, 3, 4] (fun K hK => ?_); push_cast; refine hK _ ?_; clear hK K; obtain ⟨c1, hc1, h⟩ := pl_some h; have hc1i : (((a0.low + a1.low)).toNat : Int) = (c1.toNat : Int) := by rw [hc1]
 push_cast at hc1i; obtain ⟨c2, hc2, h⟩ := pl_some h; have hc2i : (((a0.high + a1.high)).toNat : Int) = (c2.toNat : Int) := by rw [hc2]
 push_cast at hc2i; obtain ⟨r3, hr3, h⟩ := po_some h; refine vs [4] (fun K hK => ?_); refine runOps_cut 8 (fun K2 hK2 => ?_); push_cast [hc1i, hc2i]; (repeat refine .intro (by omega) ?_); refine hK2 _ _ ?_; clear hK2 K2; simp only [List.drop_succ_cons, List.drop_zero]; push_cast [hc1i, hc2i]; (repeat refine .intro (by omega) ?_); refine cp (c_bounds_fit hr3) ?_; push_cast [hc1i, hc2i]; (repeat refine .intro (by omega) ?_); refine hK _ ?_; clear hK K; refine VC.ret ?_; replace h := Option.some.inj h; subst h; exact en (by push_cast [hc1i, hc2i])
noncomputable def p_bounds_rules_3 (a0 : T_bounds_span) (a1 : T_bounds_span) : Option (T_bounds_span) :=
  cond (decide (a0.low.toNat < a1.high.toNat)) (
  po (p_bounds_fit 1 0) fun r2 =>
  some r2) (
  some (T_bounds_span.mk (a0.low - a1.high) (a0.high - a1.low)))
theorem c_bounds_rules_3 {a0 : T_bounds_span} {a1 : T_bounds_span} {r : T_bounds_span} (h : p_bounds_rules_3 a0 a1 = some r) : Ctr prog 238 [.agg (enc_bounds_span a0), .agg (enc_bounds_span a1)] [] (.agg (enc_bounds_span r)) [] := by
 unfold p_bounds_rules_3 at h; refine Ctr.ofW tabOk func238 rfl call238 0 _ ntmps238 [.cell 4 311] rfl rfl rfl (fun B => ?_); refine vs [2, 3, 4] (fun K hK => ?_); push_cast; refine hK _ ?_; clear hK K; refine VC.seq ?_; refine vs [2, 3, 4, 9] (fun K hK => ?_); push_cast; refine hK _ ?_; clear hK K; refine vc h (fun hb1 h => ?_) (fun hb1 h => ?_)
 ·obtain ⟨r2, hr2, h⟩ := po_some h; refine vs [4] (fun K hK => ?_); push_cast; refine cp (c_bounds_fit hr2) ?_; push_cast; refine hK _ ?_; clear hK K; refine VC.ret ?_; replace h := Option.some.inj h; subst h; exact en (by push_cast [hb1])
 ·refine VC.skip ?_; refine vs [4] (fun K hK => ?_); refine runOps_cut 8 (fun K2 hK2 => ?_); push_cast; refine hK2 _ _ ?_; clear hK2 K2; simp only [List.drop_succ_cons, List.drop_zero]; push_cast; refine hK _ ?_; clear hK K; refine VC.ret ?_; replace h := Option.some.inj h; subst h; exact en (by push_cast [hb1])
noncomputable def p_bounds_rules_4 (a0 : T_bounds_span) (a1 : T_bounds_span) : Option (T_bounds_span) :=
  pl ((a0.low * a1.low)) fun c1 =>
  pl ((a0.high * a1.high)) fun c2 =>
  po (p_bounds_fit c1 c2) fun r3 =>
  some r3
theorem c_bounds_rules_4 {a0 : T_bounds_span} {a1 : T_bounds_span} {r : T_bounds_span} (h : p_bounds_rules_4 a0 a1 = some r) : Ctr prog 239 [.agg (enc_bounds_span a0), .agg (enc_bounds_span a1)] [] (.agg (enc_bounds_span r)) [] := by
 unfold p_bounds_rules_4 at h; refine Ctr.ofW tabOk func239 rfl call239 0 _ ntmps239 [.cell 4 311] rfl rfl rfl (fun B => ?_); refine vs [2, 3, 4] (fun K hK => ?_); push_cast; refine hK _ ?_; clear hK K; obtain ⟨c1, hc1, h⟩ := pl_some h; have hc1i : (((a0.low * a1.low)).toNat : Int) = (c1.toNat : Int) := by rw [hc1]
 push_cast at hc1i; obtain ⟨c2, hc2, h⟩ := pl_some h; have hc2i : (((a0.high * a1.high)).toNat : Int) = (c2.toNat : Int) := by rw [hc2]
 push_cast at hc2i; obtain ⟨r3, hr3, h⟩ := po_some h; refine vs [4] (fun K hK => ?_); refine runOps_cut 8 (fun K2 hK2 => ?_); push_cast [hc1i, hc2i]; (repeat refine .intro (by omega) ?_); refine hK2 _ _ ?_; clear hK2 K2; simp only [List.drop_succ_cons, List.drop_zero]; push_cast [hc1i, hc2i]; (repeat refine .intro (by omega) ?_); refine cp (c_bounds_fit hr3) ?_; push_cast [hc1i, hc2i]; (repeat refine .intro (by omega) ?_); refine hK _ ?_; clear hK K; refine VC.ret ?_; replace h := Option.some.inj h; subst h; exact en (by push_cast [hc1i, hc2i])
noncomputable def p_bounds_rules_5 (a0 : T_bounds_span) (a1 : T_bounds_span) : Option (T_bounds_span) :=
  cond ((a1.low.toNat : Int) == 0) (
  some (T_bounds_span.mk 0 a0.high)) (
  pg ((a1.high.toNat : Int) ≠ 0) <|
  pg ((a1.low.toNat : Int) ≠ 0) <|
  some (T_bounds_span.mk (a0.low / a1.high) (a0.high / a1.low)))
theorem c_bounds_rules_5 {a0 : T_bounds_span} {a1 : T_bounds_span} {r : T_bounds_span} (h : p_bounds_rules_5 a0 a1 = some r) : Ctr prog 240 [.agg (enc_bounds_span a0), .agg (enc_bounds_span a1)] [] (.agg (enc_bounds_span r)) [] := by
 unfold p_bounds_rules_5 at h; refine Ctr.ofW tabOk func240 rfl call240 0 _ ntmps240 [.cell 4 311] rfl rfl rfl (fun B => ?_); refine vs [2, 3, 4] (fun K hK => ?_); push_cast; refine hK _ ?_; clear hK K; refine VC.seq ?_; refine vs [2, 3, 4, 7] (fun K hK => ?_); push_cast; refine hK _ ?_; clear hK K; refine vc h (fun hb1 h => ?_) (fun hb1 h => ?_)
 ·refine vs [4] (fun K hK => ?_); push_cast; refine hK _ ?_; clear hK K; refine VC.ret ?_; replace h := Option.some.inj h; subst h; exact en (by push_cast [hb1])
 ·refine VC.skip ?_; obtain ⟨hg2, h⟩ := pg_some h; obtain ⟨hg3, h⟩ := pg_some h; refine vsD [some 11, some 12, some 13, some 14, some 15, some 16, some 17, some 18, some 19, some 20, some 21, none] [4] (fun K hK => ?_); refine runD_cut 8 (fun K2 hK2 => ?_); push_cast [hg2, hg3]; (repeat refine .intro (by omega) ?_); refine hK2 _ _ _ ?_; clear hK2 K2; simp only [List.drop_succ_cons, List.drop_zero]; push_cast [hg2, hg3]; (repeat refine .intro (by omega) ?_); refine ⟨rfl, hK _ ?_⟩; clear hK K; refine VC.ret ?_; replace h := Option.some.inj h; subst h; exact en (by push_cast [hb1])
noncomputable def p_bounds_rules_6 (a0 : T_bounds_span) (a1 : T_bounds_span) : Option (T_bounds_span) :=
  cond (decide (a0.high.toNat < a1.low.toNat)) (
  some a0) (
  cond ((a1.low.toNat : Int) == 0) (
  some (T_bounds_span.mk 0 a0.high)) (
  pl ((a1.high - 1)) fun c3 =>
  some (T_bounds_span.mk 0 (min64 a0.high c3))))
theorem c_bounds_rules_6 {a0 : T_bounds_span} {a1 : T_bounds_span} {r : T_bounds_span} (h : p_bounds_rules_6 a0 a1 = some r) : Ctr prog 241 [.agg (enc_bounds_span a0), .agg (enc_bounds_span a1)] [] (.agg (enc_bounds_span r)) [] := by
 unfold p_bounds_rules_6 at h; refine Ctr.ofW tabOk func241 rfl call241 0 _ ntmps241 [.cell 4 311] rfl rfl rfl (fun B => ?_); refine vs [2, 3, 4] (fun K hK => ?_); push_cast; refine hK _ ?_; clear hK K; refine VC.seq ?_; refine VC.block ?_; refine vs [2, 3, 4, 5] (fun K hK => ?_); push_cast; refine hK _ ?_; clear hK K; refine vc h (fun hb1 h => ?_) (fun hb1 h => ?_)
 ·refine vs [4] (fun K hK => ?_); push_cast; refine hK _ ?_; clear hK K; refine VC.ret ?_; replace h := Option.some.inj h; subst h; exact en (by push_cast [hb1])
 ·refine vs [2, 3, 4, 12] (fun K hK => ?_); push_cast; refine hK _ ?_; clear hK K; refine vc h (fun hb2 h => ?_) (fun hb2 h => ?_)
  ·refine vs [4] (fun K hK => ?_); push_cast; refine hK _ ?_; clear hK K; refine VC.ret ?_; replace h := Option.some.inj h; subst h; exact en (by push_cast [hb1, hb2])
  ·refine VC.skip ?_; obtain ⟨c3, hc3, h⟩ := pl_some h; have hc3i : (((a1.high - 1)).toNat : Int) = (c3.toNat : Int) := by rw [hc3]
   push_cast at hc3i; refine vs [4] (fun K hK => ?_); push_cast [hc3i]; (repeat refine .intro (by omega) ?_); refine hK _ ?_; clear hK K; refine VC.ret ?_; replace h := Option.some.inj h; subst h; exact en (by push_cast [hb1, hb2, hc3i])
noncomputable def p_bounds_rules_7 (a0 : T_bounds_span) (a1 : T_bounds_span) : Option (T_bounds_span) :=
  some (T_bounds_span.mk 0 (min64 a0.high a1.high))
theorem c_bounds_rules_7 {a0 : T_bounds_span} {a1 : T_bounds_span} {r : T_bounds_span} (h : p_bounds_rules_7 a0 a1 = some r) : Ctr prog 242 [.agg (enc_bounds_span a0), .agg (enc_bounds_span a1)] [] (.agg (enc_bounds_span r)) [] := by
 unfold p_bounds_rules_7 at h; refine Ctr.ofW tabOk func242 rfl call242 0 _ ntmps242 [.cell 4 311] rfl rfl rfl (fun B => ?_); refine vs [2, 3, 4] (fun K hK => ?_); push_cast; refine hK _ ?_; clear hK K; refine vs [4] (fun K hK => ?_); push_cast; refine hK _ ?_; clear hK K; refine VC.ret ?_; replace h := Option.some.inj h; subst h; exact en (by push_cast)
noncomputable def p_bounds_power_J3 (i_2 : UInt64) (i_3 : Bool) : Option ((UInt64) ⊕ (UInt64)) :=
  cond i_3 (
  some (Sum.inl (i_2 * 2))) (
  some (Sum.inr i_2))
noncomputable def p_bounds_power_L2 (a0 : UInt64) (a1 : UInt64) (i_2 : UInt64) : Option ((UInt64) ⊕ (UInt64)) :=
  po (
  cond (decide (i_2.toNat ≤ a0.toNat)) (
  some true) (
  some (decide (i_2.toNat ≤ a1.toNat)))) (fun x => p_bounds_power_J3 i_2 x)
noncomputable def p_bounds_power_J1 (i_5 : UInt64) : Option (UInt64) :=
  some i_5
noncomputable def p_bounds_power (a0 : UInt64) (a1 : UInt64) : Option (UInt64) :=
  po (
  lpU (fun x => p_bounds_power_L2 a0 a1 x) 1) (fun x => p_bounds_power_J1 x)
theorem c_bounds_power {a0 : UInt64} {a1 : UInt64} {r : UInt64} (h : p_bounds_power a0 a1 = some r) : Ctr prog 244 [.raw (.int .u64 (a0.toNat : Int)), .raw (.int .u64 (a1.toNat : Int))] [] (.raw (.int .u64 (r.toNat : Int))) [] := by
 unfold p_bounds_power at h; refine Ctr.ofW tabOk func244 rfl call244 0 _ ntmps244 [.tmp 4] rfl rfl rfl (fun B => ?_); refine vs [0, 1] (fun K hK => ?_); push_cast; refine hK _ ?_; clear hK K; refine vs [0, 1, 5] (fun K hK => ?_); push_cast; refine hK _ ?_; clear hK K; refine vj h (fun x => ⟨[(5, .raw (.int .u64 (x.toNat : Int)))], [], 21, 17, 0⟩) (fun v1 h hk1 => ?_) ?_
 ·refine VC.block ?_; refine VC.loopP h (fun x => ⟨[(0, .raw (.int .u64 (a0.toNat : Int))), (1, .raw (.int .u64 (a1.toNat : Int))), (5, .raw (.int .u64 (x.toNat : Int)))], [], 13, 17, 0⟩) ?_ ?_
  ·exact sl (by push_cast)
  rintro i_2 b2 (h : p_bounds_power_L2 a0 a1 i_2 = some b2) hf2; (try push_cast); unfold p_bounds_power_L2 at h; refine VC.seq ?_; refine vj h (fun x => ⟨[(0, .raw (.int .u64 (a0.toNat : Int))), (1, .raw (.int .u64 (a1.toNat : Int))), (5, .raw (.int .u64 (i_2.toNat : Int))), (13, rb x)], [], 21, 17, 0⟩) (fun v3 h hk3 => ?_) ?_
  ·rcases Bool.eq_false_or_eq_true (decide (i_2.toNat ≤ a0.toNat)) with hb4 | hb4
   ·replace h := cond_yes hb4 h; refine vlG [some 6, some 7, some 8, some 9, some 10, some 11, some 12, some 13] (fun K hK => ?_); push_cast [hb4]; (repeat refine .intro (by omega) ?_); refine hK _ ?_; clear hK K; refine ar h hk3 ?_; exact sl (by push_cast [hb4])
   ·replace h := cond_no hb4 h; refine vlG [some 6, some 7, some 8, some 9, some 10, some 11, some 12, some 13] (fun K hK => ?_); push_cast [hb4]; (repeat refine .intro (by omega) ?_); refine hK _ ?_; clear hK K; refine ar h hk3 ?_; exact sl (by push_cast [hb4])
  ·rintro i_3 (h : p_bounds_power_J3 i_2 i_3 = some b2); (try push_cast); unfold p_bounds_power_J3 at h; refine vc h (fun hb5 h => ?_) (fun hb5 h => ?_)
   ·refine VC.skip ?_; refine VC.block ?_; refine vl (fun K hK => ?_); push_cast; refine hK _ ?_; clear hK K; refine bk h ?_; exact sl (by push_cast [hb5])
   ·refine VC.exit ?_; replace h := ol h hf2; refine ar h hk1 ?_; exact sl (by push_cast [hb5])
 ·rintro i_5 (h : p_bounds_power_J1 i_5 = some r); (try push_cast); unfold p_bounds_power_J1 at h; refine vs [4] (fun K hK => ?_); push_cast; refine hK _ ?_; clear hK K; refine VC.ret ?_; replace h := Option.some.inj h; subst h; exact en (by push_cast)
noncomputable def p_bounds_rules_8 (a0 : T_bounds_span) (a1 : T_bounds_span) : Option (T_bounds_span) :=
  po (p_bounds_power a0.high a1.high) fun r1 =>
  some (T_bounds_span.mk (max64 a0.low a1.low) (r1 - 1))
theorem c_bounds_rules_8 {a0 : T_bounds_span} {a1 : T_bounds_span} {r : T_bounds_span} (h : p_bounds_rules_8 a0 a1 = some r) : Ctr prog 243 [.agg (enc_bounds_span a0), .agg (enc_bounds_span a1)] [] (.agg (enc_bounds_span r)) [] := by
 unfold p_bounds_rules_8 at h; refine Ctr.ofW tabOk func243 rfl call243 0 _ ntmps243 [.cell 4 311] rfl rfl rfl (fun B => ?_); refine vs [2, 3, 4] (fun K hK => ?_); push_cast; refine hK _ ?_; clear hK K; obtain ⟨r1, hr1, h⟩ := po_some h; refine vsD [some 5, some 6, some 7, some 8, some 9, some 10, some 11, some 12, some 13, some 14, some 15, some 16, none] [4] (fun K hK => ?_); refine runD_cut 8 (fun K2 hK2 => ?_); push_cast; refine hK2 _ _ _ ?_; clear hK2 K2; simp only [List.drop_succ_cons, List.drop_zero]; push_cast; refine cpD (c_bounds_power hr1) ?_; push_cast; refine ⟨rfl, hK _ ?_⟩; clear hK K; refine VC.ret ?_; replace h := Option.some.inj h; subst h; exact en (by push_cast)
noncomputable def p_bounds_rules_9 (a0 : T_bounds_span) (a1 : T_bounds_span) : Option (T_bounds_span) :=
  po (p_bounds_power a0.high a1.high) fun r1 =>
  some (T_bounds_span.mk 0 (r1 - 1))
theorem c_bounds_rules_9 {a0 : T_bounds_span} {a1 : T_bounds_span} {r : T_bounds_span} (h : p_bounds_rules_9 a0 a1 = some r) : Ctr prog 245 [.agg (enc_bounds_span a0), .agg (enc_bounds_span a1)] [] (.agg (enc_bounds_span r)) [] := by
 unfold p_bounds_rules_9 at h; refine Ctr.ofW tabOk func245 rfl call245 0 _ ntmps245 [.cell 4 311] rfl rfl rfl (fun B => ?_); refine vs [2, 3, 4] (fun K hK => ?_); push_cast; refine hK _ ?_; clear hK K; obtain ⟨r1, hr1, h⟩ := po_some h; refine vs [4] (fun K hK => ?_); push_cast; refine cp (c_bounds_power hr1) ?_; push_cast; refine hK _ ?_; clear hK K; refine VC.ret ?_; replace h := Option.some.inj h; subst h; exact en (by push_cast)
noncomputable def p_bounds_rules : Option (Unit) :=
  some ()
theorem c_bounds_rules {r : Unit} (h : p_bounds_rules = some r) : Ctr prog 234 [] [] (.agg [.fn (.func 236) [] [], .fn (.func 237) [] [], .fn (.func 238) [] [], .fn (.func 239) [] [], .fn (.func 240) [] [], .fn (.func 241) [] [], .fn (.func 242) [] [], .fn (.func 243) [] [], .fn (.func 245) [] [], .fn (.func 246) [] [], .fn (.func 247) [] []]) [] := by
 unfold p_bounds_rules at h; refine Ctr.ofW tabOk func234 rfl call234 0 _ ntmps234 [.cell 0 318] rfl rfl rfl (fun B => ?_); refine vs [0] (fun K hK => ?_); push_cast; refine hK _ ?_; clear hK K; refine vs [0] (fun K hK => ?_); push_cast; refine hK _ ?_; clear hK K; refine VC.ret ?_; replace h := Option.some.inj h; subst h; exact en (by push_cast)
noncomputable def p_bounds_Alu_J1 (a0 : Int) (a1 : C128) (a2 : C128) (i_1 : Bool) : Option (C128) :=
  cond i_1 (
  po (p_bounds_fit 1 0) fun r4 =>
  po (p_bounds_span_told r4) fun r5 =>
  some r5) (
  po (some ()) fun r7 =>
  cond (a0 == 0) (
  po (p_bounds_of a1) fun r9 =>
  po (p_bounds_of a2) fun r10 =>
  po (p_bounds_rules_1 r9 r10) fun r11 =>
  po (p_bounds_span_told r11) fun r12 =>
  some r12) (
  cond (a0 == 1) (
  po (p_bounds_of a1) fun r14 =>
  po (p_bounds_of a2) fun r15 =>
  po (p_bounds_rules_2 r14 r15) fun r16 =>
  po (p_bounds_span_told r16) fun r17 =>
  some r17) (
  cond (a0 == 2) (
  po (p_bounds_of a1) fun r19 =>
  po (p_bounds_of a2) fun r20 =>
  po (p_bounds_rules_3 r19 r20) fun r21 =>
  po (p_bounds_span_told r21) fun r22 =>
  some r22) (
  cond (a0 == 3) (
  po (p_bounds_of a1) fun r24 =>
  po (p_bounds_of a2) fun r25 =>
  po (p_bounds_rules_4 r24 r25) fun r26 =>
  po (p_bounds_span_told r26) fun r27 =>
  some r27) (
  cond (a0 == 4) (
  po (p_bounds_of a1) fun r29 =>
  po (p_bounds_of a2) fun r30 =>
  po (p_bounds_rules_5 r29 r30) fun r31 =>
  po (p_bounds_span_told r31) fun r32 =>
  some r32) (
  cond (a0 == 5) (
  po (p_bounds_of a1) fun r34 =>
  po (p_bounds_of a2) fun r35 =>
  po (p_bounds_rules_6 r34 r35) fun r36 =>
  po (p_bounds_span_told r36) fun r37 =>
  some r37) (
  cond (a0 == 6) (
  po (p_bounds_of a1) fun r39 =>
  po (p_bounds_of a2) fun r40 =>
  po (p_bounds_rules_7 r39 r40) fun r41 =>
  po (p_bounds_span_told r41) fun r42 =>
  some r42) (
  cond (a0 == 7) (
  po (p_bounds_of a1) fun r44 =>
  po (p_bounds_of a2) fun r45 =>
  po (p_bounds_rules_8 r44 r45) fun r46 =>
  po (p_bounds_span_told r46) fun r47 =>
  some r47) (
  cond (a0 == 8) (
  po (p_bounds_of a1) fun r49 =>
  po (p_bounds_of a2) fun r50 =>
  po (p_bounds_rules_9 r49 r50) fun r51 =>
  po (p_bounds_span_told r51) fun r52 =>
  some r52) (
  cond (a0 == 9) (
  po (p_bounds_of a1) fun r54 =>
  po (p_bounds_of a2) fun r55 =>
  po (p_bounds_rules_10 r54 r55) fun r56 =>
  po (p_bounds_span_told r56) fun r57 =>
  some r57) (
  cond (a0 == 10) (
  po (p_bounds_of a1) fun r59 =>
  po (p_bounds_of a2) fun r60 =>
  po (p_bounds_rules_11 r59 r60) fun r61 =>
  po (p_bounds_span_told r61) fun r62 =>
  some r62) (
  none))))))))))))
noncomputable def p_bounds_Alu (a0 : Int) (a1 : C128) (a2 : C128) : Option (C128) :=
  po (
  cond (decide (a0 < 0)) (
  some true) (
  some (decide (a0 ≥ 11)))) (fun x => p_bounds_Alu_J1 a0 a1 a2 x)
theorem c_bounds_Alu {a0 : Int} {a1 : C128} {a2 : C128} {r : C128} (h : p_bounds_Alu a0 a1 a2 = some r) : Ctr prog 212 [ri a0, .raw (.complex .f64 a1.re a1.im), .raw (.complex .f64 a2.re a2.im)] [] (.raw (.complex .f64 r.re r.im)) [] := by
 unfold p_bounds_Alu at h; refine Ctr.ofW tabOk func212 rfl call212 0 _ ntmps212 [.tmp 6] rfl rfl rfl (fun B => ?_); refine vs [0, 1, 2] (fun K hK => ?_); push_cast; refine hK _ ?_; clear hK K; refine VC.seq ?_; refine vj h (fun x => ⟨[(0, ri a0), (1, .raw (.complex .f64 a1.re a1.im)), (2, .raw (.complex .f64 a2.re a2.im)), (12, rb x)], [], 7, 24, 0⟩) (fun v1 h hk1 => ?_) ?_
 ·rcases Bool.eq_false_or_eq_true (decide (a0 < 0)) with hb2 | hb2
  ·replace h := cond_yes hb2 h; refine vlG [some 7, some 8, some 9, some 10, some 11, some 12] (fun K hK => ?_); push_cast [hb2]; (repeat refine .intro (by omega) ?_); refine hK _ ?_; clear hK K; refine ar h hk1 ?_; exact sl (by push_cast [hb2])
  ·replace h := cond_no hb2 h; refine vlG [some 7, some 8, some 9, some 10, some 11, some 12] (fun K hK => ?_); push_cast [hb2]; (repeat refine .intro (by omega) ?_); refine hK _ ?_; clear hK K; refine ar h hk1 ?_; exact sl (by push_cast [hb2])
 ·rintro i_1 (h : p_bounds_Alu_J1 a0 a1 a2 i_1 = some r); (try push_cast); unfold p_bounds_Alu_J1 at h; refine vc h (fun hb3 h => ?_) (fun hb3 h => ?_)
  ·obtain ⟨r4, hr4, h⟩ := po_some h; obtain ⟨r5, hr5, h⟩ := po_some h; refine vs [6] (fun K hK => ?_); push_cast; refine cp (c_bounds_fit hr4) ?_; push_cast; refine cp (c_bounds_span_told hr5) ?_; push_cast; refine hK _ ?_; clear hK K; refine VC.ret ?_; replace h := Option.some.inj h; subst h; exact en (by push_cast [hb3])
  ·refine VC.skip ?_; obtain ⟨r7, hr7, h⟩ := po_some h; rcases Bool.eq_false_or_eq_true (a0 == 0) with hb8 | hb8
   ·replace h := cond_yes hb8 h; have hb8e : a0 = 0 := by simpa using hb8
    have hb8n : a0.toNat = 0 := by omega
    obtain ⟨r9, hr9, h⟩ := po_some h; obtain ⟨r10, hr10, h⟩ := po_some h; obtain ⟨r11, hr11, h⟩ := po_some h; obtain ⟨r12, hr12, h⟩ := po_some h; refine vsD [some 15, some 16, some 17, some 18, some 19, some 20, some 21, some 22, some 23, some 6] [6] (fun K hK => ?_); push_cast [hb8n]; (repeat refine .intro (by omega) ?_); refine cpD (c_bounds_rules hr7) ?_; push_cast [hb8n]; (repeat refine .intro (by omega) ?_); refine cpD (c_bounds_of hr9) ?_; push_cast [hb8n]; (repeat refine .intro (by omega) ?_); refine cpD (c_bounds_of hr10) ?_; push_cast [hb8n]; (repeat refine .intro (by omega) ?_); refine cpD (c_bounds_rules_1 hr11) ?_; push_cast [hb8n]; (repeat refine .intro (by omega) ?_); refine cpD (c_bounds_span_told hr12) ?_; push_cast [hb8n]; (repeat refine .intro (by omega) ?_); refine ⟨rfl, hK _ ?_⟩; clear hK K; refine VC.ret ?_; replace h := Option.some.inj h; subst h; exact en (by push_cast [hb3])
   ·replace h := cond_no hb8 h; rcases Bool.eq_false_or_eq_true (a0 == 1) with hb13 | hb13
    ·replace h := cond_yes hb13 h; have hb13e : a0 = 1 := by simpa using hb13
     have hb13n : a0.toNat = 1 := by omega
     obtain ⟨r14, hr14, h⟩ := po_some h; obtain ⟨r15, hr15, h⟩ := po_some h; obtain ⟨r16, hr16, h⟩ := po_some h; obtain ⟨r17, hr17, h⟩ := po_some h; refine vsD [some 15, some 16, some 17, some 18, some 19, some 20, some 21, some 22, some 23, some 6] [6] (fun K hK => ?_); push_cast [hb13n]; (repeat refine .intro (by omega) ?_); refine cpD (c_bounds_rules hr7) ?_; push_cast [hb13n]; (repeat refine .intro (by omega) ?_); refine cpD (c_bounds_of hr14) ?_; push_cast [hb13n]; (repeat refine .intro (by omega) ?_); refine cpD (c_bounds_of hr15) ?_; push_cast [hb13n]; (repeat refine .intro (by omega) ?_); refine cpD (c_bounds_rules_2 hr16) ?_; push_cast [hb13n]; (repeat refine .intro (by omega) ?_); refine cpD (c_bounds_span_told hr17) ?_; push_cast [hb13n]; (repeat refine .intro (by omega) ?_); refine ⟨rfl, hK _ ?_⟩; clear hK K; refine VC.ret ?_; replace h := Option.some.inj h; subst h; exact en (by push_cast [hb3])
    ·replace h := cond_no hb13 h; rcases Bool.eq_false_or_eq_true (a0 == 2) with hb18 | hb18
     ·replace h := cond_yes hb18 h; have hb18e : a0 = 2 := by simpa using hb18
      have hb18n : a0.toNat = 2 := by omega
      obtain ⟨r19, hr19, h⟩ := po_some h; obtain ⟨r20, hr20, h⟩ := po_some h; obtain ⟨r21, hr21, h⟩ := po_some h; obtain ⟨r22, hr22, h⟩ := po_some h; refine vsD [some 15, some 16, some 17, some 18, some 19, some 20, some 21, some 22, some 23, some 6] [6] (fun K hK => ?_); push_cast [hb18n]; (repeat refine .intro (by omega) ?_); refine cpD (c_bounds_rules hr7) ?_; push_cast [hb18n]; (repeat refine .intro (by omega) ?_); refine cpD (c_bounds_of hr19) ?_; push_cast [hb18n]; (repeat refine .intro (by omega) ?_); refine cpD (c_bounds_of hr20) ?_; push_cast [hb18n]; (repeat refine .intro (by omega) ?_); refine cpD (c_bounds_rules_3 hr21) ?_; push_cast [hb18n]; (repeat refine .intro (by omega) ?_); refine cpD (c_bounds_span_told hr22) ?_; push_cast [hb18n]; (repeat refine .intro (by omega) ?_); refine ⟨rfl, hK _ ?_⟩; clear hK K; refine VC.ret ?_; replace h := Option.some.inj h; subst h; exact en (by push_cast [hb3])
     ·replace h := cond_no hb18 h; rcases Bool.eq_false_or_eq_true (a0 == 3) with hb23 | hb23
      ·replace h := cond_yes hb23 h; have hb23e : a0 = 3 := by simpa using hb23
       have hb23n : a0.toNat = 3 := by omega
       obtain ⟨r24, hr24, h⟩ := po_some h; obtain ⟨r25, hr25, h⟩ := po_some h; obtain ⟨r26, hr26, h⟩ := po_some h; obtain ⟨r27, hr27, h⟩ := po_some h; refine vsD [some 15, some 16, some 17, some 18, some 19, some 20, some 21, some 22, some 23, some 6] [6] (fun K hK => ?_); push_cast [hb23n]; (repeat refine .intro (by omega) ?_); refine cpD (c_bounds_rules hr7) ?_; push_cast [hb23n]; (repeat refine .intro (by omega) ?_); refine cpD (c_bounds_of hr24) ?_; push_cast [hb23n]; (repeat refine .intro (by omega) ?_); refine cpD (c_bounds_of hr25) ?_; push_cast [hb23n]; (repeat refine .intro (by omega) ?_); refine cpD (c_bounds_rules_4 hr26) ?_; push_cast [hb23n]; (repeat refine .intro (by omega) ?_); refine cpD (c_bounds_span_told hr27) ?_; push_cast [hb23n]; (repeat refine .intro (by omega) ?_); refine ⟨rfl, hK _ ?_⟩; clear hK K; refine VC.ret ?_; replace h := Option.some.inj h; subst h; exact en (by push_cast [hb3])
      ·replace h := cond_no hb23 h; rcases Bool.eq_false_or_eq_true (a0 == 4) with hb28 | hb28
       ·replace h := cond_yes hb28 h; have hb28e : a0 = 4 := by simpa using hb28
        have hb28n : a0.toNat = 4 := by omega
        obtain ⟨r29, hr29, h⟩ := po_some h; obtain ⟨r30, hr30, h⟩ := po_some h; obtain ⟨r31, hr31, h⟩ := po_some h; obtain ⟨r32, hr32, h⟩ := po_some h; refine vsD [some 15, some 16, some 17, some 18, some 19, some 20, some 21, some 22, some 23, some 6] [6] (fun K hK => ?_); push_cast [hb28n]; (repeat refine .intro (by omega) ?_); refine cpD (c_bounds_rules hr7) ?_; push_cast [hb28n]; (repeat refine .intro (by omega) ?_); refine cpD (c_bounds_of hr29) ?_; push_cast [hb28n]; (repeat refine .intro (by omega) ?_); refine cpD (c_bounds_of hr30) ?_; push_cast [hb28n]; (repeat refine .intro (by omega) ?_); refine cpD (c_bounds_rules_5 hr31) ?_; push_cast [hb28n]; (repeat refine .intro (by omega) ?_); refine cpD (c_bounds_span_told hr32) ?_; push_cast [hb28n]; (repeat refine .intro (by omega) ?_); refine ⟨rfl, hK _ ?_⟩; clear hK K; refine VC.ret ?_; replace h := Option.some.inj h; subst h; exact en (by push_cast [hb3])
       ·replace h := cond_no hb28 h; rcases Bool.eq_false_or_eq_true (a0 == 5) with hb33 | hb33
        ·replace h := cond_yes hb33 h; have hb33e : a0 = 5 := by simpa using hb33
         have hb33n : a0.toNat = 5 := by omega
         obtain ⟨r34, hr34, h⟩ := po_some h; obtain ⟨r35, hr35, h⟩ := po_some h; obtain ⟨r36, hr36, h⟩ := po_some h; obtain ⟨r37, hr37, h⟩ := po_some h; refine vsD [some 15, some 16, some 17, some 18, some 19, some 20, some 21, some 22, some 23, some 6] [6] (fun K hK => ?_); push_cast [hb33n]; (repeat refine .intro (by omega) ?_); refine cpD (c_bounds_rules hr7) ?_; push_cast [hb33n]; (repeat refine .intro (by omega) ?_); refine cpD (c_bounds_of hr34) ?_; push_cast [hb33n]; (repeat refine .intro (by omega) ?_); refine cpD (c_bounds_of hr35) ?_; push_cast [hb33n]; (repeat refine .intro (by omega) ?_); refine cpD (c_bounds_rules_6 hr36) ?_; push_cast [hb33n]; (repeat refine .intro (by omega) ?_); refine cpD (c_bounds_span_told hr37) ?_; push_cast [hb33n]; (repeat refine .intro (by omega) ?_); refine ⟨rfl, hK _ ?_⟩; clear hK K; refine VC.ret ?_; replace h := Option.some.inj h; subst h; exact en (by push_cast [hb3])
        ·replace h := cond_no hb33 h; rcases Bool.eq_false_or_eq_true (a0 == 6) with hb38 | hb38
         ·replace h := cond_yes hb38 h; have hb38e : a0 = 6 := by simpa using hb38
          have hb38n : a0.toNat = 6 := by omega
          obtain ⟨r39, hr39, h⟩ := po_some h; obtain ⟨r40, hr40, h⟩ := po_some h; obtain ⟨r41, hr41, h⟩ := po_some h; obtain ⟨r42, hr42, h⟩ := po_some h; refine vsD [some 15, some 16, some 17, some 18, some 19, some 20, some 21, some 22, some 23, some 6] [6] (fun K hK => ?_); push_cast [hb38n]; (repeat refine .intro (by omega) ?_); refine cpD (c_bounds_rules hr7) ?_; push_cast [hb38n]; (repeat refine .intro (by omega) ?_); refine cpD (c_bounds_of hr39) ?_; push_cast [hb38n]; (repeat refine .intro (by omega) ?_); refine cpD (c_bounds_of hr40) ?_; push_cast [hb38n]; (repeat refine .intro (by omega) ?_); refine cpD (c_bounds_rules_7 hr41) ?_; push_cast [hb38n]; (repeat refine .intro (by omega) ?_); refine cpD (c_bounds_span_told hr42) ?_; push_cast [hb38n]; (repeat refine .intro (by omega) ?_); refine ⟨rfl, hK _ ?_⟩; clear hK K; refine VC.ret ?_; replace h := Option.some.inj h; subst h; exact en (by push_cast [hb3])
         ·replace h := cond_no hb38 h; rcases Bool.eq_false_or_eq_true (a0 == 7) with hb43 | hb43
          ·replace h := cond_yes hb43 h; have hb43e : a0 = 7 := by simpa using hb43
           have hb43n : a0.toNat = 7 := by omega
           obtain ⟨r44, hr44, h⟩ := po_some h; obtain ⟨r45, hr45, h⟩ := po_some h; obtain ⟨r46, hr46, h⟩ := po_some h; obtain ⟨r47, hr47, h⟩ := po_some h; refine vsD [some 15, some 16, some 17, some 18, some 19, some 20, some 21, some 22, some 23, some 6] [6] (fun K hK => ?_); push_cast [hb43n]; (repeat refine .intro (by omega) ?_); refine cpD (c_bounds_rules hr7) ?_; push_cast [hb43n]; (repeat refine .intro (by omega) ?_); refine cpD (c_bounds_of hr44) ?_; push_cast [hb43n]; (repeat refine .intro (by omega) ?_); refine cpD (c_bounds_of hr45) ?_; push_cast [hb43n]; (repeat refine .intro (by omega) ?_); refine cpD (c_bounds_rules_8 hr46) ?_; push_cast [hb43n]; (repeat refine .intro (by omega) ?_); refine cpD (c_bounds_span_told hr47) ?_; push_cast [hb43n]; (repeat refine .intro (by omega) ?_); refine ⟨rfl, hK _ ?_⟩; clear hK K; refine VC.ret ?_; replace h := Option.some.inj h; subst h; exact en (by push_cast [hb3])
          ·replace h := cond_no hb43 h; rcases Bool.eq_false_or_eq_true (a0 == 8) with hb48 | hb48
           ·replace h := cond_yes hb48 h; have hb48e : a0 = 8 := by simpa using hb48
            have hb48n : a0.toNat = 8 := by omega
            obtain ⟨r49, hr49, h⟩ := po_some h; obtain ⟨r50, hr50, h⟩ := po_some h; obtain ⟨r51, hr51, h⟩ := po_some h; obtain ⟨r52, hr52, h⟩ := po_some h; refine vsD [some 15, some 16, some 17, some 18, some 19, some 20, some 21, some 22, some 23, some 6] [6] (fun K hK => ?_); push_cast [hb48n]; (repeat refine .intro (by omega) ?_); refine cpD (c_bounds_rules hr7) ?_; push_cast [hb48n]; (repeat refine .intro (by omega) ?_); refine cpD (c_bounds_of hr49) ?_; push_cast [hb48n]; (repeat refine .intro (by omega) ?_); refine cpD (c_bounds_of hr50) ?_; push_cast [hb48n]; (repeat refine .intro (by omega) ?_); refine cpD (c_bounds_rules_9 hr51) ?_; push_cast [hb48n]; (repeat refine .intro (by omega) ?_); refine cpD (c_bounds_span_told hr52) ?_; push_cast [hb48n]; (repeat refine .intro (by omega) ?_); refine ⟨rfl, hK _ ?_⟩; clear hK K; refine VC.ret ?_; replace h := Option.some.inj h; subst h; exact en (by push_cast [hb3])
           ·replace h := cond_no hb48 h; rcases Bool.eq_false_or_eq_true (a0 == 9) with hb53 | hb53
            ·replace h := cond_yes hb53 h; have hb53e : a0 = 9 := by simpa using hb53
             have hb53n : a0.toNat = 9 := by omega
             obtain ⟨r54, hr54, h⟩ := po_some h; obtain ⟨r55, hr55, h⟩ := po_some h; obtain ⟨r56, hr56, h⟩ := po_some h; obtain ⟨r57, hr57, h⟩ := po_some h; refine vsD [some 15, some 16, some 17, some 18, some 19, some 20, some 21, some 22, some 23, some 6] [6] (fun K hK => ?_); push_cast [hb53n]; (repeat refine .intro (by omega) ?_); refine cpD (c_bounds_rules hr7) ?_; push_cast [hb53n]; (repeat refine .intro (by omega) ?_); refine cpD (c_bounds_of hr54) ?_; push_cast [hb53n]; (repeat refine .intro (by omega) ?_); refine cpD (c_bounds_of hr55) ?_; push_cast [hb53n]; (repeat refine .intro (by omega) ?_); refine cpD (c_bounds_rules_10 hr56) ?_; push_cast [hb53n]; (repeat refine .intro (by omega) ?_); refine cpD (c_bounds_span_told hr57) ?_; push_cast [hb53n]; (repeat refine .intro (by omega) ?_); refine ⟨rfl, hK _ ?_⟩; clear hK K; refine VC.ret ?_; replace h := Option.some.inj h; subst h; exact en (by push_cast [hb3])
            ·replace h := cond_no hb53 h; rcases Bool.eq_false_or_eq_true (a0 == 10) with hb58 | hb58
             ·replace h := cond_yes hb58 h; have hb58e : a0 = 10 := by simpa using hb58
              have hb58n : a0.toNat = 10 := by omega
              obtain ⟨r59, hr59, h⟩ := po_some h; obtain ⟨r60, hr60, h⟩ := po_some h; obtain ⟨r61, hr61, h⟩ := po_some h; obtain ⟨r62, hr62, h⟩ := po_some h; refine vsD [some 15, some 16, some 17, some 18, some 19, some 20, some 21, some 22, some 23, some 6] [6] (fun K hK => ?_); push_cast [hb58n]; (repeat refine .intro (by omega) ?_); refine cpD (c_bounds_rules hr7) ?_; push_cast [hb58n]; (repeat refine .intro (by omega) ?_); refine cpD (c_bounds_of hr59) ?_; push_cast [hb58n]; (repeat refine .intro (by omega) ?_); refine cpD (c_bounds_of hr60) ?_; push_cast [hb58n]; (repeat refine .intro (by omega) ?_); refine cpD (c_bounds_rules_11 hr61) ?_; push_cast [hb58n]; (repeat refine .intro (by omega) ?_); refine cpD (c_bounds_span_told hr62) ?_; push_cast [hb58n]; (repeat refine .intro (by omega) ?_); refine ⟨rfl, hK _ ?_⟩; clear hK K; refine VC.ret ?_; replace h := Option.some.inj h; subst h; exact en (by push_cast [hb3])
             ·replace h := cond_no hb58 h; cases h
noncomputable def p_bounds_Ends (a0 : C128) : Option (UInt32 × UInt32 × Bool) :=
  po (p_bounds_May a0) fun r1 =>
  cond (!r1) (
  some (0, 0, false)) (
  po (p_bounds_of a0) fun r3 =>
  some (r3.low.toUInt32, r3.high.toUInt32, true))
theorem c_bounds_Ends {a0 : C128} {r : UInt32 × UInt32 × Bool} (h : p_bounds_Ends a0 = some r) : Ctr prog 219 [.raw (.complex .f64 a0.re a0.im)] [] (.tup [ru r.1, ru r.2.1, rb r.2.2]) [] := by
 unfold p_bounds_Ends at h; refine Ctr.ofW tabOk func219 rfl call219 0 _ ntmps219 [.tmp 2, .tmp 3, .tmp 4] rfl rfl rfl (fun B => ?_); refine vs [0] (fun K hK => ?_); push_cast; refine hK _ ?_; clear hK K; refine VC.seq ?_; obtain ⟨r1, hr1, h⟩ := po_some h; refine vs [0, 8] (fun K hK => ?_); push_cast; refine cp (c_bounds_May hr1) ?_; push_cast; refine hK _ ?_; clear hK K; refine vc h (fun hb2 h => ?_) (fun hb2 h => ?_)
 ·refine vs [2, 3, 4] (fun K hK => ?_); push_cast; refine hK _ ?_; clear hK K; refine VC.ret ?_; replace h := Option.some.inj h; subst h; exact en (by push_cast [hb2])
 ·refine VC.skip ?_; obtain ⟨r3, hr3, h⟩ := po_some h; refine vs [5] (fun K hK => ?_); push_cast; refine cp (c_bounds_of hr3) ?_; push_cast; refine hK _ ?_; clear hK K; refine vsD [some 11, some 12, some 13, some 14, some 15, some 16, some 2, some 3, some 4] [2, 3, 4] (fun K hK => ?_); push_cast; refine ⟨rfl, hK _ ?_⟩; clear hK K; refine VC.ret ?_; replace h := Option.some.inj h; subst h; exact en (by push_cast [hb2])
noncomputable def p_bounds_Join (a0 : C128) (a1 : C128) : Option (C128) :=
  po (p_bounds_of a0) fun r1 =>
  po (p_bounds_of a1) fun r2 =>
  pl ((min64 r1.low r2.low)) fun c3 =>
  pl ((max64 r1.high r2.high)) fun c4 =>
  po (p_bounds_span_told (T_bounds_span.mk c3 c4)) fun r5 =>
  some r5
theorem c_bounds_Join {a0 : C128} {a1 : C128} {r : C128} (h : p_bounds_Join a0 a1 = some r) : Ctr prog 208 [.raw (.complex .f64 a0.re a0.im), .raw (.complex .f64 a1.re a1.im)] [] (.raw (.complex .f64 r.re r.im)) [] := by
 unfold p_bounds_Join at h; refine Ctr.ofW tabOk func208 rfl call208 0 _ ntmps208 [.tmp 4] rfl rfl rfl (fun B => ?_); refine vs [0, 1] (fun K hK => ?_); push_cast; refine hK _ ?_; clear hK K; obtain ⟨r1, hr1, h⟩ := po_some h; obtain ⟨r2, hr2, h⟩ := po_some h; refine vs [5, 6] (fun K hK => ?_); push_cast; refine cp (c_bounds_of hr1) ?_; push_cast; refine cp (c_bounds_of hr2) ?_; push_cast; refine hK _ ?_; clear hK K; obtain ⟨c3, hc3, h⟩ := pl_some h; have hc3i : (((min64 r1.low r2.low)).toNat : Int) = (c3.toNat : Int) := by rw [hc3]
 push_cast at hc3i; obtain ⟨c4, hc4, h⟩ := pl_some h; have hc4i : (((max64 r1.high r2.high)).toNat : Int) = (c4.toNat : Int) := by rw [hc4]
 push_cast at hc4i; obtain ⟨r5, hr5, h⟩ := po_some h; refine vs [4] (fun K hK => ?_); refine runOps_cut 8 (fun K2 hK2 => ?_); push_cast [hc3i, hc4i]; (repeat refine .intro (by omega) ?_); refine hK2 _ _ ?_; clear hK2 K2; simp only [List.drop_succ_cons, List.drop_zero]; push_cast [hc3i, hc4i]; (repeat refine .intro (by omega) ?_); refine cp (c_bounds_span_told hr5) ?_; push_cast [hc3i, hc4i]; (repeat refine .intro (by omega) ?_); refine hK _ ?_; clear hK K; refine VC.ret ?_; replace h := Option.some.inj h; subst h; exact en (by push_cast [hc3i, hc4i])
noncomputable def p_bounds_Of (a0 : UInt32) (a1 : UInt32) : Option (C128) :=
  pl ((min32 a0 a1).toUInt64) fun c1 =>
  pl ((max32 a0 a1).toUInt64) fun c2 =>
  po (p_bounds_span_told (T_bounds_span.mk c1 c2)) fun r3 =>
  some r3
theorem c_bounds_Of {a0 : UInt32} {a1 : UInt32} {r : C128} (h : p_bounds_Of a0 a1 = some r) : Ctr prog 205 [ru a0, ru a1] [] (.raw (.complex .f64 r.re r.im)) [] := by
 unfold p_bounds_Of at h; refine Ctr.ofW tabOk func205 rfl call205 0 _ ntmps205 [.tmp 4] rfl rfl rfl (fun B => ?_); refine vs [0, 1] (fun K hK => ?_); push_cast; refine hK _ ?_; clear hK K; obtain ⟨c1, hc1, h⟩ := pl_some h; have hc1i : (((min32 a0 a1).toUInt64).toNat : Int) = (c1.toNat : Int) := by rw [hc1]
 push_cast at hc1i; obtain ⟨c2, hc2, h⟩ := pl_some h; have hc2i : (((max32 a0 a1).toUInt64).toNat : Int) = (c2.toNat : Int) := by rw [hc2]
 push_cast at hc2i; obtain ⟨r3, hr3, h⟩ := po_some h; refine vs [4] (fun K hK => ?_); refine runOps_cut 8 (fun K2 hK2 => ?_); push_cast [hc1i, hc2i]; (repeat refine .intro (by omega) ?_); refine hK2 _ _ ?_; clear hK2 K2; simp only [List.drop_succ_cons, List.drop_zero]; push_cast [hc1i, hc2i]; (repeat refine .intro (by omega) ?_); refine cp (c_bounds_span_told hr3) ?_; push_cast [hc1i, hc2i]; (repeat refine .intro (by omega) ?_); refine hK _ ?_; clear hK K; refine VC.ret ?_; replace h := Option.some.inj h; subst h; exact en (by push_cast [hc1i, hc2i])
theorem IR.zero {I : World → (Nat → Prop) → Prop} {s : St} {a : Act} {W : World} (h : IR I s a W) (ht : (s.tm.all fun p => p.2.in3 (Hp.has [])) = true) : IR I ⟨s.tm, [], 0, s.nt, 0⟩ a W := by
  obtain ⟨own, x, h1, h2, hC, h3⟩ := h
  have hS : SubH [] ([] : Hp) := fun id o h => h
  have hno : ∀ id g, ¬ (x.only (Hp.has [])).dom id g := fun id g h => by
    have := h.2
    simp [Hp.has, look] at this
  exact ⟨own, x.only (Hp.has []), h1, h2, ⟨hC.h.sub hS (Hp.has []) fun id o h => by simp [look] at h, fun t u hu => ((hC.t t u hu).in3_ (look_all ht hu)).mono (Mo.sub hS), hC.n, hC.d, Tr.refl _ _ _, Mo.refl _ _ _, fun id g h => absurd h (hno id g), Nat.le_refl _, fun id g h => absurd h (hno id g)⟩, h3⟩
theorem YV.zero {P : Program} {c : Code} {Q : Exit → St → (World → (Nat → Prop) → Prop) → Prop} {s : St} {I : World → (Nat → Prop) → Prop} (ht : (s.tm.all fun p => p.2.in3 (Hp.has [])) = true) (h : YV P c Q ⟨s.tm, [], 0, s.nt, 0⟩ I) : YV P c Q s I := fun a W hI => h a W (hI.zero ht)
attribute [push_cast] runPre argOk gdOk
/-! ### arena.gaps -/
theorem itC_len {P : Program} {gf : Nat} {sz i off : Nat} {pre : List AV} {t : Bool} {els : List (List AV)} {rest : List AV} {us : List (List AV)} (h : els.length < 9223372036854775808 → ItC P gf [.dat sz [pre ++ .sl t els :: rest] 0 0] us) : ItC P gf [.dat sz [pre ++ .sl t els :: rest] 0 0] us := by
  intro W0 x0 lb hH hsz hrel
  refine h ?_ W0 x0 lb hH hsz hrel
  have hv := hrel 0 _ rfl
  generalize lb.getD 0 undef = v at hv
  cases hv with
  | dat h => cases h
  | datp els' i off sz a vals hok hsz hcell hd =>
    have := hd (pre ++ .sl t els :: rest) pre.length (.sl t els) rfl (by simp)
    generalize vals pre.length = q at this
    cases this with
    | sl _ _ A c sz vals hc hm ht hsz hA hcell hd => 
      unfold maxLen at hm
      omega
/-! ### slices.Backward -/
def backL {α : Type} (l : List α) : List Int := ((List.range l.length).reverse).map fun (i : Nat) => (i : Int)
def encBk (u : Int) : List AV := [ri u, .dead]
theorem backL_len {α : Type} (l : List α) : (backL l).length = l.length := by simp [backL]
theorem backL_at {α : Type} {l : List α} {n : Nat} (h : n < l.length) : (backL l)[l.length - (n + 1)]? = some (n : Int) := by
  unfold backL
  rw [List.getElem?_map, List.getElem?_reverse (by simp; omega)]
  simp only [List.length_range]
  rw [show l.length - 1 - (l.length - (n + 1)) = n by omega, List.getElem?_range h]
  rfl
theorem c_slices_Backward_api_Fn_api_Fn (a : List T_Fn) : Ctr prog 131 [.sl false (a.map enc_Fn)] [] (.fn (.func 183) [] [.dat 1 [[.sl false (a.map enc_Fn)]] 0 0]) [] := by
  refine Ctr.ofW tabOk func131 rfl call131 0 _ ntmps131 [.tmp 2] rfl rfl rfl (fun B => ?_)
  refine vs [1] (fun K hK => ?_)
  push_cast
  refine hK _ ?_
  clear hK K
  refine VC.sub (Sub.freezeP (k := 1) rfl rfl rfl) ?_
  refine VC.sub (s' := ⟨[(1, .dat 1 [[.sl false (a.map enc_Fn)]] 0 0)], [], 2, 4, 0⟩) (so (by push_cast)) ?_
  refine vs [2] (fun K hK => ?_)
  push_cast
  refine hK _ ?_
  clear hK K
  refine VC.ret ?_
  exact en (by push_cast)
def bkS (l : Nat) (a : List T_Fn) (n : Nat) : St := ⟨[(0, .fn (.yield l) [] []), (1, .dat 1 [[.sl false (a.map enc_Fn)]] 0 0), (3, ri ((n : Int) - 1))], [], 0, 19, 0⟩
theorem it_slices_Backward_api_Fn_api_Fn (a : List T_Fn) : ItC prog 183 [.dat 1 [[.sl false (a.map enc_Fn)]] 0 0] ((backL a).map encBk) := by
  refine itC_len (pre := []) (rest := []) (i := 0) (off := 0) fun hlen => ?_
  simp only [List.length_map] at hlen
  have hul : ((backL a).map encBk).length = a.length := by rw [List.length_map, backL_len]
  refine ItC.of func183 rfl 19 ntmps183 rfl rfl rfl (fun l J Jx hJ hJx hJb hY => ?_)
  rw [hul]
  have hgx : GrowI (fun W (_ : Nat → Prop) => Jx W) := fun A A' own h hg => hJx A A' h hg
  refine YV.seq ?_
  refine YV.seg (hJ 0) (fun B => ?_)
  refine vl (fun K hK => ?_)
  have hw : IntKind.i64.wrap ((a.length : Int) - 1) = (a.length : Int) - 1 := wrap_i64 (by omega) (by omega)
  push_cast [hw]
  refine hK _ ?_
  clear hK K
  refine ⟨bkS l a a.length, so (by push_cast [bkS]), rfl, ?_⟩
  refine YV.block ?_
  refine YV.loop (bkS l a) (fun n => J (a.length - n)) (fun n => n ≤ a.length) (fun n => n) a.length (Nat.le_refl _) rfl (by rw [Nat.sub_self]) ?_
  intro n hn
  refine YV.seq ?_
  refine YV.seq ?_
  refine YV.seg (hJ _) (fun B => ?_)
  refine vl (fun K hK => ?_)
  push_cast [bkS]
  refine hK _ ?_
  clear hK K
  refine ⟨⟨(8, rb (decide ((n : Int) - 1 ≥ 0))) :: (bkS l a n).tm, [], 0, 19, 0⟩, so (by push_cast [bkS]), rfl, ?_⟩
  refine YV.cond rfl rfl (fun hc => ?_) (fun hc => ?_)
  case refine_2 =>
    refine YV.exit ?_
    have h0 : n = 0 := by
      have := of_decide_eq_false hc
      omega
    subst h0
    exact ⟨.inl rfl, .inl rfl⟩
  case refine_1 =>
    refine YV.skip ?_
    obtain ⟨m, rfl⟩ : ∃ m, n = m + 1 := by
      have := of_decide_eq_true hc
      exact ⟨n - 1, by omega⟩
    have hm : m < a.length := by omega
    have hmI : (m : Int) < (a.length : Int) := by omega
    have e1 : (((m + 1 : Nat) : Int) - 1) = (m : Int) := by omega
    obtain ⟨b, hb⟩ : ∃ b, a[m]? = some b := ⟨_, List.getElem?_eq_getElem hm⟩
    have hb2 : (a.map enc_Fn)[m]? = some (enc_Fn b) := by rw [List.getElem?_map, hb]; rfl
    have hu : ((backL a).map encBk)[a.length - (m + 1)]? = some (encBk (m : Int)) := by rw [List.getElem?_map, backL_at hm]; rfl
    show YV prog _ _ _ (J (a.length - (m + 1)))
    refine YV.seq ?_
    refine YV.block ?_
    refine YV.seq ?_
    simp only [bkS, e1]
    refine YV.yieldAt 6 (evOperF_ok tabOkF) rfl hJ hJx hJb hY hu rfl rfl (by exact rfl) rfl (fun K hK => ?_)
    push_cast [encBk, hb, hm, hmI]
    intro c
    refine hK _ _ ?_
    clear hK K
    refine ⟨⟨[(18, rb (!c)), (0, .fn (.yield l) [] []), (1, .dat 1 [[.sl false (a.map enc_Fn)]] 0 0), (3, ri (m : Int))], [], 6, 19, 6⟩, so (by push_cast), rfl, ?_⟩
    refine YV.zero rfl ?_
    refine YV.cond rfl rfl (fun h => ?_) (fun h => ?_)
    · have hcf : c = false := by simpa using h
      subst hcf
      exact YV.ret ⟨.inr rfl, .inr rfl⟩
    · have hct : c = true := by simpa using h
      subst hct
      refine YV.skip ?_
      have e2 : a.length - (m + 1) + 1 = a.length - m := by omega
      show YV prog _ _ _ (J (a.length - (m + 1) + 1))
      rw [e2]
      refine YV.seg (hJ _) (fun B => ?_)
      refine vl (fun K hK => ?_)
      have hw : IntKind.i64.wrap ((m : Int) - 1) = (m : Int) - 1 := wrap_i64 (by omega) (by omega)
      push_cast [hw]
      refine hK _ ?_
      clear hK K
      exact ⟨bkS l a m, so (by push_cast [bkS]), rfl, m, by omega, by show m < m + 1; omega, rfl, rfl⟩
theorem sh_gS (a : A8 Bool) (r : List AV) {n : Nat} (hn : n < 8) : (.raw (.bool a.a0) :: .raw (.bool a.a1) :: .raw (.bool a.a2) :: .raw (.bool a.a3) :: .raw (.bool a.a4) :: .raw (.bool a.a5) :: .raw (.bool a.a6) :: .raw (.bool a.a7) :: r)[n]? = some (.raw (.bool (a.get n))) := by
  rcases A8.cases hn with rfl | rfl | rfl | rfl | rfl | rfl | rfl | rfl <;> rfl
theorem sh_gR (c0 c1 c2 c3 c4 c5 c6 c7 : AV) (b : A8 C128) (r : List AV) {n : Nat} (hn : n < 8) : (c0 :: c1 :: c2 :: c3 :: c4 :: c5 :: c6 :: c7 :: .raw (.complex .f64 b.a0.re b.a0.im) :: .raw (.complex .f64 b.a1.re b.a1.im) :: .raw (.complex .f64 b.a2.re b.a2.im) :: .raw (.complex .f64 b.a3.re b.a3.im) :: .raw (.complex .f64 b.a4.re b.a4.im) :: .raw (.complex .f64 b.a5.re b.a5.im) :: .raw (.complex .f64 b.a6.re b.a6.im) :: .raw (.complex .f64 b.a7.re b.a7.im) :: r)[8 + n]? = some (.raw (.complex .f64 (b.get n).re (b.get n).im)) := by
  rcases A8.cases hn with rfl | rfl | rfl | rfl | rfl | rfl | rfl | rfl <;> rfl
theorem sh_sS (a : A8 Bool) (r : List AV) (v : Bool) {n : Nat} (hn : n < 8) : (.raw (.bool a.a0) :: .raw (.bool a.a1) :: .raw (.bool a.a2) :: .raw (.bool a.a3) :: .raw (.bool a.a4) :: .raw (.bool a.a5) :: .raw (.bool a.a6) :: .raw (.bool a.a7) :: r).set n (.raw (.bool v)) = .raw (.bool (a.set n v).a0) :: .raw (.bool (a.set n v).a1) :: .raw (.bool (a.set n v).a2) :: .raw (.bool (a.set n v).a3) :: .raw (.bool (a.set n v).a4) :: .raw (.bool (a.set n v).a5) :: .raw (.bool (a.set n v).a6) :: .raw (.bool (a.set n v).a7) :: r := by
  rcases A8.cases hn with rfl | rfl | rfl | rfl | rfl | rfl | rfl | rfl <;> rfl
theorem sh_sR (c0 c1 c2 c3 c4 c5 c6 c7 : AV) (b : A8 C128) (r : List AV) (x y : Nat) {n : Nat} (hn : n < 8) : (c0 :: c1 :: c2 :: c3 :: c4 :: c5 :: c6 :: c7 :: .raw (.complex .f64 b.a0.re b.a0.im) :: .raw (.complex .f64 b.a1.re b.a1.im) :: .raw (.complex .f64 b.a2.re b.a2.im) :: .raw (.complex .f64 b.a3.re b.a3.im) :: .raw (.complex .f64 b.a4.re b.a4.im) :: .raw (.complex .f64 b.a5.re b.a5.im) :: .raw (.complex .f64 b.a6.re b.a6.im) :: .raw (.complex .f64 b.a7.re b.a7.im) :: r).set (8 + n) (.raw (.complex .f64 x y)) = c0 :: c1 :: c2 :: c3 :: c4 :: c5 :: c6 :: c7 :: .raw (.complex .f64 (b.set n ⟨x, y⟩).a0.re (b.set n ⟨x, y⟩).a0.im) :: .raw (.complex .f64 (b.set n ⟨x, y⟩).a1.re (b.set n ⟨x, y⟩).a1.im) :: .raw (.complex .f64 (b.set n ⟨x, y⟩).a2.re (b.set n ⟨x, y⟩).a2.im) :: .raw (.complex .f64 (b.set n ⟨x, y⟩).a3.re (b.set n ⟨x, y⟩).a3.im) :: .raw (.complex .f64 (b.set n ⟨x, y⟩).a4.re (b.set n ⟨x, y⟩).a4.im) :: .raw (.complex .f64 (b.set n ⟨x, y⟩).a5.re (b.set n ⟨x, y⟩).a5.im) :: .raw (.complex .f64 (b.set n ⟨x, y⟩).a6.re (b.set n ⟨x, y⟩).a6.im) :: .raw (.complex .f64 (b.set n ⟨x, y⟩).a7.re (b.set n ⟨x, y⟩).a7.im) :: r := by
  rcases A8.cases hn with rfl | rfl | rfl | rfl | rfl | rfl | rfl | rfl <;> rfl
def tabf (l : List (Nat × Nat)) (k : Nat) : Nat := (look l k).getD k
def tabi (l : List (Nat × Nat)) : List (Nat × Nat) := l.map fun p => (p.2, p.1)
def tabc (l : List (Nat × Nat)) : Bool := l.all fun p => tabf (tabi l) p.2 == p.1 && tabf l p.1 == p.2 && (look l p.2).isSome && (look (tabi l) p.1).isSome
theorem look_mem {α : Type} {l : List (Nat × α)} {k : Nat} {v : α} (h : look l k = some v) : (k, v) ∈ l := by
  induction l with
  | nil => cases h
  | cons p l ih =>
    obtain ⟨j, u⟩ := p
    simp only [look] at h
    split at h
    · rename_i e
      injection h with h
      rw [e, h]
      exact List.mem_cons_self
    · exact List.mem_cons_of_mem _ (ih h)
theorem Bij.tab {l : List (Nat × Nat)} (h : tabc l = true) : Bij (tabf l) (tabf (tabi l)) := by
  have key : ∀ p ∈ l, (tabf (tabi l) p.2 = p.1 ∧ tabf l p.1 = p.2) ∧ (look l p.2).isSome = true ∧ (look (tabi l) p.1).isSome = true := by
    intro p hp
    have := (List.all_eq_true.1 h) p hp
    simp only [Bool.and_eq_true, beq_iff_eq] at this
    exact ⟨⟨this.1.1.1, this.1.1.2⟩, this.1.2, this.2⟩
  constructor
  · intro k
    cases hl : look l k with
    | some v =>
      have e : tabf l k = v := by simp [tabf, hl]
      rw [e]
      exact (key _ (look_mem hl)).1.1
    | none =>
      have e : tabf l k = k := by simp [tabf, hl]
      rw [e]
      cases hi : look (tabi l) k with
      | none => simp [tabf, hi]
      | some u =>
        obtain ⟨q, hq, e2⟩ := List.mem_map.1 (look_mem hi)
        injection e2 with e3 e4
        have := (key q hq).2.1
        rw [e3, hl] at this
        cases this
  · intro k
    cases hi : look (tabi l) k with
    | some u =>
      have e : tabf (tabi l) k = u := by simp [tabf, hi]
      rw [e]
      obtain ⟨q, hq, e2⟩ := List.mem_map.1 (look_mem hi)
      injection e2 with e3 e4
      have := (key q hq).1.2
      rw [e4, e3] at this
      exact this
    | none =>
      have e : tabf (tabi l) k = k := by simp [tabf, hi]
      rw [e]
      cases hl : look l k with
      | none => simp [tabf, hl]
      | some v =>
        have := (key _ (look_mem hl)).2.2
        rw [hi] at this
        cases this
attribute [push_cast] tabf tabi
theorem maxI_un (a b : Int) : maxI a b = if b > a then b else a := rfl
theorem minI_un (a b : Int) : minI a b = if b < a then b else a := rfl
attribute [push_cast] maxI_un minI_un
attribute [push_cast] enc_Shape sh_gS sh_gR sh_sS sh_sR
theorem at_A8_inst_rule (a : A8 T_inst_rule) {n : Nat} (hn : n < 8) : ((encA8 enc_inst_rule a).drop (n * 5)).take 5 = enc_inst_rule (a.get n) := encA8_at (f := enc_inst_rule) (k := 5) (fun _ => rfl) a hn
attribute [push_cast] at_A8_inst_rule
theorem len_A8_inst_rule (a : A8 T_inst_rule) : (encA8 enc_inst_rule a).length = 40 := rfl
attribute [push_cast] len_A8_inst_rule
noncomputable def p_inst_in_J1 (i_1 : Bool) : Option (Bool) :=
  some i_1
noncomputable def p_inst_in (a0 : Int) (a1 : Int) : Option (Bool) :=
  po (
  cond (decide (a0 ≥ 0)) (
  some (decide (a0 < a1))) (
  some false)) (fun x => p_inst_in_J1 x)
theorem c_inst_in {a0 : Int} {a1 : Int} {r : Bool} (h : p_inst_in a0 a1 = some r) : Ctr prog 152 [ri a0, ri a1] [] (rb r) [] := by
 unfold p_inst_in at h; refine Ctr.ofW tabOk func152 rfl call152 0 _ ntmps152 [.tmp 4] rfl rfl rfl (fun B => ?_); refine vs [0, 1] (fun K hK => ?_); push_cast; refine hK _ ?_; clear hK K; refine vj h (fun x => ⟨[(4, rb x)], [], 9, 12, 0⟩) (fun v1 h hk1 => ?_) ?_
 ·rcases Bool.eq_false_or_eq_true (decide (a0 ≥ 0)) with hb2 | hb2
  ·replace h := cond_yes hb2 h; refine vlG [some 5, some 6, some 7, some 8, some 9, some 10, some 11, some 4] (fun K hK => ?_); push_cast [hb2]; (repeat refine .intro (by omega) ?_); refine hK _ ?_; clear hK K; refine ar h hk1 ?_; exact sl (by push_cast [hb2])
  ·replace h := cond_no hb2 h; refine vlG [some 5, some 6, some 7, some 8, some 9, some 10, some 11, some 4] (fun K hK => ?_); push_cast [hb2]; (repeat refine .intro (by omega) ?_); refine hK _ ?_; clear hK K; refine ar h hk1 ?_; exact sl (by push_cast [hb2])
 ·rintro i_1 (h : p_inst_in_J1 i_1 = some r); (try push_cast); unfold p_inst_in_J1 at h; refine VC.ret ?_; replace h := Option.some.inj h; subst h; exact en (by push_cast)
noncomputable def p_inst_rules : Option ((A8 T_inst_rule)) :=
  some (A8.mk (T_inst_rule.mk 11 true true 0 true) (T_inst_rule.mk 5 true true 65535 true) (T_inst_rule.mk 1 true true 0 true) (T_inst_rule.mk 1 true true 0 true) (T_inst_rule.mk 1 true true 0 true) (T_inst_rule.mk 1 false false 0 true) (T_inst_rule.mk 1 false false 0 true) (T_inst_rule.mk 1 false false 0 false))
theorem c_inst_rules {r : (A8 T_inst_rule)} (h : p_inst_rules = some r) : Ctr prog 153 [] [] (.agg ((encA8 enc_inst_rule) r)) [] := by
 unfold p_inst_rules at h; refine Ctr.ofW tabOk func153 rfl call153 0 _ ntmps153 [.cell 0 247] rfl rfl rfl (fun B => ?_); refine vs [0] (fun K hK => ?_); push_cast (maxSteps := 9000000) [-partsQ]; refine hK _ ?_; clear hK K; refine vs [0] (fun K hK => ?_); push_cast (maxSteps := 9000000) [-partsQ]; refine hK _ ?_; clear hK K; refine VC.ret ?_; replace h := Option.some.inj h; subst h; exact en (by push_cast (maxSteps := 9000000) [-partsQ, encA8])
noncomputable def p_inst_May_J11 (a0 : T_Inst) (r8 : (A8 T_inst_rule)) (i_2 : Bool) : Option (T_inst_rule) :=
  cond i_2 (
  some (T_inst_rule.mk ((r8.get a0.Op.toNat).fns) false false ((r8.get a0.Op.toNat).off) false)) (
  some (r8.get a0.Op.toNat))
noncomputable def p_inst_May_J30 (i_5 : Bool) : Option (Bool) :=
  some i_5
noncomputable def p_inst_May_J32 (i_6 : Bool) : Option (Bool) :=
  some i_6
noncomputable def p_inst_May_J14 (a0 : T_Inst) (i_4 : Bool) : Option (Bool) :=
  cond a0.Reg (
  po (
  cond i_4 (
  some ((a0.Imm.toNat : Int) == 0)) (
  some false)) (fun x => p_inst_May_J30 x)) (
  po (
  cond i_4 (
  some (a0.Src == 0)) (
  some false)) (fun x => p_inst_May_J32 x))
noncomputable def p_inst_May_J10 (a0 : T_Inst) (s_3 : T_inst_rule) : Option (Bool) :=
  po (
  po (p_inst_in a0.Fn s_3.fns) fun r15 =>
  cond r15 (
  po (p_inst_in a0.Off (IntKind.i64.wrap (s_3.off + 1))) fun r17 =>
  cond r17 (
  cond s_3.dst (
  cond s_3.word (
  cond s_3.imm (
  some true) (
  some ((a0.Imm.toNat : Int) == 0))) (
  cond a0.Reg (
  some false) (
  cond s_3.imm (
  some true) (
  some ((a0.Imm.toNat : Int) == 0))))) (
  cond (a0.Dst == 0) (
  cond s_3.word (
  cond s_3.imm (
  some true) (
  some ((a0.Imm.toNat : Int) == 0))) (
  cond a0.Reg (
  some false) (
  cond s_3.imm (
  some true) (
  some ((a0.Imm.toNat : Int) == 0))))) (
  some false))) (
  some false)) (
  some false)) (fun x => p_inst_May_J14 a0 x)
noncomputable def p_inst_May_J1 (a0 : T_Inst) (i_1 : Bool) : Option (Bool) :=
  cond i_1 (
  some false) (
  po (p_inst_rules) fun r8 =>
  pg (0 ≤ a0.Op ∧ a0.Op < 8) <|
  po (
  po (
  cond (a0.Op == 1) (
  some (a0.Fn == 0)) (
  some false)) (fun x => p_inst_May_J11 a0 r8 x)) (fun x => p_inst_May_J10 a0 x))
noncomputable def p_inst_May (a0 : T_Inst) : Option (Bool) :=
  po (
  po (p_inst_in a0.Op 8) fun r2 =>
  cond r2 (
  po (p_inst_in a0.Dst 8) fun r4 =>
  cond r4 (
  po (p_inst_in a0.Src 8) fun r6 =>
  some (!r6)) (
  some true)) (
  some true)) (fun x => p_inst_May_J1 a0 x)
theorem c_inst_May {a0 : T_Inst} {r : Bool} (h : p_inst_May a0 = some r) : Ctr prog 115 [.agg (enc_Inst a0)] [] (rb r) [] := by
 unfold p_inst_May at h; refine Ctr.ofW tabOk func115 rfl call115 0 _ ntmps115 [.tmp 2] rfl rfl rfl (fun B => ?_); refine vs [1] (fun K hK => ?_); push_cast; refine hK _ ?_; clear hK K; refine VC.seq ?_; refine vj h (fun x => ⟨[(1, .ref 0 0), (20, rb x)], [(0, .box 37 (enc_Inst a0))], 18, 90, 0⟩) (fun v1 h hk1 => ?_) ?_
 ·obtain ⟨r2, hr2, h⟩ := po_some h; rcases Bool.eq_false_or_eq_true r2 with hb3 | hb3
  ·replace h := cond_yes hb3 h; obtain ⟨r4, hr4, h⟩ := po_some h; rcases Bool.eq_false_or_eq_true r4 with hb5 | hb5
   ·replace h := cond_yes hb5 h; obtain ⟨r6, hr6, h⟩ := po_some h; refine vlG [some 5, some 6, some 7, some 8, some 9, some 10, some 11, some 12, some 13, some 14, some 15, some 16, some 17, some 18, some 19, some 20] (fun K hK => ?_); refine runOps_cut 8 (fun K2 hK2 => ?_); push_cast [hb3, hb5]; (repeat refine .intro (by omega) ?_); refine cp (c_inst_in hr2) ?_; push_cast [hb3, hb5]; (repeat refine .intro (by omega) ?_); refine cp (c_inst_in hr4) ?_; push_cast [hb3, hb5]; (repeat refine .intro (by omega) ?_); refine hK2 _ _ ?_; clear hK2 K2; simp only [List.drop_succ_cons, List.drop_zero]; push_cast [hb3, hb5]; (repeat refine .intro (by omega) ?_); refine cp (c_inst_in hr6) ?_; push_cast [hb3, hb5]; (repeat refine .intro (by omega) ?_); refine hK _ ?_; clear hK K; refine ar h hk1 ?_; exact sl (by push_cast [hb3, hb5])
   ·replace h := cond_no hb5 h; refine vlG [some 5, some 6, some 7, some 8, some 9, some 10, some 11, some 12, some 13, some 14, some 15, some 16, some 17, some 18, some 19, some 20] (fun K hK => ?_); refine runOps_cut 8 (fun K2 hK2 => ?_); push_cast [hb3, hb5]; (repeat refine .intro (by omega) ?_); refine cp (c_inst_in hr2) ?_; push_cast [hb3, hb5]; (repeat refine .intro (by omega) ?_); refine cp (c_inst_in hr4) ?_; push_cast [hb3, hb5]; (repeat refine .intro (by omega) ?_); refine hK2 _ _ ?_; clear hK2 K2; simp only [List.drop_succ_cons, List.drop_zero]; push_cast [hb3, hb5]; (repeat refine .intro (by omega) ?_); refine hK _ ?_; clear hK K; refine ar h hk1 ?_; exact sl (by push_cast [hb3, hb5])
  ·replace h := cond_no hb3 h; refine vlG [some 5, some 6, some 7, some 8, some 9, some 10, some 11, some 12, some 13, some 14, some 15, some 16, some 17, some 18, some 19, some 20] (fun K hK => ?_); refine runOps_cut 8 (fun K2 hK2 => ?_); push_cast [hb3]; (repeat refine .intro (by omega) ?_); refine cp (c_inst_in hr2) ?_; push_cast [hb3]; (repeat refine .intro (by omega) ?_); refine hK2 _ _ ?_; clear hK2 K2; simp only [List.drop_succ_cons, List.drop_zero]; push_cast [hb3]; (repeat refine .intro (by omega) ?_); refine hK _ ?_; clear hK K; refine ar h hk1 ?_; exact sl (by push_cast [hb3])
 ·rintro i_1 (h : p_inst_May_J1 a0 i_1 = some r); (try push_cast); unfold p_inst_May_J1 at h; refine vc h (fun hb7 h => ?_) (fun hb7 h => ?_)
  ·refine vs [2] (fun K hK => ?_); push_cast; refine hK _ ?_; clear hK K; refine VC.ret ?_; replace h := Option.some.inj h; subst h; exact en (by push_cast [hb7])
  ·refine VC.skip ?_; obtain ⟨r8, hr8, h⟩ := po_some h; obtain ⟨hg9, h⟩ := pg_some h; have hg9n : a0.Op.toNat < 8 := by omega
   refine vsD [some 21, some 22, some 23, some 24, some 3, none] [1, 3] (fun K hK => ?_); push_cast [hg9, hg9n]; (repeat refine .intro (by omega) ?_); refine cpD (c_inst_rules hr8) ?_; push_cast [hg9, hg9n]; (repeat refine .intro (by omega) ?_); refine ⟨rfl, hK _ ?_⟩; clear hK K; refine vj h (fun x => ⟨[(1, .ref 0 0), (3, .ref 22 0)], [(0, .box 37 (enc_Inst a0)), (22, .box 246 (enc_inst_rule x))], 38, 90, 0⟩) (fun v10 h hk10 => ?_) ?_
   ·refine vj h (fun x => ⟨[(1, .ref 0 0), (3, .ref 22 0), (32, rb x)], [(0, .box 37 (enc_Inst a0)), (22, .box 246 (enc_inst_rule (r8.get a0.Op.toNat)))], 32, 90, 0⟩) (fun v11 h hk11 => ?_) ?_
    ·rcases Bool.eq_false_or_eq_true (a0.Op == 1) with hb12 | hb12
     ·replace h := cond_yes hb12 h; refine vlG [some 25, some 26, some 27, some 28, some 29, some 30, some 31, some 32] (fun K hK => ?_); push_cast [hb12]; (repeat refine .intro (by omega) ?_); refine hK _ ?_; clear hK K; refine ar h hk11 ?_; exact sl (by push_cast [hb7, hb12])
     ·replace h := cond_no hb12 h; refine vlG [some 25, some 26, some 27, some 28, some 29, some 30, some 31, some 32] (fun K hK => ?_); push_cast [hb12]; (repeat refine .intro (by omega) ?_); refine hK _ ?_; clear hK K; refine ar h hk11 ?_; exact sl (by push_cast [hb7, hb12])
    ·rintro i_2 (h : p_inst_May_J11 a0 r8 i_2 = some v10); (try push_cast); unfold p_inst_May_J11 at h; refine vc h (fun hb13 h => ?_) (fun hb13 h => ?_)
     ·refine vl (fun K hK => ?_); push_cast; refine hK _ ?_; clear hK K; refine ar h hk10 ?_; exact sl (by push_cast [hb7, hb13])
     ·refine VC.skip ?_; refine ar h hk10 ?_; exact sl (by push_cast [hb7, hb13])
   ·rintro s_3 (h : p_inst_May_J10 a0 s_3 = some r); (try push_cast); unfold p_inst_May_J10 at h; refine vj h (fun x => ⟨[(1, .ref 0 0), (4, rb x)], [(0, .box 37 (enc_Inst a0))], 79, 90, 0⟩) (fun v14 h hk14 => ?_) ?_
    ·obtain ⟨r15, hr15, h⟩ := po_some h; rcases Bool.eq_false_or_eq_true r15 with hb16 | hb16
     ·replace h := cond_yes hb16 h; obtain ⟨r17, hr17, h⟩ := po_some h; rcases Bool.eq_false_or_eq_true r17 with hb18 | hb18
      ·replace h := cond_yes hb18 h; rcases Bool.eq_false_or_eq_true s_3.dst with hb19 | hb19
       ·replace h := cond_yes hb19 h; rcases Bool.eq_false_or_eq_true s_3.word with hb20 | hb20
        ·replace h := cond_yes hb20 h; rcases Bool.eq_false_or_eq_true s_3.imm with hb21 | hb21
         ·replace h := cond_yes hb21 h; refine vlG [some 36, some 37, some 38, some 39, some 40, some 41, some 42, some 43, some 44, some 45, some 46, some 47, some 48, some 49, some 50, some 51, some 52, some 53, some 54, some 55, some 56, some 57, some 58, some 59, some 60, some 61, some 62, some 63, some 64, some 65, some 66, some 67, some 68, some 69, some 70, some 71, some 72, some 73, some 74, some 75, some 4] (fun K hK => ?_); refine runOps_cut 8 (fun K2 hK2 => ?_); push_cast [hb16, hb18, hb19, hb20, hb21]; (repeat refine .intro (by omega) ?_); refine cp (c_inst_in hr15) ?_; push_cast [hb16, hb18, hb19, hb20, hb21]; (repeat refine .intro (by omega) ?_); refine hK2 _ _ ?_; clear hK2 K2; simp only [List.drop_succ_cons, List.drop_zero]; refine runOps_cut 8 (fun K2 hK2 => ?_); push_cast [hb16, hb18, hb19, hb20, hb21]; (repeat refine .intro (by omega) ?_); refine cp (c_inst_in hr17) ?_; push_cast [hb16, hb18, hb19, hb20, hb21]; (repeat refine .intro (by omega) ?_); refine hK2 _ _ ?_; clear hK2 K2; simp only [List.drop_succ_cons, List.drop_zero]; refine runOps_cut 8 (fun K2 hK2 => ?_); push_cast [hb16, hb18, hb19, hb20, hb21]; (repeat refine .intro (by omega) ?_); refine hK2 _ _ ?_; clear hK2 K2; simp only [List.drop_succ_cons, List.drop_zero]; refine runOps_cut 8 (fun K2 hK2 => ?_); push_cast [hb16, hb18, hb19, hb20, hb21]; (repeat refine .intro (by omega) ?_); refine hK2 _ _ ?_; clear hK2 K2; simp only [List.drop_succ_cons, List.drop_zero]; push_cast [hb16, hb18, hb19, hb20, hb21]; (repeat refine .intro (by omega) ?_); refine hK _ ?_; clear hK K; refine ar h hk14 ?_; exact sl (by push_cast [hb7, hb16, hb18, hb19, hb20, hb21])
         ·replace h := cond_no hb21 h; refine vlG [some 36, some 37, some 38, some 39, some 40, some 41, some 42, some 43, some 44, some 45, some 46, some 47, some 48, some 49, some 50, some 51, some 52, some 53, some 54, some 55, some 56, some 57, some 58, some 59, some 60, some 61, some 62, some 63, some 64, some 65, some 66, some 67, some 68, some 69, some 70, some 71, some 72, some 73, some 74, some 75, some 4] (fun K hK => ?_); refine runOps_cut 8 (fun K2 hK2 => ?_); push_cast [hb16, hb18, hb19, hb20, hb21]; (repeat refine .intro (by omega) ?_); refine cp (c_inst_in hr15) ?_; push_cast [hb16, hb18, hb19, hb20, hb21]; (repeat refine .intro (by omega) ?_); refine hK2 _ _ ?_; clear hK2 K2; simp only [List.drop_succ_cons, List.drop_zero]; refine runOps_cut 8 (fun K2 hK2 => ?_); push_cast [hb16, hb18, hb19, hb20, hb21]; (repeat refine .intro (by omega) ?_); refine cp (c_inst_in hr17) ?_; push_cast [hb16, hb18, hb19, hb20, hb21]; (repeat refine .intro (by omega) ?_); refine hK2 _ _ ?_; clear hK2 K2; simp only [List.drop_succ_cons, List.drop_zero]; refine runOps_cut 8 (fun K2 hK2 => ?_); push_cast [hb16, hb18, hb19, hb20, hb21]; (repeat refine .intro (by omega) ?_); refine hK2 _ _ ?_; clear hK2 K2; simp only [List.drop_succ_cons, List.drop_zero]; refine runOps_cut 8 (fun K2 hK2 => ?_); push_cast [hb16, hb18, hb19, hb20, hb21]; (repeat refine .intro (by omega) ?_); refine hK2 _ _ ?_; clear hK2 K2; simp only [List.drop_succ_cons, List.drop_zero]; push_cast [hb16, hb18, hb19, hb20, hb21]; (repeat refine .intro (by omega) ?_); refine hK _ ?_; clear hK K; refine ar h hk14 ?_; exact sl (by push_cast [hb7, hb16, hb18, hb19, hb20, hb21])
        ·replace h := cond_no hb20 h; rcases Bool.eq_false_or_eq_true a0.Reg with hb22 | hb22
         ·replace h := cond_yes hb22 h; refine vlG [some 36, some 37, some 38, some 39, some 40, some 41, some 42, some 43, some 44, some 45, some 46, some 47, some 48, some 49, some 50, some 51, some 52, some 53, some 54, some 55, some 56, some 57, some 58, some 59, some 60, some 61, some 62, some 63, some 64, some 65, some 66, some 67, some 68, some 69, some 70, some 71, some 72, some 73, some 74, some 75, some 4] (fun K hK => ?_); refine runOps_cut 8 (fun K2 hK2 => ?_); push_cast [hb16, hb18, hb19, hb20, hb22]; (repeat refine .intro (by omega) ?_); refine cp (c_inst_in hr15) ?_; push_cast [hb16, hb18, hb19, hb20, hb22]; (repeat refine .intro (by omega) ?_); refine hK2 _ _ ?_; clear hK2 K2; simp only [List.drop_succ_cons, List.drop_zero]; refine runOps_cut 8 (fun K2 hK2 => ?_); push_cast [hb16, hb18, hb19, hb20, hb22]; (repeat refine .intro (by omega) ?_); refine cp (c_inst_in hr17) ?_; push_cast [hb16, hb18, hb19, hb20, hb22]; (repeat refine .intro (by omega) ?_); refine hK2 _ _ ?_; clear hK2 K2; simp only [List.drop_succ_cons, List.drop_zero]; refine runOps_cut 8 (fun K2 hK2 => ?_); push_cast [hb16, hb18, hb19, hb20, hb22]; (repeat refine .intro (by omega) ?_); refine hK2 _ _ ?_; clear hK2 K2; simp only [List.drop_succ_cons, List.drop_zero]; refine runOps_cut 8 (fun K2 hK2 => ?_); push_cast [hb16, hb18, hb19, hb20, hb22]; (repeat refine .intro (by omega) ?_); refine hK2 _ _ ?_; clear hK2 K2; simp only [List.drop_succ_cons, List.drop_zero]; push_cast [hb16, hb18, hb19, hb20, hb22]; (repeat refine .intro (by omega) ?_); refine hK _ ?_; clear hK K; refine ar h hk14 ?_; exact sl (by push_cast [hb7, hb16, hb18, hb19, hb20, hb22])
         ·replace h := cond_no hb22 h; rcases Bool.eq_false_or_eq_true s_3.imm with hb23 | hb23
          ·replace h := cond_yes hb23 h; refine vlG [some 36, some 37, some 38, some 39, some 40, some 41, some 42, some 43, some 44, some 45, some 46, some 47, some 48, some 49, some 50, some 51, some 52, some 53, some 54, some 55, some 56, some 57, some 58, some 59, some 60, some 61, some 62, some 63, some 64, some 65, some 66, some 67, some 68, some 69, some 70, some 71, some 72, some 73, some 74, some 75, some 4] (fun K hK => ?_); refine runOps_cut 8 (fun K2 hK2 => ?_); push_cast [hb16, hb18, hb19, hb20, hb22, hb23]; (repeat refine .intro (by omega) ?_); refine cp (c_inst_in hr15) ?_; push_cast [hb16, hb18, hb19, hb20, hb22, hb23]; (repeat refine .intro (by omega) ?_); refine hK2 _ _ ?_; clear hK2 K2; simp only [List.drop_succ_cons, List.drop_zero]; refine runOps_cut 8 (fun K2 hK2 => ?_); push_cast [hb16, hb18, hb19, hb20, hb22, hb23]; (repeat refine .intro (by omega) ?_); refine cp (c_inst_in hr17) ?_; push_cast [hb16, hb18, hb19, hb20, hb22, hb23]; (repeat refine .intro (by omega) ?_); refine hK2 _ _ ?_; clear hK2 K2; simp only [List.drop_succ_cons, List.drop_zero]; refine runOps_cut 8 (fun K2 hK2 => ?_); push_cast [hb16, hb18, hb19, hb20, hb22, hb23]; (repeat refine .intro (by omega) ?_); refine hK2 _ _ ?_; clear hK2 K2; simp only [List.drop_succ_cons, List.drop_zero]; refine runOps_cut 8 (fun K2 hK2 => ?_); push_cast [hb16, hb18, hb19, hb20, hb22, hb23]; (repeat refine .intro (by omega) ?_); refine hK2 _ _ ?_; clear hK2 K2; simp only [List.drop_succ_cons, List.drop_zero]; push_cast [hb16, hb18, hb19, hb20, hb22, hb23]; (repeat refine .intro (by omega) ?_); refine hK _ ?_; clear hK K; refine ar h hk14 ?_; exact sl (by push_cast [hb7, hb16, hb18, hb19, hb20, hb22, hb23])
          ·replace h := cond_no hb23 h; refine vlG [some 36, some 37, some 38, some 39, some 40, some 41, some 42, some 43, some 44, some 45, some 46, some 47, some 48, some 49, some 50, some 51, some 52, some 53, some 54, some 55, some 56, some 57, some 58, some 59, some 60, some 61, some 62, some 63, some 64, some 65, some 66, some 67, some 68, some 69, some 70, some 71, some 72, some 73, some 74, some 75, some 4] (fun K hK => ?_); refine runOps_cut 8 (fun K2 hK2 => ?_); push_cast [hb16, hb18, hb19, hb20, hb22, hb23]; (repeat refine .intro (by omega) ?_); refine cp (c_inst_in hr15) ?_; push_cast [hb16, hb18, hb19, hb20, hb22, hb23]; (repeat refine .intro (by omega) ?_); refine hK2 _ _ ?_; clear hK2 K2; simp only [List.drop_succ_cons, List.drop_zero]; refine runOps_cut 8 (fun K2 hK2 => ?_); push_cast [hb16, hb18, hb19, hb20, hb22, hb23]; (repeat refine .intro (by omega) ?_); refine cp (c_inst_in hr17) ?_; push_cast [hb16, hb18, hb19, hb20, hb22, hb23]; (repeat refine .intro (by omega) ?_); refine hK2 _ _ ?_; clear hK2 K2; simp only [List.drop_succ_cons, List.drop_zero]; refine runOps_cut 8 (fun K2 hK2 => ?_); push_cast [hb16, hb18, hb19, hb20, hb22, hb23]; (repeat refine .intro (by omega) ?_); refine hK2 _ _ ?_; clear hK2 K2; simp only [List.drop_succ_cons, List.drop_zero]; refine runOps_cut 8 (fun K2 hK2 => ?_); push_cast [hb16, hb18, hb19, hb20, hb22, hb23]; (repeat refine .intro (by omega) ?_); refine hK2 _ _ ?_; clear hK2 K2; simp only [List.drop_succ_cons, List.drop_zero]; push_cast [hb16, hb18, hb19, hb20, hb22, hb23]; (repeat refine .intro (by omega) ?_); refine hK _ ?_; clear hK K; refine ar h hk14 ?_; exact sl (by push_cast [hb7, hb16, hb18, hb19, hb20, hb22, hb23])
       ·replace h := cond_no hb19 h; rcases Bool.eq_false_or_eq_true (a0.Dst == 0) with hb24 | hb24
        ·replace h := cond_yes hb24 h; rcases Bool.eq_false_or_eq_true s_3.word with hb25 | hb25
         ·replace h := cond_yes hb25 h; rcases Bool.eq_false_or_eq_true s_3.imm with hb26 | hb26
          ·replace h := cond_yes hb26 h; refine vlG [some 36, some 37, some 38, some 39, some 40, some 41, some 42, some 43, some 44, some 45, some 46, some 47, some 48, some 49, some 50, some 51, some 52, some 53, some 54, some 55, some 56, some 57, some 58, some 59, some 60, some 61, some 62, some 63, some 64, some 65, some 66, some 67, some 68, some 69, some 70, some 71, some 72, some 73, some 74, some 75, some 4] (fun K hK => ?_); refine runOps_cut 8 (fun K2 hK2 => ?_); push_cast [hb16, hb18, hb19, hb24, hb25, hb26]; (repeat refine .intro (by omega) ?_); refine cp (c_inst_in hr15) ?_; push_cast [hb16, hb18, hb19, hb24, hb25, hb26]; (repeat refine .intro (by omega) ?_); refine hK2 _ _ ?_; clear hK2 K2; simp only [List.drop_succ_cons, List.drop_zero]; refine runOps_cut 8 (fun K2 hK2 => ?_); push_cast [hb16, hb18, hb19, hb24, hb25, hb26]; (repeat refine .intro (by omega) ?_); refine cp (c_inst_in hr17) ?_; push_cast [hb16, hb18, hb19, hb24, hb25, hb26]; (repeat refine .intro (by omega) ?_); refine hK2 _ _ ?_; clear hK2 K2; simp only [List.drop_succ_cons, List.drop_zero]; refine runOps_cut 8 (fun K2 hK2 => ?_); push_cast [hb16, hb18, hb19, hb24, hb25, hb26]; (repeat refine .intro (by omega) ?_); refine hK2 _ _ ?_; clear hK2 K2; simp only [List.drop_succ_cons, List.drop_zero]; refine runOps_cut 8 (fun K2 hK2 => ?_); push_cast [hb16, hb18, hb19, hb24, hb25, hb26]; (repeat refine .intro (by omega) ?_); refine hK2 _ _ ?_; clear hK2 K2; simp only [List.drop_succ_cons, List.drop_zero]; push_cast [hb16, hb18, hb19, hb24, hb25, hb26]; (repeat refine .intro (by omega) ?_); refine hK _ ?_; clear hK K; refine ar h hk14 ?_; exact sl (by push_cast [hb7, hb16, hb18, hb19, hb24, hb25, hb26])
          ·replace h := cond_no hb26 h; refine vlG [some 36, some 37, some 38, some 39, some 40, some 41, some 42, some 43, some 44, some 45, some 46, some 47, some 48, some 49, some 50, some 51, some 52, some 53, some 54, some 55, some 56, some 57, some 58, some 59, some 60, some 61, some 62, some 63, some 64, some 65, some 66, some 67, some 68, some 69, some 70, some 71, some 72, some 73, some 74, some 75, some 4] (fun K hK => ?_); refine runOps_cut 8 (fun K2 hK2 => ?_); push_cast [hb16, hb18, hb19, hb24, hb25, hb26]; (repeat refine .intro (by omega) ?_); refine cp (c_inst_in hr15) ?_; push_cast [hb16, hb18, hb19, hb24, hb25, hb26]; (repeat refine .intro (by omega) ?_); refine hK2 _ _ ?_; clear hK2 K2; simp only [List.drop_succ_cons, List.drop_zero]; refine runOps_cut 8 (fun K2 hK2 => ?_); push_cast [hb16, hb18, hb19, hb24, hb25, hb26]; (repeat refine .intro (by omega) ?_); refine cp (c_inst_in hr17) ?_; push_cast [hb16, hb18, hb19, hb24, hb25, hb26]; (repeat refine .intro (by omega) ?_); refine hK2 _ _ ?_; clear hK2 K2; simp only [List.drop_succ_cons, List.drop_zero]; refine runOps_cut 8 (fun K2 hK2 => ?_); push_cast [hb16, hb18, hb19, hb24, hb25, hb26]; (repeat refine .intro (by omega) ?_); refine hK2 _ _ ?_; clear hK2 K2; simp only [List.drop_succ_cons, List.drop_zero]; refine runOps_cut 8 (fun K2 hK2 => ?_); push_cast [hb16, hb18, hb19, hb24, hb25, hb26]; (repeat refine .intro (by omega) ?_); refine hK2 _ _ ?_; clear hK2 K2; simp only [List.drop_succ_cons, List.drop_zero]; push_cast [hb16, hb18, hb19, hb24, hb25, hb26]; (repeat refine .intro (by omega) ?_); refine hK _ ?_; clear hK K; refine ar h hk14 ?_; exact sl (by push_cast [hb7, hb16, hb18, hb19, hb24, hb25, hb26])
         ·replace h := cond_no hb25 h; rcases Bool.eq_false_or_eq_true a0.Reg with hb27 | hb27
          ·replace h := cond_yes hb27 h; refine vlG [some 36, some 37, some 38, some 39, some 40, some 41, some 42, some 43, some 44, some 45, some 46, some 47, some 48, some 49, some 50, some 51, some 52, some 53, some 54, some 55, some 56, some 57, some 58, some 59, some 60, some 61, some 62, some 63, some 64, some 65, some 66, some 67, some 68, some 69, some 70, some 71, some 72, some 73, some 74, some 75, some 4] (fun K hK => ?_); refine runOps_cut 8 (fun K2 hK2 => ?_); push_cast [hb16, hb18, hb19, hb24, hb25, hb27]; (repeat refine .intro (by omega) ?_); refine cp (c_inst_in hr15) ?_; push_cast [hb16, hb18, hb19, hb24, hb25, hb27]; (repeat refine .intro (by omega) ?_); refine hK2 _ _ ?_; clear hK2 K2; simp only [List.drop_succ_cons, List.drop_zero]; refine runOps_cut 8 (fun K2 hK2 => ?_); push_cast [hb16, hb18, hb19, hb24, hb25, hb27]; (repeat refine .intro (by omega) ?_); refine cp (c_inst_in hr17) ?_; push_cast [hb16, hb18, hb19, hb24, hb25, hb27]; (repeat refine .intro (by omega) ?_); refine hK2 _ _ ?_; clear hK2 K2; simp only [List.drop_succ_cons, List.drop_zero]; refine runOps_cut 8 (fun K2 hK2 => ?_); push_cast [hb16, hb18, hb19, hb24, hb25, hb27]; (repeat refine .intro (by omega) ?_); refine hK2 _ _ ?_; clear hK2 K2; simp only [List.drop_succ_cons, List.drop_zero]; refine runOps_cut 8 (fun K2 hK2 => ?_); push_cast [hb16, hb18, hb19, hb24, hb25, hb27]; (repeat refine .intro (by omega) ?_); refine hK2 _ _ ?_; clear hK2 K2; simp only [List.drop_succ_cons, List.drop_zero]; push_cast [hb16, hb18, hb19, hb24, hb25, hb27]; (repeat refine .intro (by omega) ?_); refine hK _ ?_; clear hK K; refine ar h hk14 ?_; exact sl (by push_cast [hb7, hb16, hb18, hb19, hb24, hb25, hb27])
          ·replace h := cond_no hb27 h; rcases Bool.eq_false_or_eq_true s_3.imm with hb28 | hb28
           ·replace h := cond_yes hb28 h; refine vlG [some 36, some 37, some 38, some 39, some 40, some 41, some 42, some 43, some 44, some 45, some 46, some 47, some 48, some 49, some 50, some 51, some 52, some 53, some 54, some 55, some 56, some 57, some 58, some 59, some 60, some 61, some 62, some 63, some 64, some 65, some 66, some 67, some 68, some 69, some 70, some 71, some 72, some 73, some 74, some 75, some 4] (fun K hK => ?_); refine runOps_cut 8 (fun K2 hK2 => ?_); push_cast [hb16, hb18, hb19, hb24, hb25, hb27, hb28]; (repeat refine .intro (by omega) ?_); refine cp (c_inst_in hr15) ?_; push_cast [hb16, hb18, hb19, hb24, hb25, hb27, hb28]; (repeat refine .intro (by omega) ?_); refine hK2 _ _ ?_; clear hK2 K2; simp only [List.drop_succ_cons, List.drop_zero]; refine runOps_cut 8 (fun K2 hK2 => ?_); push_cast [hb16, hb18, hb19, hb24, hb25, hb27, hb28]; (repeat refine .intro (by omega) ?_); refine cp (c_inst_in hr17) ?_; push_cast [hb16, hb18, hb19, hb24, hb25, hb27, hb28]; (repeat refine .intro (by omega) ?_); refine hK2 _ _ ?_; clear hK2 K2; simp only [List.drop_succ_cons, List.drop_zero]; refine runOps_cut 8 (fun K2 hK2 => ?_); push_cast [hb16, hb18, hb19, hb24, hb25, hb27, hb28]; (repeat refine .intro (by omega) ?_); refine hK2 _ _ ?_; clear hK2 K2; simp only [List.drop_succ_cons, List.drop_zero]; refine runOps_cut 8 (fun K2 hK2 => ?_); push_cast [hb16, hb18, hb19, hb24, hb25, hb27, hb28]; (repeat refine .intro (by omega) ?_); refine hK2 _ _ ?_; clear hK2 K2; simp only [List.drop_succ_cons, List.drop_zero]; push_cast [hb16, hb18, hb19, hb24, hb25, hb27, hb28]; (repeat refine .intro (by omega) ?_); refine hK _ ?_; clear hK K; refine ar h hk14 ?_; exact sl (by push_cast [hb7, hb16, hb18, hb19, hb24, hb25, hb27, hb28])
           ·replace h := cond_no hb28 h; refine vlG [some 36, some 37, some 38, some 39, some 40, some 41, some 42, some 43, some 44, some 45, some 46, some 47, some 48, some 49, some 50, some 51, some 52, some 53, some 54, some 55, some 56, some 57, some 58, some 59, some 60, some 61, some 62, some 63, some 64, some 65, some 66, some 67, some 68, some 69, some 70, some 71, some 72, some 73, some 74, some 75, some 4] (fun K hK => ?_); refine runOps_cut 8 (fun K2 hK2 => ?_); push_cast [hb16, hb18, hb19, hb24, hb25, hb27, hb28]; (repeat refine .intro (by omega) ?_); refine cp (c_inst_in hr15) ?_; push_cast [hb16, hb18, hb19, hb24, hb25, hb27, hb28]; (repeat refine .intro (by omega) ?_); refine hK2 _ _ ?_; clear hK2 K2; simp only [List.drop_succ_cons, List.drop_zero]; refine runOps_cut 8 (fun K2 hK2 => ?_); push_cast [hb16, hb18, hb19, hb24, hb25, hb27, hb28]; (repeat refine .intro (by omega) ?_); refine cp (c_inst_in hr17) ?_; push_cast [hb16, hb18, hb19, hb24, hb25, hb27, hb28]; (repeat refine .intro (by omega) ?_); refine hK2 _ _ ?_; clear hK2 K2; simp only [List.drop_succ_cons, List.drop_zero]; refine runOps_cut 8 (fun K2 hK2 => ?_); push_cast [hb16, hb18, hb19, hb24, hb25, hb27, hb28]; (repeat refine .intro (by omega) ?_); refine hK2 _ _ ?_; clear hK2 K2; simp only [List.drop_succ_cons, List.drop_zero]; refine runOps_cut 8 (fun K2 hK2 => ?_); push_cast [hb16, hb18, hb19, hb24, hb25, hb27, hb28]; (repeat refine .intro (by omega) ?_); refine hK2 _ _ ?_; clear hK2 K2; simp only [List.drop_succ_cons, List.drop_zero]; push_cast [hb16, hb18, hb19, hb24, hb25, hb27, hb28]; (repeat refine .intro (by omega) ?_); refine hK _ ?_; clear hK K; refine ar h hk14 ?_; exact sl (by push_cast [hb7, hb16, hb18, hb19, hb24, hb25, hb27, hb28])
        ·replace h := cond_no hb24 h; refine vlG [some 36, some 37, some 38, some 39, some 40, some 41, some 42, some 43, some 44, some 45, some 46, some 47, some 48, some 49, some 50, some 51, some 52, some 53, some 54, some 55, some 56, some 57, some 58, some 59, some 60, some 61, some 62, some 63, some 64, some 65, some 66, some 67, some 68, some 69, some 70, some 71, some 72, some 73, some 74, some 75, some 4] (fun K hK => ?_); refine runOps_cut 8 (fun K2 hK2 => ?_); push_cast [hb16, hb18, hb19, hb24]; (repeat refine .intro (by omega) ?_); refine cp (c_inst_in hr15) ?_; push_cast [hb16, hb18, hb19, hb24]; (repeat refine .intro (by omega) ?_); refine hK2 _ _ ?_; clear hK2 K2; simp only [List.drop_succ_cons, List.drop_zero]; refine runOps_cut 8 (fun K2 hK2 => ?_); push_cast [hb16, hb18, hb19, hb24]; (repeat refine .intro (by omega) ?_); refine cp (c_inst_in hr17) ?_; push_cast [hb16, hb18, hb19, hb24]; (repeat refine .intro (by omega) ?_); refine hK2 _ _ ?_; clear hK2 K2; simp only [List.drop_succ_cons, List.drop_zero]; refine runOps_cut 8 (fun K2 hK2 => ?_); push_cast [hb16, hb18, hb19, hb24]; (repeat refine .intro (by omega) ?_); refine hK2 _ _ ?_; clear hK2 K2; simp only [List.drop_succ_cons, List.drop_zero]; refine runOps_cut 8 (fun K2 hK2 => ?_); push_cast [hb16, hb18, hb19, hb24]; (repeat refine .intro (by omega) ?_); refine hK2 _ _ ?_; clear hK2 K2; simp only [List.drop_succ_cons, List.drop_zero]; push_cast [hb16, hb18, hb19, hb24]; (repeat refine .intro (by omega) ?_); refine hK _ ?_; clear hK K; refine ar h hk14 ?_; exact sl (by push_cast [hb7, hb16, hb18, hb19, hb24])
      ·replace h := cond_no hb18 h; refine vlG [some 36, some 37, some 38, some 39, some 40, some 41, some 42, some 43, some 44, some 45, some 46, some 47, some 48, some 49, some 50, some 51, some 52, some 53, some 54, some 55, some 56, some 57, some 58, some 59, some 60, some 61, some 62, some 63, some 64, some 65, some 66, some 67, some 68, some 69, some 70, some 71, some 72, some 73, some 74, some 75, some 4] (fun K hK => ?_); refine runOps_cut 8 (fun K2 hK2 => ?_); push_cast [hb16, hb18]; (repeat refine .intro (by omega) ?_); refine cp (c_inst_in hr15) ?_; push_cast [hb16, hb18]; (repeat refine .intro (by omega) ?_); refine hK2 _ _ ?_; clear hK2 K2; simp only [List.drop_succ_cons, List.drop_zero]; refine runOps_cut 8 (fun K2 hK2 => ?_); push_cast [hb16, hb18]; (repeat refine .intro (by omega) ?_); refine cp (c_inst_in hr17) ?_; push_cast [hb16, hb18]; (repeat refine .intro (by omega) ?_); refine hK2 _ _ ?_; clear hK2 K2; simp only [List.drop_succ_cons, List.drop_zero]; refine runOps_cut 8 (fun K2 hK2 => ?_); push_cast [hb16, hb18]; (repeat refine .intro (by omega) ?_); refine hK2 _ _ ?_; clear hK2 K2; simp only [List.drop_succ_cons, List.drop_zero]; refine runOps_cut 8 (fun K2 hK2 => ?_); push_cast [hb16, hb18]; (repeat refine .intro (by omega) ?_); refine hK2 _ _ ?_; clear hK2 K2; simp only [List.drop_succ_cons, List.drop_zero]; push_cast [hb16, hb18]; (repeat refine .intro (by omega) ?_); refine hK _ ?_; clear hK K; refine ar h hk14 ?_; exact sl (by push_cast [hb7, hb16, hb18])
     ·replace h := cond_no hb16 h; refine vlG [some 36, some 37, some 38, some 39, some 40, some 41, some 42, some 43, some 44, some 45, some 46, some 47, some 48, some 49, some 50, some 51, some 52, some 53, some 54, some 55, some 56, some 57, some 58, some 59, some 60, some 61, some 62, some 63, some 64, some 65, some 66, some 67, some 68, some 69, some 70, some 71, some 72, some 73, some 74, some 75, some 4] (fun K hK => ?_); refine runOps_cut 8 (fun K2 hK2 => ?_); push_cast [hb16]; (repeat refine .intro (by omega) ?_); refine cp (c_inst_in hr15) ?_; push_cast [hb16]; (repeat refine .intro (by omega) ?_); refine hK2 _ _ ?_; clear hK2 K2; simp only [List.drop_succ_cons, List.drop_zero]; refine runOps_cut 8 (fun K2 hK2 => ?_); push_cast [hb16]; (repeat refine .intro (by omega) ?_); refine hK2 _ _ ?_; clear hK2 K2; simp only [List.drop_succ_cons, List.drop_zero]; refine runOps_cut 8 (fun K2 hK2 => ?_); push_cast [hb16]; (repeat refine .intro (by omega) ?_); refine hK2 _ _ ?_; clear hK2 K2; simp only [List.drop_succ_cons, List.drop_zero]; refine runOps_cut 8 (fun K2 hK2 => ?_); push_cast [hb16]; (repeat refine .intro (by omega) ?_); refine hK2 _ _ ?_; clear hK2 K2; simp only [List.drop_succ_cons, List.drop_zero]; push_cast [hb16]; (repeat refine .intro (by omega) ?_); refine hK _ ?_; clear hK K; refine ar h hk14 ?_; exact sl (by push_cast [hb7, hb16])
    ·rintro i_4 (h : p_inst_May_J14 a0 i_4 = some r); (try push_cast); unfold p_inst_May_J14 at h; refine VC.seq ?_; refine vs [1, 4, 77] (fun K hK => ?_); push_cast; refine hK _ ?_; clear hK K; refine vc h (fun hb29 h => ?_) (fun hb29 h => ?_)
     ·refine vj h (fun x => ⟨[(2, rb x)], [], 88, 90, 0⟩) (fun v30 h hk30 => ?_) ?_
      ·rcases Bool.eq_false_or_eq_true i_4 with hb31 | hb31
       ·replace h := cond_yes hb31 h; refine vlG [some 78, some 79, some 80, some 81, some 82, some 83, some 2] (fun K hK => ?_); push_cast [hb31]; (repeat refine .intro (by omega) ?_); refine hK _ ?_; clear hK K; refine ar h hk30 ?_; exact sl (by push_cast [hb7, hb29, hb31])
       ·replace h := cond_no hb31 h; refine vlG [some 78, some 79, some 80, some 81, some 82, some 83, some 2] (fun K hK => ?_); push_cast [hb31]; (repeat refine .intro (by omega) ?_); refine hK _ ?_; clear hK K; refine ar h hk30 ?_; exact sl (by push_cast [hb7, hb29, hb31])
      ·rintro i_5 (h : p_inst_May_J30 i_5 = some r); (try push_cast); unfold p_inst_May_J30 at h; refine VC.ret ?_; replace h := Option.some.inj h; subst h; exact en (by push_cast [hb7, hb29])
     ·refine VC.skip ?_; refine vj h (fun x => ⟨[(2, rb x)], [], 88, 90, 0⟩) (fun v32 h hk32 => ?_) ?_
      ·rcases Bool.eq_false_or_eq_true i_4 with hb33 | hb33
       ·replace h := cond_yes hb33 h; refine vlG [some 84, some 85, some 86, some 87, some 88, some 89, some 2] (fun K hK => ?_); push_cast [hb33]; (repeat refine .intro (by omega) ?_); refine hK _ ?_; clear hK K; refine ar h hk32 ?_; exact sl (by push_cast [hb7, hb29, hb33])
       ·replace h := cond_no hb33 h; refine vlG [some 84, some 85, some 86, some 87, some 88, some 89, some 2] (fun K hK => ?_); push_cast [hb33]; (repeat refine .intro (by omega) ?_); refine hK _ ?_; clear hK K; refine ar h hk32 ?_; exact sl (by push_cast [hb7, hb29, hb33])
      ·rintro i_6 (h : p_inst_May_J32 i_6 = some r); (try push_cast); unfold p_inst_May_J32 at h; refine VC.ret ?_; replace h := Option.some.inj h; subst h; exact en (by push_cast [hb7, hb29])
noncomputable def p_course_may_1 (a0 : T_Inst) : Option (Bool) :=
  po (p_inst_May a0) fun r1 =>
  some (!r1)
theorem c_course_may_1 {a0 : T_Inst} {r : Bool} (h : p_course_may_1 a0 = some r) : Ctr prog 221 [.agg (enc_Inst a0)] [] (rb r) [] := by
 unfold p_course_may_1 at h; refine Ctr.ofW tabOk func221 rfl call221 0 _ ntmps221 [.tmp 2] rfl rfl rfl (fun B => ?_); refine vs [1] (fun K hK => ?_); push_cast; refine hK _ ?_; clear hK K; obtain ⟨r1, hr1, h⟩ := po_some h; refine vs [2] (fun K hK => ?_); push_cast; refine cp (c_inst_May hr1) ?_; push_cast; refine hK _ ?_; clear hK K; refine VC.ret ?_; replace h := Option.some.inj h; subst h; exact en (by push_cast)
noncomputable def p_prog_fine_1 (a0 : T_Inst) : Option (Bool) :=
  po (p_inst_May a0) fun r1 =>
  some (!r1)
theorem c_prog_fine_1 {a0 : T_Inst} {r : Bool} (h : p_prog_fine_1 a0 = some r) : Ctr prog 146 [.agg (enc_Inst a0)] [] (rb r) [] := by
 unfold p_prog_fine_1 at h; refine Ctr.ofW tabOk func146 rfl call146 0 _ ntmps146 [.tmp 2] rfl rfl rfl (fun B => ?_); refine vs [1] (fun K hK => ?_); push_cast; refine hK _ ?_; clear hK K; obtain ⟨r1, hr1, h⟩ := po_some h; refine vs [2] (fun K hK => ?_); push_cast; refine cp (c_inst_May hr1) ?_; push_cast; refine hK _ ?_; clear hK K; refine VC.ret ?_; replace h := Option.some.inj h; subst h; exact en (by push_cast)
noncomputable def p_slices_IndexFunc_api_Inst_api_Inst_prog_fine_1_L2 (a0 : (List T_Inst)) (i_1 : Int) : Option ((Int) ⊕ ((Unit) ⊕ (Int))) :=
  cond (decide (i_1 < (a0.length : Int))) (
  po (idx a0 i_1) fun x4 =>
  po (p_prog_fine_1 x4) fun r5 =>
  cond r5 (
  some (Sum.inr (Sum.inr i_1))) (
  some (Sum.inl (IntKind.i64.wrap (i_1 + 1))))) (
  some (Sum.inr (Sum.inl ())))
noncomputable def p_slices_IndexFunc_api_Inst_api_Inst_prog_fine_1_J1 : Option (Int) :=
  some (-1)
noncomputable def p_slices_IndexFunc_api_Inst_api_Inst_prog_fine_1 (a0 : (List T_Inst)) : Option (Int) :=
  pm (
  lpU (fun x => p_slices_IndexFunc_api_Inst_api_Inst_prog_fine_1_L2 a0 x) 0) (fun x => p_slices_IndexFunc_api_Inst_api_Inst_prog_fine_1_J1)
theorem c_slices_IndexFunc_api_Inst_api_Inst_prog_fine_1 {a0 : (List T_Inst)} {r : Int} (h : p_slices_IndexFunc_api_Inst_api_Inst_prog_fine_1 a0 = some r) : Ctr prog 192 [.sl false (a0.map enc_Inst), .fn (.func 146) [] []] [] (ri r) [] := by
 unfold p_slices_IndexFunc_api_Inst_api_Inst_prog_fine_1 at h; refine Ctr.ofW tabOk func192 rfl call192 0 _ ntmps192 [.tmp 4] rfl rfl rfl (fun B => ?_); refine vs [0, 1] (fun K hK => ?_); push_cast; refine hK _ ?_; clear hK K; refine vm h (fun x => ⟨[], [], 16, 19, 0⟩) (fun v1 h hk1 => ?_) ?_
 ·refine vs [0, 1, 7, 8] (fun K hK => ?_); push_cast; refine hK _ ?_; clear hK K; refine VC.block ?_; refine VC.loopP h (fun x => ⟨[(0, .sl false (a0.map enc_Inst)), (1, .fn (.func 146) [] []), (7, ri (a0.length : Int)), (8, ri x)], [], 15, 19, 0⟩) ?_ ?_
  ·exact sl (by push_cast)
  rintro i_1 b2 (h : p_slices_IndexFunc_api_Inst_api_Inst_prog_fine_1_L2 a0 i_1 = some b2) hf2; (try push_cast); unfold p_slices_IndexFunc_api_Inst_api_Inst_prog_fine_1_L2 at h; refine vs [0, 1, 7, 8, 9] (fun K hK => ?_); push_cast; refine hK _ ?_; clear hK K; refine VC.seq ?_; refine vc h (fun hb3 h => ?_) (fun hb3 h => ?_)
  ·refine VC.skip ?_; refine VC.seq ?_; refine VC.block ?_; refine vs [0, 1, 5, 7, 8] (fun K hK => ?_); push_cast; refine hK _ ?_; clear hK K; obtain ⟨x4, hx4, h⟩ := po_some h; replace hx4 := idx_some4 hx4; obtain ⟨r5, hr5, h⟩ := po_some h; refine vs [0, 1, 5, 7, 8, 16] (fun K hK => ?_); push_cast [hx4]; (repeat refine .intro (by omega) ?_); refine cp (c_prog_fine_1 hr5) ?_; push_cast [hx4]; (repeat refine .intro (by omega) ?_); refine hK _ ?_; clear hK K; refine vc h (fun hb6 h => ?_) (fun hb6 h => ?_)
   ·refine vs [4] (fun K hK => ?_); push_cast; refine hK _ ?_; clear hK K; refine VC.ret ?_; replace h := ol h hf2; replace h := om h hk1; replace h := Option.some.inj h; subst h; exact en (by push_cast [hb3, hb6])
   ·refine VC.skip ?_; refine vl (fun K hK => ?_); push_cast; refine hK _ ?_; clear hK K; refine bk h ?_; exact sl (by push_cast [hb3, hb6])
  ·refine VC.exit ?_; replace h := ol h hf2; refine am h hk1 ?_; exact sl (by push_cast [hb3])
 ·rintro ⟨⟩ (h : p_slices_IndexFunc_api_Inst_api_Inst_prog_fine_1_J1 = some r); (try push_cast); unfold p_slices_IndexFunc_api_Inst_api_Inst_prog_fine_1_J1 at h; refine vs [4] (fun K hK => ?_); push_cast; refine hK _ ?_; clear hK K; refine VC.ret ?_; replace h := Option.some.inj h; subst h; exact en (by push_cast)
noncomputable def p_slices_ContainsFunc_api_Inst_api_Inst_prog_fine_1 (a0 : (List T_Inst)) : Option (Bool) :=
  po (p_slices_IndexFunc_api_Inst_api_Inst_prog_fine_1 a0) fun r1 =>
  some (decide (r1 ≥ 0))
theorem c_slices_ContainsFunc_api_Inst_api_Inst_prog_fine_1 {a0 : (List T_Inst)} {r : Bool} (h : p_slices_ContainsFunc_api_Inst_api_Inst_prog_fine_1 a0 = some r) : Ctr prog 147 [.sl false (a0.map enc_Inst), .fn (.func 146) [] []] [] (rb r) [] := by
 unfold p_slices_ContainsFunc_api_Inst_api_Inst_prog_fine_1 at h; refine Ctr.ofW tabOk func147 rfl call147 0 _ ntmps147 [.tmp 4] rfl rfl rfl (fun B => ?_); refine vs [0, 1] (fun K hK => ?_); push_cast; refine hK _ ?_; clear hK K; obtain ⟨r1, hr1, h⟩ := po_some h; refine vs [4] (fun K hK => ?_); push_cast; refine cp (c_slices_IndexFunc_api_Inst_api_Inst_prog_fine_1 hr1) ?_; push_cast; refine hK _ ?_; clear hK K; refine VC.ret ?_; replace h := Option.some.inj h; subst h; exact en (by push_cast)
noncomputable def p_slices_IndexFunc_api_Inst_api_Inst_course_may_1_L2 (a0 : (List T_Inst)) (i_1 : Int) : Option ((Int) ⊕ ((Unit) ⊕ (Int))) :=
  cond (decide (i_1 < (a0.length : Int))) (
  po (idx a0 i_1) fun x4 =>
  po (p_course_may_1 x4) fun r5 =>
  cond r5 (
  some (Sum.inr (Sum.inr i_1))) (
  some (Sum.inl (IntKind.i64.wrap (i_1 + 1))))) (
  some (Sum.inr (Sum.inl ())))
noncomputable def p_slices_IndexFunc_api_Inst_api_Inst_course_may_1_J1 : Option (Int) :=
  some (-1)
noncomputable def p_slices_IndexFunc_api_Inst_api_Inst_course_may_1 (a0 : (List T_Inst)) : Option (Int) :=
  pm (
  lpU (fun x => p_slices_IndexFunc_api_Inst_api_Inst_course_may_1_L2 a0 x) 0) (fun x => p_slices_IndexFunc_api_Inst_api_Inst_course_may_1_J1)
theorem c_slices_IndexFunc_api_Inst_api_Inst_course_may_1 {a0 : (List T_Inst)} {r : Int} (h : p_slices_IndexFunc_api_Inst_api_Inst_course_may_1 a0 = some r) : Ctr prog 192 [.sl false (a0.map enc_Inst), .fn (.func 221) [] []] [] (ri r) [] := by
 unfold p_slices_IndexFunc_api_Inst_api_Inst_course_may_1 at h; refine Ctr.ofW tabOk func192 rfl call192 0 _ ntmps192 [.tmp 4] rfl rfl rfl (fun B => ?_); refine vs [0, 1] (fun K hK => ?_); push_cast; refine hK _ ?_; clear hK K; refine vm h (fun x => ⟨[], [], 16, 19, 0⟩) (fun v1 h hk1 => ?_) ?_
 ·refine vs [0, 1, 7, 8] (fun K hK => ?_); push_cast; refine hK _ ?_; clear hK K; refine VC.block ?_; refine VC.loopP h (fun x => ⟨[(0, .sl false (a0.map enc_Inst)), (1, .fn (.func 221) [] []), (7, ri (a0.length : Int)), (8, ri x)], [], 15, 19, 0⟩) ?_ ?_
  ·exact sl (by push_cast)
  rintro i_1 b2 (h : p_slices_IndexFunc_api_Inst_api_Inst_course_may_1_L2 a0 i_1 = some b2) hf2; (try push_cast); unfold p_slices_IndexFunc_api_Inst_api_Inst_course_may_1_L2 at h; refine vs [0, 1, 7, 8, 9] (fun K hK => ?_); push_cast; refine hK _ ?_; clear hK K; refine VC.seq ?_; refine vc h (fun hb3 h => ?_) (fun hb3 h => ?_)
  ·refine VC.skip ?_; refine VC.seq ?_; refine VC.block ?_; refine vs [0, 1, 5, 7, 8] (fun K hK => ?_); push_cast; refine hK _ ?_; clear hK K; obtain ⟨x4, hx4, h⟩ := po_some h; replace hx4 := idx_some4 hx4; obtain ⟨r5, hr5, h⟩ := po_some h; refine vs [0, 1, 5, 7, 8, 16] (fun K hK => ?_); push_cast [hx4]; (repeat refine .intro (by omega) ?_); refine cp (c_course_may_1 hr5) ?_; push_cast [hx4]; (repeat refine .intro (by omega) ?_); refine hK _ ?_; clear hK K; refine vc h (fun hb6 h => ?_) (fun hb6 h => ?_)
   ·refine vs [4] (fun K hK => ?_); push_cast; refine hK _ ?_; clear hK K; refine VC.ret ?_; replace h := ol h hf2; replace h := om h hk1; replace h := Option.some.inj h; subst h; exact en (by push_cast [hb3, hb6])
   ·refine VC.skip ?_; refine vl (fun K hK => ?_); push_cast; refine hK _ ?_; clear hK K; refine bk h ?_; exact sl (by push_cast [hb3, hb6])
  ·refine VC.exit ?_; replace h := ol h hf2; refine am h hk1 ?_; exact sl (by push_cast [hb3])
 ·rintro ⟨⟩ (h : p_slices_IndexFunc_api_Inst_api_Inst_course_may_1_J1 = some r); (try push_cast); unfold p_slices_IndexFunc_api_Inst_api_Inst_course_may_1_J1 at h; refine vs [4] (fun K hK => ?_); push_cast; refine hK _ ?_; clear hK K; refine VC.ret ?_; replace h := Option.some.inj h; subst h; exact en (by push_cast)
noncomputable def p_slices_ContainsFunc_api_Inst_api_Inst_course_may_1 (a0 : (List T_Inst)) : Option (Bool) :=
  po (p_slices_IndexFunc_api_Inst_api_Inst_course_may_1 a0) fun r1 =>
  some (decide (r1 ≥ 0))
theorem c_slices_ContainsFunc_api_Inst_api_Inst_course_may_1 {a0 : (List T_Inst)} {r : Bool} (h : p_slices_ContainsFunc_api_Inst_api_Inst_course_may_1 a0 = some r) : Ctr prog 147 [.sl false (a0.map enc_Inst), .fn (.func 221) [] []] [] (rb r) [] := by
 unfold p_slices_ContainsFunc_api_Inst_api_Inst_course_may_1 at h; refine Ctr.ofW tabOk func147 rfl call147 0 _ ntmps147 [.tmp 4] rfl rfl rfl (fun B => ?_); refine vs [0, 1] (fun K hK => ?_); push_cast; refine hK _ ?_; clear hK K; obtain ⟨r1, hr1, h⟩ := po_some h; refine vs [4] (fun K hK => ?_); push_cast; refine cp (c_slices_IndexFunc_api_Inst_api_Inst_course_may_1 hr1) ?_; push_cast; refine hK _ ?_; clear hK K; refine VC.ret ?_; replace h := Option.some.inj h; subst h; exact en (by push_cast)
noncomputable def p_course_may_J1 (i_1 : Bool) : Option (Bool) :=
  some i_1
noncomputable def p_course_may (a0 : (List T_Inst)) : Option (Bool) :=
  po (
  cond (decide ((a0.length : Int) > 0)) (
  cond (decide ((a0.length : Int) ≤ 64)) (
  po (p_slices_ContainsFunc_api_Inst_api_Inst_course_may_1 a0) fun r4 =>
  some (!r4)) (
  some false)) (
  some false)) (fun x => p_course_may_J1 x)
theorem c_course_may {a0 : (List T_Inst)} {r : Bool} (h : p_course_may a0 = some r) : Ctr prog 184 [.sl false (a0.map enc_Inst)] [] (rb r) [] := by
 unfold p_course_may at h; refine Ctr.ofW tabOk func184 rfl call184 0 _ ntmps184 [.tmp 2] rfl rfl rfl (fun B => ?_); refine vs [0] (fun K hK => ?_); push_cast; refine hK _ ?_; clear hK K; refine vj h (fun x => ⟨[(2, rb x)], [], 15, 16, 0⟩) (fun v1 h hk1 => ?_) ?_
 ·rcases Bool.eq_false_or_eq_true (decide ((a0.length : Int) > 0)) with hb2 | hb2
  ·replace h := cond_yes hb2 h; rcases Bool.eq_false_or_eq_true (decide ((a0.length : Int) ≤ 64)) with hb3 | hb3
   ·replace h := cond_yes hb3 h; obtain ⟨r4, hr4, h⟩ := po_some h; refine vlG [some 3, some 4, some 5, some 6, some 7, some 8, some 9, some 10, some 11, some 12, some 13, some 14, some 15, some 2] (fun K hK => ?_); refine runOps_cut 8 (fun K2 hK2 => ?_); push_cast [hb2, hb3]; (repeat refine .intro (by omega) ?_); refine hK2 _ _ ?_; clear hK2 K2; simp only [List.drop_succ_cons, List.drop_zero]; push_cast [hb2, hb3]; (repeat refine .intro (by omega) ?_); refine cp (c_slices_ContainsFunc_api_Inst_api_Inst_course_may_1 hr4) ?_; push_cast [hb2, hb3]; (repeat refine .intro (by omega) ?_); refine hK _ ?_; clear hK K; refine ar h hk1 ?_; exact sl (by push_cast [hb2, hb3])
   ·replace h := cond_no hb3 h; refine vlG [some 3, some 4, some 5, some 6, some 7, some 8, some 9, some 10, some 11, some 12, some 13, some 14, some 15, some 2] (fun K hK => ?_); refine runOps_cut 8 (fun K2 hK2 => ?_); push_cast [hb2, hb3]; (repeat refine .intro (by omega) ?_); refine hK2 _ _ ?_; clear hK2 K2; simp only [List.drop_succ_cons, List.drop_zero]; push_cast [hb2, hb3]; (repeat refine .intro (by omega) ?_); refine hK _ ?_; clear hK K; refine ar h hk1 ?_; exact sl (by push_cast [hb2, hb3])
  ·replace h := cond_no hb2 h; refine vlG [some 3, some 4, some 5, some 6, some 7, some 8, some 9, some 10, some 11, some 12, some 13, some 14, some 15, some 2] (fun K hK => ?_); refine runOps_cut 8 (fun K2 hK2 => ?_); push_cast [hb2]; (repeat refine .intro (by omega) ?_); refine hK2 _ _ ?_; clear hK2 K2; simp only [List.drop_succ_cons, List.drop_zero]; push_cast [hb2]; (repeat refine .intro (by omega) ?_); refine hK _ ?_; clear hK K; refine ar h hk1 ?_; exact sl (by push_cast [hb2])
 ·rintro i_1 (h : p_course_may_J1 i_1 = some r); (try push_cast); unfold p_course_may_J1 at h; refine VC.ret ?_; replace h := Option.some.inj h; subst h; exact en (by push_cast)
noncomputable def p_course_next_J6 (a1 : Int) (x1 : T_Inst) (i_2 : Bool) : Option ((List Int)) :=
  cond i_2 (
  some ([(IntKind.i64.wrap (a1 + 1)), (IntKind.i64.wrap ((IntKind.i64.wrap (a1 + x1.Off)) + 1))])) (
  some ([(IntKind.i64.wrap (a1 + 1))]))
noncomputable def p_course_next_J3 (a1 : Int) (x1 : T_Inst) (i_1 : Bool) : Option ((List Int)) :=
  cond i_1 (
  some ([(IntKind.i64.wrap ((IntKind.i64.wrap (a1 + x1.Off)) + 1))])) (
  po (
  cond (x1.Op == 1) (
  some (decide (x1.Off > 0))) (
  some false)) (fun x => p_course_next_J6 a1 x1 x))
noncomputable def p_course_next (a0 : (List T_Inst)) (a1 : Int) : Option ((List Int)) :=
  po (idx a0 a1) fun x1 =>
  cond (x1.Op == 7) (
  some []) (
  po (
  cond (x1.Op == 1) (
  some (x1.Fn == 0)) (
  some false)) (fun x => p_course_next_J3 a1 x1 x))
theorem c_course_next {a0 : (List T_Inst)} {a1 : Int} {r : (List Int)} (h : p_course_next a0 a1 = some r) : Ctr prog 185 [.sl false (a0.map enc_Inst), ri a1] [] (.row 0 0 1 0 r.length) [(0, .row 3 1 0 (r.map encI64))] := by
 unfold p_course_next at h; refine Ctr.ofW tabOk func185 rfl call185 0 _ ntmps185 [.tmp 4] rfl rfl rfl (fun B => ?_); refine vs [0, 1] (fun K hK => ?_); push_cast; refine hK _ ?_; clear hK K; obtain ⟨x1, hx1, h⟩ := po_some h; replace hx1 := idx_some4 hx1; refine vs [1, 5] (fun K hK => ?_); push_cast [hx1]; (repeat refine .intro (by omega) ?_); refine hK _ ?_; clear hK K; refine VC.seq ?_; refine VC.block ?_; refine vs [1, 5, 10] (fun K hK => ?_); push_cast; refine hK _ ?_; clear hK K; refine vc h (fun hb2 h => ?_) (fun hb2 h => ?_)
 ·refine vs [4] (fun K hK => ?_); push_cast; refine hK _ ?_; clear hK K; refine VC.ret ?_; replace h := Option.some.inj h; subst h; refine endS (so (s' := ⟨[(4, .sl true [])], [], 12, 49, 0⟩) (by push_cast [hb2])) ?_; refine endS (Sub.adoptT (k := 4) (e := 3) (sz := 1) rfl) ?_; refine endS (Sub.renT (k := 4) (i' := 0) rfl rfl (Nat.le_of_ble_eq_true rfl) (Nat.le_of_ble_eq_true rfl) rfl) ?_; exact en (by push_cast [hb2])
 ·refine vj h (fun x => ⟨[(1, ri a1), (5, .ref 5 0), (14, rb x)], [(5, .box 37 (enc_Inst x1))], 20, 49, 0⟩) (fun v3 h hk3 => ?_) ?_
  ·rcases Bool.eq_false_or_eq_true (x1.Op == 1) with hb4 | hb4
   ·replace h := cond_yes hb4 h; refine vlG [some 15, some 16, some 17, some 18, some 19, some 20, some 21, some 22, some 14] (fun K hK => ?_); push_cast [hb4]; (repeat refine .intro (by omega) ?_); refine hK _ ?_; clear hK K; refine ar h hk3 ?_; exact sl (by push_cast [hb2, hb4])
   ·replace h := cond_no hb4 h; refine vlG [some 15, some 16, some 17, some 18, some 19, some 20, some 21, some 22, some 14] (fun K hK => ?_); push_cast [hb4]; (repeat refine .intro (by omega) ?_); refine hK _ ?_; clear hK K; refine ar h hk3 ?_; exact sl (by push_cast [hb2, hb4])
  ·rintro i_1 (h : p_course_next_J3 a1 x1 i_1 = some r); (try push_cast); unfold p_course_next_J3 at h; refine vc h (fun hb5 h => ?_) (fun hb5 h => ?_)
   ·refine vs [4] (fun K hK => ?_); push_cast; refine hK _ ?_; clear hK K; refine VC.sub (s' := ⟨[(4, .row 25 0 1 0 1)], [(25, .row 3 1 0 (([(IntKind.i64.wrap ((IntKind.i64.wrap (a1 + x1.Off)) + 1))]).map encI64))], 27, 49, 0⟩) (so (by push_cast [hb2, hb5])) ?_; refine VC.ret ?_; replace h := Option.some.inj h; subst h; refine endS (so (s' := ⟨[(4, .row 25 0 1 0 1)], [(25, .row 3 1 0 (([(IntKind.i64.wrap ((IntKind.i64.wrap (a1 + x1.Off)) + 1))]).map encI64))], 27, 49, 0⟩) (by push_cast [hb2, hb5])) ?_; refine endS (Sub.renT (k := 4) (i' := 0) rfl rfl (Nat.le_of_ble_eq_true rfl) (Nat.le_of_ble_eq_true rfl) rfl) ?_; exact en (by push_cast [hb2, hb5])
   ·refine vj h (fun x => ⟨[(1, ri a1), (5, .ref 5 0), (29, rb x)], [(5, .box 37 (enc_Inst x1))], 29, 49, 0⟩) (fun v6 h hk6 => ?_) ?_
    ·rcases Bool.eq_false_or_eq_true (x1.Op == 1) with hb7 | hb7
     ·replace h := cond_yes hb7 h; refine vlG [some 30, some 31, some 32, some 33, some 34, some 35, some 36, some 37, some 29] (fun K hK => ?_); push_cast [hb7]; (repeat refine .intro (by omega) ?_); refine hK _ ?_; clear hK K; refine ar h hk6 ?_; exact sl (by push_cast [hb2, hb5, hb7])
     ·replace h := cond_no hb7 h; refine vlG [some 30, some 31, some 32, some 33, some 34, some 35, some 36, some 37, some 29] (fun K hK => ?_); push_cast [hb7]; (repeat refine .intro (by omega) ?_); refine hK _ ?_; clear hK K; refine ar h hk6 ?_; exact sl (by push_cast [hb2, hb5, hb7])
    ·rintro i_2 (h : p_course_next_J6 a1 x1 i_2 = some r); (try push_cast); unfold p_course_next_J6 at h; refine vc h (fun hb8 h => ?_) (fun hb8 h => ?_)
     ·refine vs [4] (fun K hK => ?_); push_cast; refine hK _ ?_; clear hK K; refine VC.sub (s' := ⟨[(4, .row 36 0 1 0 2)], [(36, .row 3 1 0 (([(IntKind.i64.wrap (a1 + 1)), (IntKind.i64.wrap ((IntKind.i64.wrap (a1 + x1.Off)) + 1))]).map encI64))], 38, 49, 0⟩) (so (by push_cast [hb2, hb5, hb8])) ?_; refine VC.ret ?_; replace h := Option.some.inj h; subst h; refine endS (so (s' := ⟨[(4, .row 36 0 1 0 2)], [(36, .row 3 1 0 (([(IntKind.i64.wrap (a1 + 1)), (IntKind.i64.wrap ((IntKind.i64.wrap (a1 + x1.Off)) + 1))]).map encI64))], 38, 49, 0⟩) (by push_cast [hb2, hb5, hb8])) ?_; refine endS (Sub.renT (k := 4) (i' := 0) rfl rfl (Nat.le_of_ble_eq_true rfl) (Nat.le_of_ble_eq_true rfl) rfl) ?_; exact en (by push_cast [hb2, hb5, hb8])
     ·refine VC.skip ?_; refine vs [4] (fun K hK => ?_); push_cast; refine hK _ ?_; clear hK K; refine VC.sub (s' := ⟨[(4, .row 31 0 1 0 1)], [(31, .row 3 1 0 (([(IntKind.i64.wrap (a1 + 1))]).map encI64))], 33, 49, 0⟩) (so (by push_cast [hb2, hb5, hb8])) ?_; refine VC.ret ?_; replace h := Option.some.inj h; subst h; refine endS (so (s' := ⟨[(4, .row 31 0 1 0 1)], [(31, .row 3 1 0 (([(IntKind.i64.wrap (a1 + 1))]).map encI64))], 33, 49, 0⟩) (by push_cast [hb2, hb5, hb8])) ?_; refine endS (Sub.renT (k := 4) (i' := 0) rfl rfl (Nat.le_of_ble_eq_true rfl) (Nat.le_of_ble_eq_true rfl) rfl) ?_; exact en (by push_cast [hb2, hb5, hb8])
noncomputable def p_course_Longest_J8 (i_61 : Int) (i_62 : Int) (l_63 : (List Int)) : Option ((Int × (List Int) × Int) ⊕ (Int)) :=
  some (Sum.inl (i_62, l_63, (IntKind.i64.wrap (i_61 + 1))))
noncomputable def p_course_Longest_L6 (a0 : (List T_Inst)) (w_27 : (AN 65)) (r5 : (List Int)) (i_59 : Int) (l_60 : (List Int)) (i_61 : Int) : Option ((Int × (List Int) × Int) ⊕ (Int)) :=
  cond (decide (i_61 < (r5.length : Int))) (
  po (
  po (idx l_60 i_61) fun x9 =>
  cond (decide (x9 < (a0.length : Int))) (
  pg (0 ≤ x9 ∧ x9 < 65) <|
  some ((maxI i_59 (w_27.get x9.toNat)), l_60)) (
  some (i_59, l_60))) (fun x => p_course_Longest_J8 i_61 x.1 x.2)) (
  some (Sum.inr i_59))
noncomputable def p_course_Longest_J18 (x17 : Int) (i_68 : Bool) : Option (Int) :=
  cond i_68 (
  some (IntKind.i64.wrap (1 + x17))) (
  some 1)
noncomputable def p_course_Longest_J14 (a1 : (List Int)) (x13 : T_Inst) (i_67 : Bool) : Option (Int) :=
  cond i_67 (
  po (a1[x13.Imm.toNat]?) fun x17 =>
  po (
  cond (decide (x17 ≥ 0)) (
  some (decide (x17 ≤ 1000000))) (
  some false)) (fun x => p_course_Longest_J18 x17 x)) (
  some 1)
noncomputable def p_course_Longest_J12 (w_27 : (AN 65)) (i_28 : Int) (i_39 : Int) (i_52 : Int) : Option (((AN 65) × Int) ⊕ (Int)) :=
  pg (0 ≤ i_28 ∧ i_28 < 65) <|
  pl (w_27.set i_28.toNat (minI (IntKind.i64.wrap (i_52 + i_39)) 1000000)) fun y22 =>
  cond (decide ((IntKind.i64.wrap (i_28 - 1)) ≥ 0)) (
  some (Sum.inl (y22, (IntKind.i64.wrap (i_28 - 1))))) (
  some (Sum.inr (y22.get 0)))
noncomputable def p_course_Longest_J4 (a0 : (List T_Inst)) (a1 : (List Int)) (w_27 : (AN 65)) (i_28 : Int) (i_39 : Int) : Option (((AN 65) × Int) ⊕ (Int)) :=
  po (
  po (idx a0 i_28) fun x13 =>
  po (
  cond (x13.Op == 6) (
  some (decide (x13.Imm.toNat < a1.length))) (
  some false)) (fun x => p_course_Longest_J14 a1 x13 x)) (fun x => p_course_Longest_J12 w_27 i_28 i_39 x)
noncomputable def p_course_Longest_L3 (a0 : (List T_Inst)) (a1 : (List Int)) (w_27 : (AN 65)) (i_28 : Int) : Option (((AN 65) × Int) ⊕ (Int)) :=
  po (
  po (p_course_next a0 i_28) fun r5 =>
  lpU (fun x => p_course_Longest_L6 a0 w_27 r5 x.1 x.2.1 x.2.2) (0, r5, 0)) (fun x => p_course_Longest_J4 a0 a1 w_27 i_28 x)
noncomputable def p_course_Longest (a0 : (List T_Inst)) (a1 : (List Int)) : Option (Int) :=
  po (p_course_may a0) fun r1 =>
  cond (!r1) (
  some 0) (
  lpU (fun x => p_course_Longest_L3 a0 a1 x.1 x.2) ((AN.zero 65), (IntKind.i64.wrap ((a0.length : Int) - 1))))
theorem c_course_Longest {a0 : (List T_Inst)} {a1 : (List Int)} {r : Int} (h : p_course_Longest a0 a1 = some r) : Ctr prog 132 [.sl false (a0.map enc_Inst), .sl false (a1.map encI64)] [] (ri r) [] := by
 unfold p_course_Longest at h; refine Ctr.ofN tabOk func132 rfl call132 0 _ ntmps132 [.tmp 4] rfl rfl rfl (fun B hB => ?_); refine vs [0, 1] (fun K hK => ?_); push_cast; refine hK _ ?_; clear hK K; refine VC.jumpsP hB (l := 0) (step := (fun x => p_course_Longest_L3 a0 a1 x.1 x.2)) rfl (fun x => ⟨[(0, .sl false (a0.map enc_Inst)), (1, .sl false (a1.map encI64)), (5, .ref 4 0), (6, ri x.2)], [(4, .box 267 (encAN x.1))], 78, 78, 0⟩) ?_; refine VC.seq ?_; obtain ⟨r1, hr1, h⟩ := po_some h; refine vs [0, 1, 15] (fun K hK => ?_); push_cast; refine cp (c_course_may hr1) ?_; push_cast; refine hK _ ?_; clear hK K; refine vc h (fun hb2 h => ?_) (fun hb2 h => ?_)
 ·refine vs [4] (fun K hK => ?_); push_cast; refine hK _ ?_; clear hK K; refine VC.ret ?_; replace h := Option.some.inj h; subst h; exact en (by push_cast [hb2])
 ·refine VC.skip ?_; refine vs [0, 1, 5] (fun K hK => ?_); push_cast; refine hK _ ?_; clear hK K; refine VC.sub (s' := ⟨[(0, .sl false (a0.map enc_Inst)), (1, .sl false (a1.map encI64)), (5, .ref 4 0)], [(4, .box 267 (encAN (AN.zero 65)))], 5, 78, 0⟩) (so (h4 := by first | exact rfl | simp [St.wf, AV.in3, AV.in2, AV.in1, AV.in0, AObj.inD, encAN_in, ri, ru, rb, enc_Inst]) (by push_cast [hb2, encAN, AN.zero, AN.un])) ?_; refine vs [0, 1, 5, 6] (fun K hK => ?_); push_cast; refine hK _ ?_; clear hK K; refine VC.labelP h (fun x => ⟨[(0, .sl false (a0.map enc_Inst)), (1, .sl false (a1.map encI64)), (5, .ref 4 0), (6, ri x.2)], [(4, .box 267 (encAN x.1))], 78, 78, 0⟩) ?_ ?_
  ·exact sl (h4 := by first | exact rfl | simp [St.wf, AV.in3, AV.in2, AV.in1, AV.in0, AObj.inD, encAN_in, ri, ru, rb, enc_Inst]) (by push_cast [hb2])
  rintro ⟨w_27, i_28⟩ b3 (h : p_course_Longest_L3 a0 a1 w_27 i_28 = some b3) hf3; (try push_cast); unfold p_course_Longest_L3 at h; refine vs [0, 1, 5, 6, 7] (fun K hK => ?_); push_cast; refine hK _ ?_; clear hK K; refine vj h (fun x => ⟨[(0, .sl false (a0.map enc_Inst)), (1, .sl false (a1.map encI64)), (5, .ref 4 0), (6, ri i_28), (7, ri x)], [(4, .box 267 (encAN w_27))], 101, 78, 0⟩) (fun v4 h hk4 => ?_) ?_
  ·obtain ⟨r5, hr5, h⟩ := po_some h; refine vs [0, 1, 5, 6, 7, 21, 22, 23] (fun K hK => ?_); push_cast; refine ch (H := []) (Ctr.loH (Ctr.ren (Bij.swp 0 81 Bij.id) (c_course_next hr5) (by push_cast) (by push_cast))) (by push_cast) ?_; push_cast; refine hK _ ?_; clear hK K; refine VC.sub (s' := ⟨[(0, .sl false (a0.map enc_Inst)), (1, .sl false (a1.map encI64)), (5, .ref 4 0), (6, ri i_28), (7, ri 0), (21, .row 81 0 1 0 r5.length), (22, ri (r5.length : Int)), (23, ri 0)], [(4, .box 267 (encAN w_27)), (81, .row 3 1 0 (r5.map encI64))], 84, 78, 0⟩) (so (h4 := by first | exact rfl | simp [St.wf, AV.in3, AV.in2, AV.in1, AV.in0, AObj.inD, encAN_in, ri, ru, rb, enc_Inst]) (by push_cast [hb2])) ?_; refine VC.block ?_; refine VC.loopP h (fun x => ⟨[(0, .sl false (a0.map enc_Inst)), (1, .sl false (a1.map encI64)), (5, .ref 4 0), (6, ri i_28), (7, ri x.1), (21, .row 81 0 1 0 x.2.1.length), (22, ri (r5.length : Int)), (23, ri x.2.2)], [(4, .box 267 (encAN w_27)), (81, .row 3 1 0 (x.2.1.map encI64))], 100, 78, 0⟩) ?_ ?_
   ·exact sl (h4 := by first | exact rfl | simp [St.wf, AV.in3, AV.in2, AV.in1, AV.in0, AObj.inD, encAN_in, ri, ru, rb, enc_Inst]) (by push_cast [hb2])
   rintro ⟨i_59, l_60, i_61⟩ b6 (h : p_course_Longest_L6 a0 w_27 r5 i_59 l_60 i_61 = some b6) hf6; (try push_cast); unfold p_course_Longest_L6 at h; refine vs [0, 1, 5, 6, 7, 21, 22, 23, 24] (fun K hK => ?_); push_cast; refine hK _ ?_; clear hK K; refine VC.seq ?_; refine vc h (fun hb7 h => ?_) (fun hb7 h => ?_)
   ·refine VC.skip ?_; refine vj h (fun x => ⟨[(0, .sl false (a0.map enc_Inst)), (1, .sl false (a1.map encI64)), (5, .ref 4 0), (6, ri i_28), (7, ri x.1), (21, .row 81 0 1 0 x.2.length), (22, ri (r5.length : Int)), (23, ri i_61)], [(4, .box 267 (encAN w_27)), (81, .row 3 1 0 (x.2.map encI64))], 114, 78, 0⟩) (fun v8 h hk8 => ?_) ?_
    ·refine VC.block ?_; obtain ⟨x9, hx9, h⟩ := po_some h; replace hx9 := idx_some4 hx9; refine vs [0, 1, 5, 6, 7, 9, 21, 22, 23] (fun K hK => ?_); push_cast [hx9]; (repeat refine .intro (by omega) ?_); refine hK _ ?_; clear hK K; refine vs [0, 1, 5, 6, 7, 9, 21, 22, 23, 30] (fun K hK => ?_); push_cast; refine hK _ ?_; clear hK K; refine vc h (fun hb10 h => ?_) (fun hb10 h => ?_)
     ·obtain ⟨hg11, h⟩ := pg_some h; have hg11n : x9.toNat < 65 := by omega
      refine vl (fun K hK => ?_); push_cast [hg11, hg11n]; (repeat refine .intro (by omega) ?_); refine hK _ ?_; clear hK K; refine ar h hk8 ?_; exact sl (h4 := by first | exact rfl | simp [St.wf, AV.in3, AV.in2, AV.in1, AV.in0, AObj.inD, encAN_in, ri, ru, rb, enc_Inst]) (by push_cast [hb2, hb7, hb10])
     ·refine VC.skip ?_; refine ar h hk8 ?_; exact sl (h4 := by first | exact rfl | simp [St.wf, AV.in3, AV.in2, AV.in1, AV.in0, AObj.inD, encAN_in, ri, ru, rb, enc_Inst]) (by push_cast [hb2, hb7, hb10])
    ·rintro ⟨i_62, l_63⟩ (h : p_course_Longest_J8 i_61 i_62 l_63 = some b6); (try push_cast); unfold p_course_Longest_J8 at h; refine vl (fun K hK => ?_); push_cast; refine hK _ ?_; clear hK K; refine bk h ?_; exact sl (h4 := by first | exact rfl | simp [St.wf, AV.in3, AV.in2, AV.in1, AV.in0, AObj.inD, encAN_in, ri, ru, rb, enc_Inst]) (by push_cast [hb2, hb7])
   ·refine VC.exit ?_; replace h := ol h hf6; refine ar h hk4 ?_; exact sl (h4 := by first | exact rfl | simp [St.wf, AV.in3, AV.in2, AV.in1, AV.in0, AObj.inD, encAN_in, ri, ru, rb, enc_Inst]) (by push_cast [hb2, hb7])
  ·rintro i_39 (h : p_course_Longest_J4 a0 a1 w_27 i_28 i_39 = some b3); (try push_cast); unfold p_course_Longest_J4 at h; refine vs [0, 1, 5, 6, 7, 10] (fun K hK => ?_); push_cast; refine hK _ ?_; clear hK K; refine vj h (fun x => ⟨[(0, .sl false (a0.map enc_Inst)), (1, .sl false (a1.map encI64)), (5, .ref 4 0), (6, ri i_28), (7, ri i_39), (10, ri x)], [(4, .box 267 (encAN w_27))], 135, 78, 0⟩) (fun v12 h hk12 => ?_) ?_
   ·obtain ⟨x13, hx13, h⟩ := po_some h; replace hx13 := idx_some4 hx13; refine vs [0, 1, 5, 6, 7, 10, 11] (fun K hK => ?_); push_cast [hx13]; (repeat refine .intro (by omega) ?_); refine hK _ ?_; clear hK K; refine vj h (fun x => ⟨[(0, .sl false (a0.map enc_Inst)), (1, .sl false (a1.map encI64)), (5, .ref 4 0), (6, ri i_28), (7, ri i_39), (10, ri 1), (11, .ref 106 0), (51, rb x)], [(4, .box 267 (encAN w_27)), (106, .box 37 (enc_Inst x13))], 119, 78, 0⟩) (fun v14 h hk14 => ?_) ?_
    ·rcases Bool.eq_false_or_eq_true (x13.Op == 6) with hb15 | hb15
     ·replace h := cond_yes hb15 h; refine vlG [some 41, some 42, some 43, some 44, some 45, some 46, some 47, some 48, some 49, some 50, some 51] (fun K hK => ?_); refine runOps_cut 8 (fun K2 hK2 => ?_); push_cast [hb15]; (repeat refine .intro (by omega) ?_); refine hK2 _ _ ?_; clear hK2 K2; simp only [List.drop_succ_cons, List.drop_zero]; push_cast [hb15]; (repeat refine .intro (by omega) ?_); refine hK _ ?_; clear hK K; refine ar h hk14 ?_; exact sl (h4 := by first | exact rfl | simp [St.wf, AV.in3, AV.in2, AV.in1, AV.in0, AObj.inD, encAN_in, ri, ru, rb, enc_Inst]) (by push_cast [hb2, hb15])
     ·replace h := cond_no hb15 h; refine vlG [some 41, some 42, some 43, some 44, some 45, some 46, some 47, some 48, some 49, some 50, some 51] (fun K hK => ?_); refine runOps_cut 8 (fun K2 hK2 => ?_); push_cast [hb15]; (repeat refine .intro (by omega) ?_); refine hK2 _ _ ?_; clear hK2 K2; simp only [List.drop_succ_cons, List.drop_zero]; push_cast [hb15]; (repeat refine .intro (by omega) ?_); refine hK _ ?_; clear hK K; refine ar h hk14 ?_; exact sl (h4 := by first | exact rfl | simp [St.wf, AV.in3, AV.in2, AV.in1, AV.in0, AObj.inD, encAN_in, ri, ru, rb, enc_Inst]) (by push_cast [hb2, hb15])
    ·rintro i_67 (h : p_course_Longest_J14 a1 x13 i_67 = some v12); (try push_cast); unfold p_course_Longest_J14 at h; refine vc h (fun hb16 h => ?_) (fun hb16 h => ?_)
     ·obtain ⟨x17, hx17, h⟩ := po_some h; replace hx17 := gL hx17; refine vs [0, 1, 5, 6, 7, 10, 12] (fun K hK => ?_); push_cast [hx17]; (repeat refine .intro (by omega) ?_); refine hK _ ?_; clear hK K; refine vj h (fun x => ⟨[(0, .sl false (a0.map enc_Inst)), (1, .sl false (a1.map encI64)), (5, .ref 4 0), (6, ri i_28), (7, ri i_39), (10, ri 1), (12, ri x17), (62, rb x)], [(4, .box 267 (encAN w_27))], 131, 78, 0⟩) (fun v18 h hk18 => ?_) ?_
      ·rcases Bool.eq_false_or_eq_true (decide (x17 ≥ 0)) with hb19 | hb19
       ·replace h := cond_yes hb19 h; refine vlG [some 57, some 58, some 59, some 60, some 61, some 62] (fun K hK => ?_); push_cast [hb19]; (repeat refine .intro (by omega) ?_); refine hK _ ?_; clear hK K; refine ar h hk18 ?_; exact sl (h4 := by first | exact rfl | simp [St.wf, AV.in3, AV.in2, AV.in1, AV.in0, AObj.inD, encAN_in, ri, ru, rb, enc_Inst]) (by push_cast [hb2, hb16, hb19])
       ·replace h := cond_no hb19 h; refine vlG [some 57, some 58, some 59, some 60, some 61, some 62] (fun K hK => ?_); push_cast [hb19]; (repeat refine .intro (by omega) ?_); refine hK _ ?_; clear hK K; refine ar h hk18 ?_; exact sl (h4 := by first | exact rfl | simp [St.wf, AV.in3, AV.in2, AV.in1, AV.in0, AObj.inD, encAN_in, ri, ru, rb, enc_Inst]) (by push_cast [hb2, hb16, hb19])
      ·rintro i_68 (h : p_course_Longest_J18 x17 i_68 = some v12); (try push_cast); unfold p_course_Longest_J18 at h; refine vc h (fun hb20 h => ?_) (fun hb20 h => ?_)
       ·refine vl (fun K hK => ?_); push_cast; refine hK _ ?_; clear hK K; refine ar h hk12 ?_; exact sl (h4 := by first | exact rfl | simp [St.wf, AV.in3, AV.in2, AV.in1, AV.in0, AObj.inD, encAN_in, ri, ru, rb, enc_Inst]) (by push_cast [hb2, hb16, hb20])
       ·refine VC.skip ?_; refine ar h hk12 ?_; exact sl (h4 := by first | exact rfl | simp [St.wf, AV.in3, AV.in2, AV.in1, AV.in0, AObj.inD, encAN_in, ri, ru, rb, enc_Inst]) (by push_cast [hb2, hb16, hb20])
     ·refine VC.skip ?_; refine ar h hk12 ?_; exact sl (h4 := by first | exact rfl | simp [St.wf, AV.in3, AV.in2, AV.in1, AV.in0, AObj.inD, encAN_in, ri, ru, rb, enc_Inst]) (by push_cast [hb2, hb16])
   ·rintro i_52 (h : p_course_Longest_J12 w_27 i_28 i_39 i_52 = some b3); (try push_cast); unfold p_course_Longest_J12 at h; obtain ⟨hg21, h⟩ := pg_some h; have hg21n : i_28.toNat < 65 := by omega
    obtain ⟨y22, hy22, h⟩ := pl_some h; refine vs [0, 1, 5, 6] (fun K hK => ?_); push_cast [hg21, hg21n]; (repeat refine .intro (by omega) ?_); refine hK _ ?_; clear hK K; refine VC.seq ?_; refine vs [0, 1, 5, 6] (fun K hK => ?_); push_cast; refine hK _ ?_; clear hK K; refine vs [0, 1, 5, 6, 75] (fun K hK => ?_); push_cast; refine hK _ ?_; clear hK K; refine vc h (fun hb23 h => ?_) (fun hb23 h => ?_)
    ·refine VC.goto ?_; refine ⟨rfl, bk h ?_⟩; exact sl (h4 := by first | exact rfl | simp [St.wf, AV.in3, AV.in2, AV.in1, AV.in0, AObj.inD, encAN_in, ri, ru, rb, enc_Inst]) (by push_cast [hb2, hy22, hb23])
    ·refine VC.skip ?_; refine vs [4] (fun K hK => ?_); push_cast; refine hK _ ?_; clear hK K; refine VC.ret ?_; replace h := ol h hf3; replace h := Option.some.inj h; subst h; exact en (by push_cast [hb2, hy22, hb23])
noncomputable def p_prog_fine_J1 (i_1 : Bool) : Option (Bool) :=
  some i_1
noncomputable def p_prog_fine (a0 : T_Fn) : Option (Bool) :=
  po (
  cond (decide (a0.Args ≥ 0)) (
  cond (decide (a0.Args ≤ 4)) (
  cond (decide ((a0.Code.length : Int) > 0)) (
  cond (decide ((a0.Code.length : Int) ≤ 64)) (
  po (p_slices_ContainsFunc_api_Inst_api_Inst_prog_fine_1 a0.Code) fun r6 =>
  some (!r6)) (
  some false)) (
  some false)) (
  some false)) (
  some false)) (fun x => p_prog_fine_J1 x)
theorem c_prog_fine {a0 : T_Fn} {r : Bool} (h : p_prog_fine a0 = some r) : Ctr prog 106 [.agg (enc_Fn a0)] [] (rb r) [] := by
 unfold p_prog_fine at h; refine Ctr.ofW tabOk func106 rfl call106 0 _ ntmps106 [.tmp 2] rfl rfl rfl (fun B => ?_); refine vs [1] (fun K hK => ?_); push_cast; refine hK _ ?_; clear hK K; refine vs [1, 3] (fun K hK => ?_); push_cast; refine hK _ ?_; clear hK K; refine vj h (fun x => ⟨[(2, rb x)], [], 31, 31, 0⟩) (fun v1 h hk1 => ?_) ?_
 ·rcases Bool.eq_false_or_eq_true (decide (a0.Args ≥ 0)) with hb2 | hb2
  ·replace h := cond_yes hb2 h; rcases Bool.eq_false_or_eq_true (decide (a0.Args ≤ 4)) with hb3 | hb3
   ·replace h := cond_yes hb3 h; rcases Bool.eq_false_or_eq_true (decide ((a0.Code.length : Int) > 0)) with hb4 | hb4
    ·replace h := cond_yes hb4 h; rcases Bool.eq_false_or_eq_true (decide ((a0.Code.length : Int) ≤ 64)) with hb5 | hb5
     ·replace h := cond_yes hb5 h; obtain ⟨r6, hr6, h⟩ := po_some h; refine vlG [some 4, some 5, some 6, some 7, some 8, some 9, some 10, some 11, some 12, some 13, some 14, some 15, some 16, some 17, some 18, some 19, some 20, some 21, some 22, some 23, some 24, some 25, some 26, some 27, some 28, some 29, some 30, some 2] (fun K hK => ?_); refine runOps_cut 8 (fun K2 hK2 => ?_); push_cast [hb2, hb3, hb4, hb5]; (repeat refine .intro (by omega) ?_); refine hK2 _ _ ?_; clear hK2 K2; simp only [List.drop_succ_cons, List.drop_zero]; refine runOps_cut 8 (fun K2 hK2 => ?_); push_cast [hb2, hb3, hb4, hb5]; (repeat refine .intro (by omega) ?_); refine hK2 _ _ ?_; clear hK2 K2; simp only [List.drop_succ_cons, List.drop_zero]; refine runOps_cut 8 (fun K2 hK2 => ?_); push_cast [hb2, hb3, hb4, hb5]; (repeat refine .intro (by omega) ?_); refine hK2 _ _ ?_; clear hK2 K2; simp only [List.drop_succ_cons, List.drop_zero]; push_cast [hb2, hb3, hb4, hb5]; (repeat refine .intro (by omega) ?_); refine cp (c_slices_ContainsFunc_api_Inst_api_Inst_prog_fine_1 hr6) ?_; push_cast [hb2, hb3, hb4, hb5]; (repeat refine .intro (by omega) ?_); refine hK _ ?_; clear hK K; refine ar h hk1 ?_; exact sl (by push_cast [hb2, hb3, hb4, hb5])
     ·replace h := cond_no hb5 h; refine vlG [some 4, some 5, some 6, some 7, some 8, some 9, some 10, some 11, some 12, some 13, some 14, some 15, some 16, some 17, some 18, some 19, some 20, some 21, some 22, some 23, some 24, some 25, some 26, some 27, some 28, some 29, some 30, some 2] (fun K hK => ?_); refine runOps_cut 8 (fun K2 hK2 => ?_); push_cast [hb2, hb3, hb4, hb5]; (repeat refine .intro (by omega) ?_); refine hK2 _ _ ?_; clear hK2 K2; simp only [List.drop_succ_cons, List.drop_zero]; refine runOps_cut 8 (fun K2 hK2 => ?_); push_cast [hb2, hb3, hb4, hb5]; (repeat refine .intro (by omega) ?_); refine hK2 _ _ ?_; clear hK2 K2; simp only [List.drop_succ_cons, List.drop_zero]; refine runOps_cut 8 (fun K2 hK2 => ?_); push_cast [hb2, hb3, hb4, hb5]; (repeat refine .intro (by omega) ?_); refine hK2 _ _ ?_; clear hK2 K2; simp only [List.drop_succ_cons, List.drop_zero]; push_cast [hb2, hb3, hb4, hb5]; (repeat refine .intro (by omega) ?_); refine hK _ ?_; clear hK K; refine ar h hk1 ?_; exact sl (by push_cast [hb2, hb3, hb4, hb5])
    ·replace h := cond_no hb4 h; refine vlG [some 4, some 5, some 6, some 7, some 8, some 9, some 10, some 11, some 12, some 13, some 14, some 15, some 16, some 17, some 18, some 19, some 20, some 21, some 22, some 23, some 24, some 25, some 26, some 27, some 28, some 29, some 30, some 2] (fun K hK => ?_); refine runOps_cut 8 (fun K2 hK2 => ?_); push_cast [hb2, hb3, hb4]; (repeat refine .intro (by omega) ?_); refine hK2 _ _ ?_; clear hK2 K2; simp only [List.drop_succ_cons, List.drop_zero]; refine runOps_cut 8 (fun K2 hK2 => ?_); push_cast [hb2, hb3, hb4]; (repeat refine .intro (by omega) ?_); refine hK2 _ _ ?_; clear hK2 K2; simp only [List.drop_succ_cons, List.drop_zero]; refine runOps_cut 8 (fun K2 hK2 => ?_); push_cast [hb2, hb3, hb4]; (repeat refine .intro (by omega) ?_); refine hK2 _ _ ?_; clear hK2 K2; simp only [List.drop_succ_cons, List.drop_zero]; push_cast [hb2, hb3, hb4]; (repeat refine .intro (by omega) ?_); refine hK _ ?_; clear hK K; refine ar h hk1 ?_; exact sl (by push_cast [hb2, hb3, hb4])
   ·replace h := cond_no hb3 h; refine vlG [some 4, some 5, some 6, some 7, some 8, some 9, some 10, some 11, some 12, some 13, some 14, some 15, some 16, some 17, some 18, some 19, some 20, some 21, some 22, some 23, some 24, some 25, some 26, some 27, some 28, some 29, some 30, some 2] (fun K hK => ?_); refine runOps_cut 8 (fun K2 hK2 => ?_); push_cast [hb2, hb3]; (repeat refine .intro (by omega) ?_); refine hK2 _ _ ?_; clear hK2 K2; simp only [List.drop_succ_cons, List.drop_zero]; refine runOps_cut 8 (fun K2 hK2 => ?_); push_cast [hb2, hb3]; (repeat refine .intro (by omega) ?_); refine hK2 _ _ ?_; clear hK2 K2; simp only [List.drop_succ_cons, List.drop_zero]; refine runOps_cut 8 (fun K2 hK2 => ?_); push_cast [hb2, hb3]; (repeat refine .intro (by omega) ?_); refine hK2 _ _ ?_; clear hK2 K2; simp only [List.drop_succ_cons, List.drop_zero]; push_cast [hb2, hb3]; (repeat refine .intro (by omega) ?_); refine hK _ ?_; clear hK K; refine ar h hk1 ?_; exact sl (by push_cast [hb2, hb3])
  ·replace h := cond_no hb2 h; refine vlG [some 4, some 5, some 6, some 7, some 8, some 9, some 10, some 11, some 12, some 13, some 14, some 15, some 16, some 17, some 18, some 19, some 20, some 21, some 22, some 23, some 24, some 25, some 26, some 27, some 28, some 29, some 30, some 2] (fun K hK => ?_); refine runOps_cut 8 (fun K2 hK2 => ?_); push_cast [hb2]; (repeat refine .intro (by omega) ?_); refine hK2 _ _ ?_; clear hK2 K2; simp only [List.drop_succ_cons, List.drop_zero]; refine runOps_cut 8 (fun K2 hK2 => ?_); push_cast [hb2]; (repeat refine .intro (by omega) ?_); refine hK2 _ _ ?_; clear hK2 K2; simp only [List.drop_succ_cons, List.drop_zero]; refine runOps_cut 8 (fun K2 hK2 => ?_); push_cast [hb2]; (repeat refine .intro (by omega) ?_); refine hK2 _ _ ?_; clear hK2 K2; simp only [List.drop_succ_cons, List.drop_zero]; push_cast [hb2]; (repeat refine .intro (by omega) ?_); refine hK _ ?_; clear hK K; refine ar h hk1 ?_; exact sl (by push_cast [hb2])
 ·rintro i_1 (h : p_prog_fine_J1 i_1 = some r); (try push_cast); unfold p_prog_fine_J1 at h; refine VC.ret ?_; replace h := Option.some.inj h; subst h; exact en (by push_cast)
noncomputable def p_prog_May_1 (a0 : T_Fn) : Option (Bool) :=
  po (p_prog_fine a0) fun r1 =>
  some (!r1)
theorem c_prog_May_1 {a0 : T_Fn} {r : Bool} (h : p_prog_May_1 a0 = some r) : Ctr prog 105 [.agg (enc_Fn a0)] [] (rb r) [] := by
 unfold p_prog_May_1 at h; refine Ctr.ofW tabOk func105 rfl call105 0 _ ntmps105 [.tmp 2] rfl rfl rfl (fun B => ?_); refine vs [1] (fun K hK => ?_); push_cast; refine hK _ ?_; clear hK K; obtain ⟨r1, hr1, h⟩ := po_some h; refine vs [2] (fun K hK => ?_); push_cast; refine cp (c_prog_fine hr1) ?_; push_cast; refine hK _ ?_; clear hK K; refine VC.ret ?_; replace h := Option.some.inj h; subst h; exact en (by push_cast)
end Go.Proofs.YtcffmheeofjifaaGreat
