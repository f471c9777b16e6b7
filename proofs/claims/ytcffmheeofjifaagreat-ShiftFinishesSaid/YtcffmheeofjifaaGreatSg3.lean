/- Packed texts: Mem, TabLib, Ev, Gb, Gs, Gc, Ft, Fu, Fw, Gx, Gt, Laws, OwnLib, Br, Own, Last, May2, Find, May, May3, Keyed, Get, App, Set, New, DelLib, Delete, Del, Awake, Few, Eqs, Same, Same2, Ct, Br2, Plain, Back, DelP, FullP, Pl2, Pp, Po, Ol, Gd, Gv, Fx, Fy, Fz, Gn, Qhelpercalldel, Qhelpercallget, Qhelpercallhas, Qhelpercallpush, Qhelpercallset. -/
import Derived.Test.YtcffmheeofjifaaGreatSg2
import Derived.WalkKit
import Derived.Lib.Hide
import Derived.Deep.QuietTactic
import Derived.BigQuiet
import Derived.Laws.CopyOwn
import Derived.Deep.RegionHeld3
import Derived.Test.YtcffmheeofjifaaGreatProg
import Derived.StillTailTactics
import Derived.Deep.RegionLawGrows
import Derived.Maps.AppendAt
import Derived.Deep.DeepCutAuto
import Derived.Deep.CutBlock
import Derived.ScopeJumps
import Derived.RangeFuncMany
set_option linter.unusedVariables false
set_option linter.unusedSimpArgs false
namespace Go.Proofs.YtcffmheeofjifaaGreat
open Go Go.RowKit
theorem add_block (a : Addr) (n : Nat) : (a.add n).block = a.block:=by unfold Addr.add; split <;> rfl
theorem add_add (a : Addr) (i j : Nat) : (a.add i).add j = a.add (i + j):=by
  unfold Addr.add
  by_cases hi : i = 0 <;> by_cases hj : j = 0 <;> simp [hi,hj,Nat.add_assoc]
theorem add_fld (a : Addr) (n j : Nat) : a.add (n + (j + 1)) = ⟨(a.add n).block,(a.add n).off + (j + 1),none⟩:=by
  rw [← add_add]
  simp [Addr.add]
theorem add_lit0 (g j : Nat) : (⟨g,0,none⟩ : Addr).add j = ⟨g,j,none⟩:=by unfold Addr.add; split <;> simp_all
structure Kd (α : Type) where
  sz : Nat
  K : World → Nat → α → List Value → Prop
  len_ : ∀ {w : World} {B : Nat} {x : α} {cs : List Value},K w B x cs → cs.length = sz
  below_ : ∀ {w w' : World} {B : Nat} {x : α} {cs : List Value},K w B x cs → Below B w w' → K w' B x cs
  mono_ : ∀ {w : World} {B B' : Nat} {x : α} {cs : List Value},K w B x cs → B ≤ B' → K w B' x cs
structure Kd.At {α : Type} (k : Kd α) (w : World) (B : Nat) (A : Option Addr) (n c : Nat) (xs : List α) : Prop where
  len : xs.length = n
  le : n ≤ c
  cap : c ≤ maxLen
  el : ∀ i x,xs[i]? = some x → ∃ ad cs,A = some ad ∧ ad.block < B ∧ (∀ j u,cs[j]? = some u → w.cell? (ad.add (i * k.sz + j)) = some u) ∧ k.K w B x cs
section
variable {α : Type} {k : Kd α} {w w' : World} {B B' : Nat} {A : Option Addr} {n c : Nat} {xs : List α}
theorem Kd.At.below (h : k.At w B A n c xs) (hb : Below B w w') : k.At w' B A n c xs:=
  ⟨h.len,h.le,h.cap,fun i x hx=>by
    obtain ⟨ad,cs,e,hB,hc,hk⟩:=h.el i x hx
    exact ⟨ad,cs,e,hB,fun j u hu=>(hb.cell (p:=ad.add (i * k.sz + j)) (by rw [add_block]; exact hB)).trans (hc j u hu),k.below_ hk hb⟩⟩
theorem Kd.At.mono (h : k.At w B A n c xs) (hB : B ≤ B') : k.At w B' A n c xs:=
  ⟨h.len,h.le,h.cap,fun i x hx=>by
    obtain ⟨ad,cs,e,hb,hc,hk⟩:=h.el i x hx
    exact ⟨ad,cs,e,by omega,hc,k.mono_ hk hB⟩⟩
theorem Kd.At.get (h : k.At w B A n c xs) {i : Nat} (hi : i < n) : ∃ x ad cs,xs[i]? = some x ∧ A = some ad ∧ ad.block < B ∧ (∀ j u,cs[j]? = some u → w.cell? (ad.add (i * k.sz + j)) = some u) ∧ k.K w B x cs:=by
  have hl : i < xs.length:=by rw [h.len]; exact hi
  obtain ⟨ad,cs,e,hB,hc,hk⟩:=h.el i xs[i] (List.getElem?_eq_getElem hl)
  exact ⟨xs[i],ad,cs,List.getElem?_eq_getElem hl,e,hB,hc,hk⟩
theorem Kd.At.nil (k : Kd α) (w : World) (B : Nat) (A : Option Addr) (c : Nat) (hc : c ≤ maxLen) : k.At w B A 0 c []:=⟨rfl,Nat.zero_le _,hc,fun i x h=>by simp at h⟩
theorem Kd.At.nle (h : k.At w B A n c xs) : n ≤ 9223372036854775807:=by have:=h.le; have:=h.cap; simp only [maxLen] at this; omega
end
def Kd.slice {α : Type} (k : Kd α) : Kd (List α) where
  sz:=1
  K w B xs cs:=∃ A n c,cs = [.slice A n c] ∧ k.At w B A n c xs
  len_:=by rintro w B x cs ⟨A,n,c,rfl,_⟩; rfl
  below_:=by rintro w w' B x cs ⟨A,n,c,rfl,h⟩ hb; exact ⟨A,n,c,rfl,h.below hb⟩
  mono_:=by rintro w B B' x cs ⟨A,n,c,rfl,h⟩ hb; exact ⟨A,n,c,rfl,h.mono hb⟩
def Kd.nat (ik : IntKind) (top : Nat) : Kd Nat where
  sz:=1
  K _ _ x cs:=cs = [.int ik (x : Int)] ∧ x < top
  len_:=by rintro w B x cs ⟨rfl,_⟩; rfl
  below_:=fun h _=>h
  mono_:=fun h _=>h
def Kd.int : Kd Int where
  sz:=1
  K _ _ x cs:=cs = [.int .i64 x] ∧ -9223372036854775808 ≤ x ∧ x ≤ 9223372036854775807
  len_:=by rintro w B x cs ⟨rfl,_⟩; rfl
  below_:=fun h _=>h
  mono_:=fun h _=>h
def kW : Kd Nat:=Kd.nat .u32 4294967296
theorem kW.get {w : World} {B : Nat} {A : Option Addr} {n c : Nat} {xs : List Nat} (h : kW.At w B A n c xs) {i : Nat} (hi : i < n) :
    ∃ x ad,xs[i]? = some x ∧ A = some ad ∧ ad.block < B ∧ w.cell? (ad.add i) = some (.int .u32 (x : Int)) ∧ x < 4294967296:=by
  obtain ⟨x,ad,cs,hx,e,hB,hc,hk⟩:=h.get hi
  obtain ⟨rfl,hx'⟩:=hk
  have h0:=hc 0 _ rfl
  refine ⟨x,ad,hx,e,hB,?_,hx'⟩
  simpa [kW,Kd.nat] using h0
theorem own_reads {α : Type} {k : Kd α} {w : World} {base : Nat} {e : TypeId} {v : Value} {n : Nat} {vs : List Value} {xs : List α}
    (h : w.ownsRow base e k.sz v n vs) (hl : xs.length = n) (hel : ∀ i x,xs[i]? = some x → k.K w w.heap.size x ((vs.drop (i * k.sz)).take k.sz)) :
    ∃ A c,v = .slice A n c ∧ k.At w w.heap.size A n c xs:=by
  rcases h.2 with ⟨rfl,rfl⟩ | ⟨g,cap,cur,rfl,hb,hg,hnc,hcm,hcs,htake⟩
  · obtain rfl : xs = []:=List.eq_nil_of_length_eq_zero hl
    exact ⟨none,0,rfl,Kd.At.nil k w _ none 0 (Nat.zero_le _)⟩
  · have hlt : g < w.heap.size:=(Array.getElem?_eq_some_iff.1 hg).1
    refine ⟨_,cap,rfl,hl,hnc,hcm,fun i x hx=>⟨_,_,rfl,hlt,?_,hel i x hx⟩⟩
    intro j u hu
    rw [add_lit0]
    have hjs : j < k.sz:=by
      have h1:=(List.getElem?_eq_some_iff.1 hu).1
      simp only [List.length_take] at h1
      omega
    rw [List.getElem?_take,if_pos hjs,List.getElem?_drop] at hu
    have hcell:=h.cells (g:=g) rfl (i * k.sz + j) u hu
    rwa [add_lit0] at hcell
theorem own_below {w w' : World} {base : Nat} {e : TypeId} {size n : Nat} {v : Value} {xs : List Value} (h : w.ownsRow base e size v n xs) (hb : Below w.heap.size w w') : w'.ownsRow base e size v n xs:=
  h.kept (row:=none) ⟨hb.os,hb.tape,hb.output,hb.size,fun i hi _=>hb.block i hi⟩ (by cases v.ownBlock <;> simp)
theorem own_mono {w : World} {base base' : Nat} {e : TypeId} {size n : Nat} {v : Value} {xs : List Value} (h : w.ownsRow base e size v n xs) (hb : base' ≤ base) : w.ownsRow base' e size v n xs:=by
  refine ⟨h.1,?_⟩
  rcases h.2 with h2 | ⟨g,cap,cur,hv,hg,r⟩
  · exact .inl h2
  · exact .inr ⟨g,cap,cur,hv,by omega,r⟩
theorem bcell {B : Nat} {W w1 : World} (hb : Below B W w1) : (∀ b o,b < B → w1.cell? ⟨b,o,none⟩ = W.cell? ⟨b,o,none⟩) ∧ (∀ b o,b < B → w1.frozen? ⟨b,o,none⟩ = W.frozen? ⟨b,o,none⟩):=
  ⟨fun b o h=>hb.cell (p:=⟨b,o,none⟩) h,fun b o h=>hb.frozen (p:=⟨b,o,none⟩) h⟩
theorem below_of {w W w1 : World} (h0 : Below w.heap.size w W) (h : Below W.heap.size W w1) : Below w.heap.size w w1:=h0.trans (h.mono h0.size)
theorem below_drewN {B : Nat} {a w : World} (h : Below B a w) (n : Nat) : Below B a (w.drewN n):=⟨h.os,h.tape,h.output,h.size,h.block⟩
theorem below_box (w : World) (o : Obj) : Below w.heap.size w (w.alloc o):=(Below.refl _ _).alloc (Nat.le_refl _) o
def Drawn (w w' : World) : Prop:=∃ m,w' = w.drewN m
theorem Drawn.refl (w : World) : Drawn w w:=⟨0,rfl⟩
theorem Drawn.step {w w' : World} (h : Drawn w w') (n : Nat) : Drawn w (w'.drewN n):=by
  obtain ⟨m,rfl⟩:=h
  exact ⟨m + n,World.drewN_drewN ..⟩
theorem Drawn.below {B : Nat} {w w' : World} (h : Drawn w w') : Below B w w':=by
  obtain ⟨m,rfl⟩:=h
  exact below_drewN (Below.refl _ _) m
theorem Drawn.quiet {P : Program} {f : FuncId} {args : Array Value} {w : World} {n : Nat} {v : Value}
    (h : Calls P f args (w.drewN n) fun e w'=>e = .returned v ∧ Drawn (w.drewN n) w') : Calls P f args (w.drewN n) fun e w''=>e = .returned v ∧ ∃ m,w'' = w.drewN m:=
  h.mono fun _ _ ⟨he,m,hm⟩=>⟨he,n + m,by rw [hm,World.drewN_drewN]⟩
theorem ret_int {k : IntKind} {a b : Int} (h : a = b) : Ending.returned (.int k a) = .returned (.int k b):=by rw [h]
theorem ret_bool {a b : Bool} (h : a = b) : Ending.returned (.bool a) = .returned (.bool b):=by rw [h]
structure Sch where
  kind : Int
  cap : Int
  words : Int
  ver : Int
  deriving DecidableEq
structure Ent where
  key : Nat
  v : List Nat
  deriving DecidableEq
structure Tab where
  s : Sch
  e : List Ent
  next : Nat
  deriving DecidableEq
def i64ok (x : Int) : Prop:=-9223372036854775808 ≤ x ∧ x ≤ 9223372036854775807
structure Sch.Ok (s : Sch) : Prop where
  kind : i64ok s.kind
  cap : i64ok s.cap
  words : i64ok s.words
  ver : i64ok s.ver
def Sch.cells (s : Sch) : List Value:=[.int .i64 s.kind,.int .i64 s.cap,.int .i64 s.words,.int .i64 s.ver]
def kEnt : Kd Ent where
  sz:=2
  K w B e cs:=∃ A n c,cs = [.int .u32 (e.key : Int),.slice A n c] ∧ e.key < 4294967296 ∧ kW.At w B A n c e.v
  len_:=by rintro w B x cs ⟨A,n,c,rfl,_⟩; rfl
  below_:=by rintro w w' B x cs ⟨A,n,c,rfl,hk,h⟩ hb; exact ⟨A,n,c,rfl,hk,h.below hb⟩
  mono_:=by rintro w B B' x cs ⟨A,n,c,rfl,hk,h⟩ hb; exact ⟨A,n,c,rfl,hk,h.mono hb⟩
def kTab : Kd Tab where
  sz:=6
  K w B t cs:=∃ A n c,cs = [.int .i64 t.s.kind,.int .i64 t.s.cap,.int .i64 t.s.words,.int .i64 t.s.ver,.slice A n c,.int .u32 (t.next : Int)] ∧ t.s.Ok ∧ t.next < 4294967296 ∧ kEnt.At w B A n c t.e
  len_:=by rintro w B x cs ⟨A,n,c,rfl,_⟩; rfl
  below_:=by rintro w w' B x cs ⟨A,n,c,rfl,hs,hk,h⟩ hb; exact ⟨A,n,c,rfl,hs,hk,h.below hb⟩
  mono_:=by rintro w B B' x cs ⟨A,n,c,rfl,hs,hk,h⟩ hb; exact ⟨A,n,c,rfl,hs,hk,h.mono hb⟩
def tabV (s : Sch) (A : Option Addr) (n c : Nat) (next : Nat) : Value:=
  .agg #[.int .i64 s.kind,.int .i64 s.cap,.int .i64 s.words,.int .i64 s.ver,.slice A n c,.int .u32 (next : Int)]
theorem kEnt.get {w : World} {B : Nat} {A : Option Addr} {n c : Nat} {es : List Ent} (h : kEnt.At w B A n c es) {i : Nat} (hi : i < n) :
    ∃ e ad A' n' c',es[i]? = some e ∧ A = some ad ∧ ad.block < B ∧ w.cell? (ad.add (i * 2)) = some (.int .u32 (e.key : Int)) ∧
      w.cell? ⟨(ad.add (i * 2)).block,(ad.add (i * 2)).off + 1,none⟩ = some (.slice A' n' c') ∧ e.key < 4294967296 ∧ kW.At w B A' n' c' e.v:=by
  obtain ⟨x,ad,cs,hx,e,hB,hc,hk⟩:=h.get hi
  obtain ⟨A',n',c',rfl,hlt,hv⟩:=hk
  have h0:=hc 0 _ rfl
  have h1:=hc 1 _ rfl
  refine ⟨x,ad,A',n',c',hx,e,hB,?_,?_,hlt,hv⟩
  · simpa [kEnt] using h0
  · rw [show i * kEnt.sz + 1 = i * 2 + (0 + 1) from rfl,add_fld] at h1
    exact h1
def inB (n lo hi : Int) : Bool:=decide (lo ≤ n) && decide (n ≤ hi)
def Sch.may (s : Sch) : Bool:=inB s.kind 0 3 && inB s.cap 1 16 && inB s.words 1 (if s.kind = 3 then 1 else 4) && inB s.ver 0 1000
def fidx (key : Nat) : List Ent → Nat → Int
  | [],_=>-1
  | e :: es,k=>if e.key = key then (k : Int) else fidx key es (k + 1)
def Tab.at_ (t : Tab) (key : Nat) : Int:=fidx key t.e 0
def Tab.elOk (t : Tab) (i : Nat) (e : Ent) : Bool:=
  decide ((e.v.length : Int) = t.s.words) && decide (fidx e.key t.e 0 = (i : Int)) && (!decide (t.s.kind = 0) || decide (e.key = i)) &&
    (!decide (t.s.kind = 3) || decide (e.key = (t.next + (4294967296 - t.e.length) + i) % 4294967296))
theorem Tab.elOk_iff (t : Tab) (i : Nat) (e : Ent) : t.elOk i e = true ↔ (e.v.length : Int) = t.s.words ∧ fidx e.key t.e 0 = (i : Int) ∧ (t.s.kind = 0 → e.key = i) ∧ (t.s.kind = 3 → e.key = (t.next + (4294967296 - t.e.length) + i) % 4294967296):=by
  unfold Tab.elOk
  simp only [Bool.and_eq_true,Bool.or_eq_true,Bool.not_eq_true',decide_eq_true_eq,decide_eq_false_iff_not]
  constructor
  · rintro ⟨⟨⟨a,b⟩,c⟩,d⟩
    exact ⟨a,b,fun h=>c.resolve_left (fun q=>q h),fun h=>d.resolve_left (fun q=>q h)⟩
  · rintro ⟨a,b,c,d⟩
    refine ⟨⟨⟨a,b⟩,?_⟩,?_⟩
    · by_cases h : t.s.kind = 0
      · exact .inr (c h)
      · exact .inl h
    · by_cases h : t.s.kind = 3
      · exact .inr (d h)
      · exact .inl h
theorem Tab.elOk_no {t : Tab} {i : Nat} {e : Ent} (h : ¬ ((e.v.length : Int) = t.s.words ∧ fidx e.key t.e 0 = (i : Int) ∧ (t.s.kind = 0 → e.key = i) ∧ (t.s.kind = 3 → e.key = (t.next + (4294967296 - t.e.length) + i) % 4294967296))) : t.elOk i e = false:=by
  cases hq : t.elOk i e with
  | false=>rfl
  | true=>exact absurd ((t.elOk_iff i e).1 hq) h
def Tab.headOk (t : Tab) : Bool:=
  t.s.may && decide ((t.e.length : Int) ≤ t.s.cap) && (decide (t.s.kind = 3) || decide (t.next = 0)) && (!decide (t.s.kind = 0) || decide ((t.e.length : Int) = t.s.cap))
def Tab.may (t : Tab) : Bool:=t.headOk && t.e.zipIdx.all fun p=>t.elOk p.2 p.1
theorem Tab.may_iff (t : Tab) : t.may = true ↔ t.headOk = true ∧ ∀ (i : Nat) (e : Ent),t.e[i]? = some e → t.elOk i e = true:=by
  unfold Tab.may
  rw [Bool.and_eq_true,List.all_eq_true]
  refine and_congr Iff.rfl ⟨fun h i e hi=>h (e,i) (by rw [List.mem_zipIdx_iff_getElem?]; exact hi),fun h p hp=>h p.2 p.1 (by rw [List.mem_zipIdx_iff_getElem?] at hp; exact hp)⟩
theorem Tab.may_no (t : Tab) {i : Nat} {e : Ent} (hi : t.e[i]? = some e) (h : t.elOk i e = false) : t.may = false:=by
  cases hm : t.may with
  | false=>rfl
  | true=>have:=(t.may_iff.1 hm).2 i e hi; rw [h] at this; cases this
theorem Tab.may_head (t : Tab) (h : t.headOk = false) : t.may = false:=by simp [Tab.may,h]
theorem Sch.may_bounds {s : Sch} (h : s.may = true) : 0 ≤ s.kind ∧ s.kind ≤ 3 ∧ 1 ≤ s.cap ∧ s.cap ≤ 16 ∧ 1 ≤ s.words ∧ s.words ≤ 4 ∧ (s.kind = 3 → s.words = 1) ∧ 0 ≤ s.ver ∧ s.ver ≤ 1000:=by
  simp only [Sch.may,inB,Bool.and_eq_true,decide_eq_true_eq] at h
  obtain ⟨⟨⟨⟨a,b⟩,c,d⟩,e,f⟩,g,i⟩:=h
  refine ⟨a,b,c,d,e,?_,fun hk=>?_,g,i⟩
  · split at f <;> omega
  · rw [if_pos hk] at f; omega
open Go Go.RowKit Go.Proofs.Tryz
attribute [push_cast] runOps evOp opd opd0 opds optQ strip ofV AV.cells AV.one AV.lies normQ normL splC takeV loadQ storeQ addP fieldAddrQ fieldQ indexAddrQ indexQ fillA buildQ fillE AV.loose normP intQ eqCells kindsOf eqAgg binQ unQ convQ makeQ bnd sliceQ lenQ elsQ appNewQ appTightQ appRowQ appendQ copyQ builtinQ callQ Ay pickR guardQ
attribute [push_cast] look Cb delA applyW callW St.put St.wr St.keep TI.agg TI.known runD wrKeys
attribute [push_cast] updL List.getElem?_cons_zero List.getElem?_cons_succ List.getElem?_nil List.forall_mem_cons List.not_mem_nil false_implies
attribute [push_cast] true_and and_true implies_true forall_const eq_self false_and and_false ne_eq not_false_eq_true not_true_eq_false or_false false_or true_or or_true Bool.true_and Bool.and_true Bool.false_and Bool.and_false Bool.not_true Bool.not_false beq_self_eq_true Bool.false_eq_true if_true if_false
attribute [push_cast] enumA List.toList_toArray List.length_cons List.length_nil Value.oneCell' List.append_nil List.nil_append List.cons_append List.drop_zero List.drop_succ_cons List.take_succ_cons List.take_zero List.all_cons List.all_nil AV.in0 AV.in1 AV.in2 AV.in3
attribute [push_cast] List.map_cons List.map_nil List.getD_cons_zero List.getD_cons_succ List.getD_nil Option.some.injEq Nat.add_zero Nat.zero_add
attribute [push_cast] resL resV resAV Option.map_some Option.map_none List.length_map Int.toNat_natCast List.getD_eq_getElem?_getD List.getElem?_map Option.getD_some Option.getD_none Int.ofNat_lt Int.ofNat_le Int.natCast_nonneg decide_eq_true_eq decide_eq_false_iff_not
attribute [push_cast] List.replicate_succ List.replicate_zero List.length_replicate List.length_append Nat.min_self List.drop_nil List.take_nil
attribute [push_cast] List.reverse_cons List.reverse_nil imp_self beq_true beq_false Bool.not_not Bool.and_self
attribute [push_cast] cond_true cond_false decide_true decide_false bne_self_eq_false
attribute [push_cast] optB optI
attribute [push_cast] AV.short AV.shorts AObj.shorts List.set_cons_zero List.set_cons_succ List.set_nil List.length_set
def wpS {α : Type} (f : α → Prop) : Option α → Prop
  | some v=>f v
  | none=>False
@[push_cast] theorem wpS_some {α : Type} (f : α → Prop) (v : α) : wpS f (some v) = f v:=Eq.trans rfl rfl
@[push_cast] theorem wpS_none {α : Type} (f : α → Prop) : wpS f none = False:=Eq.trans rfl rfl
@[congr] theorem wpS_congr {α : Type} {f : α → Prop} {o o' : Option α} (h : o = o') : wpS f o = wpS f o':=by rw [h]
def keepS (t : Nat) (r : List (Nat × AV)) : Option AV → List (Nat × AV)
  | some v=>(t,v) :: r
  | none=>r
@[push_cast] theorem keepS_some (t : Nat) (r : List (Nat × AV)) (v : AV) : keepS t r (some v) = (t,v) :: r:=Eq.trans rfl rfl
@[push_cast] theorem keepS_none (t : Nat) (r : List (Nat × AV)) : keepS t r none = r:=Eq.trans rfl rfl
@[congr] theorem keepS_congr {t : Nat} {r : List (Nat × AV)} {o o' : Option AV} (h : o = o') : keepS t r o = keepS t r o':=by rw [h]
@[push_cast] theorem keepL_nil (m : List (Nat × AV)) : keepL m [] = []:=Eq.trans rfl rfl
@[push_cast] theorem keepL_cons (m : List (Nat × AV)) (t : Nat) (r : List Nat) : keepL m (t :: r) = keepS t (keepL m r) (look m t):=by
  simp only [keepL]
  cases look m t <;> rfl
section
variable {P : Program} {T : Nat → TI} {nid : Nat} {s : St} {K : AV → Wr → Prop} {K2 : List Ky → AV → Wr → Prop} {rs : List Ky}
@[push_cast] theorem wpQ_done (v : AV) (wr : Wr) : wpQ P nid s (.done v wr) K = K v wr:=Eq.trans rfl rfl
@[push_cast high] theorem wpQ_needT {p : Prop} {k : Q} (h : p) : wpQ P nid s (.need p k) K = wpQ P nid s k K:=by rw [eq_iff_iff]; exact ⟨fun h=>h.2,fun h2=>⟨h,h2⟩⟩
@[push_cast] theorem wpQ_need (p : Prop) (k : Q) : wpQ P nid s (.need p k) K = (p ∧ wpQ P nid s k K):=Eq.trans rfl rfl
@[push_cast] theorem wpQ_slot (t : Nat) (k : AV → Q) : wpQ P nid s (.slot t k) K = wpS (fun v=>wpQ P nid s (k v) K) (look s.tm t):=by
  simp only [wpQ]
  cases look s.tm t <;> rfl
@[push_cast] theorem wpQ_obj (id : Nat) (k : AObj → Q) : wpQ P nid s (.obj id k) K = wpS (fun v=>wpQ P nid s (k v) K) (look s.hp id):=by
  simp only [wpQ]
  cases look s.hp id <;> rfl
@[push_cast] theorem wpQ_any (p : Bool → Prop) (k : Bool → Q) : wpQ P nid s (.any p k) K = ∀ b,p b → wpQ P nid s (k b) K:=Eq.trans rfl rfl
@[push_cast] theorem wpI_mp (f : List (Value × AV) → Nat → Prop) (es : List (Value × AV)) (n : Nat) : wpI f (some (.mp es n)) = f es n:=Eq.trans rfl rfl
@[congr] theorem wpI_congr {f : List (Value × AV) → Nat → Prop} {o o' : Option AObj} (h : o = o') : wpI f o = wpI f o':=by rw [h]
@[push_cast] theorem wpQ_ins (id : Nat) (j : IntKind) (a : Int) (u : AV) : wpQ P nid s (.ins id j a u) K = wpI (fun es n=>(keysOk j es = true ∧ newKey a es = true) ∧ K .dead [(id,some (.mp (insS j a u es) (n + 1)))]) (look s.hp id):=Eq.trans rfl rfl
@[push_cast] theorem wpQD_ins (id : Nat) (j : IntKind) (a : Int) (u : AV) : wpQD P nid s (.ins id j a u) rs K2 = wpI (fun es n=>(keysOk j es = true ∧ newKey a es = true) ∧ K2 (.k id a :: .o id :: rs) .dead [(id,some (.mp (insS j a u es) (n + 1)))]) (look s.hp id):=Eq.trans rfl rfl
attribute [push_cast] insS
@[push_cast] theorem wpQ_bad : wpQ P nid s .bad K = False:=Eq.trans rfl rfl
@[push_cast] theorem wpQD_done (v : AV) (wr : Wr) : wpQD P nid s (.done v wr) rs K2 = K2 rs v wr:=Eq.trans rfl rfl
@[push_cast high] theorem wpQD_needT {p : Prop} {k : Q} (h : p) : wpQD P nid s (.need p k) rs K2 = wpQD P nid s k rs K2:=by rw [eq_iff_iff]; exact ⟨fun h=>h.2,fun h2=>⟨h,h2⟩⟩
@[push_cast] theorem wpQD_need (p : Prop) (k : Q) : wpQD P nid s (.need p k) rs K2 = (p ∧ wpQD P nid s k rs K2):=Eq.trans rfl rfl
@[push_cast] theorem wpQD_slot (t : Nat) (k : AV → Q) : wpQD P nid s (.slot t k) rs K2 = wpS (fun v=>wpQD P nid s (k v) (.t t :: rs) K2) (look s.tm t):=by
  simp only [wpQD]
  cases look s.tm t <;> rfl
@[push_cast] theorem wpQD_obj (id : Nat) (k : AObj → Q) : wpQD P nid s (.obj id k) rs K2 = wpS (fun v=>wpQD P nid s (k v) (.o id :: rs) K2) (look s.hp id):=by
  simp only [wpQD]
  cases look s.hp id <;> rfl
@[push_cast] theorem wpQD_bad : wpQD P nid s .bad rs K2 = False:=Eq.trans rfl rfl
@[congr] theorem wpQ_congr {q q' : Q} (h : q = q') : wpQ P nid s q K = wpQ P nid s q' K:=by rw [h]
@[congr] theorem wpQD_congr {q q' : Q} (h : q = q') : wpQD P nid s q rs K2 = wpQD P nid s q' rs K2:=by rw [h]
@[congr] theorem runOps_congr {E : EvT} {d : List (Option Nat)} {l : List Oper} {i i' : Nat} {s s' : St} {K : St → Prop} (h : i = i') (h2 : s = s') : runOps E P T d l i s K = runOps E P T d l i' s' K:=by rw [h,h2]
@[congr] theorem runD_congr {E : EvT} {d : List (Option Nat)} {l : List Oper} {i i' : Nat} {s s' : St} {acc acc' : List (List Ky × List Ky)} {K : List (List Ky × List Ky) → St → Prop} (h : i = i') (h2 : s = s') (h3 : acc = acc') : runD E P T d l i s acc K = runD E P T d l i' s' acc' K:=by rw [h,h2,h3]
@[congr] theorem slot_congr {t : Nat} {k : AV → Q} : Q.slot t k = Q.slot t k:=rfl
@[congr] theorem obj_congr {t : Nat} {k : AObj → Q} : Q.obj t k = Q.obj t k:=rfl
@[congr] theorem need_congr {p : Prop} {k : Q} : Q.need p k = Q.need p k:=rfl
def guardD (T : Nat → TI) (nid : Nat) (want : Bool) (op : Op) : Option Nat → Q
  | none=>.bad
  | some d=>.slot d fun g=>match g with
      | .raw (.bool b)=>guardQ (b == want) (evOp T nid (b == want) op)
      | .ifb g (.raw (.bool b))=>guardQ (g && (b == want)) (evOp T nid (g && (b == want)) op)
      | _=>.bad
@[congr] theorem VC_congr {B : Base} {c : Code} {Q : Exit → St → Prop} {s s' : St} (h : s = s') : VC P B c Q s = VC P B c Q s':=by rw [h]
@[congr] theorem evOper_congr {T : Nat → TI} {d : List (Option Nat)} {o : Oper} : evOper T nid d o = evOper T nid d o:=rfl
@[congr] theorem evOp_congr {T : Nat → TI} {n n' : Nat} {c c' : Bool} {o : Op} (h : n = n') (h2 : c = c') : evOp T n c o = evOp T n' c' o:=by rw [h,h2]
@[congr] theorem guardD_congr {T : Nat → TI} {n n' : Nat} {w : Bool} {o : Op} {d d' : Option Nat} (h : n = n') (h2 : d = d') : guardD T n w o d = guardD T n' w o d':=by rw [h,h2]
@[push_cast] theorem evOper_none {T : Nat → TI} {ds : List (Option Nat)} {op : Op} {d : Option Nat} {ty : TypeId} {ps : String} {af : Array Edge} : evOper T nid ds { dst:=d,op:=op,type:=ty,pos:=ps,after:=af,guard:=none } = evOp T nid true op:=rfl
@[push_cast] theorem evOper_some {T : Nat → TI} {ds : List (Option Nat)} {op : Op} {d : Option Nat} {ty : TypeId} {ps : String} {af : Array Edge} {j : Nat} {w : Bool} : evOper T nid ds { dst:=d,op:=op,type:=ty,pos:=ps,after:=af,guard:=some (j,w) } = guardD T nid w op (ds.getD j none):=by
  simp only [evOper]
  cases ds.getD j none <;> rfl
attribute [push_cast] guardD
@[congr] theorem strip_congr {c c' : Bool} {v v' : AV} {k : AV → Q} (h : c = c') (h2 : v = v') : strip c v k = strip c' v' k:=by rw [h,h2]
@[congr] theorem opd0_congr {x : Operand} {k : AV → Q} : opd0 x k = opd0 x k:=rfl
@[congr] theorem opd_congr {c c' : Bool} {x : Operand} {k : AV → Q} (h : c = c') : opd c x k = opd c' x k:=by rw [h]
@[congr] theorem opds_congr {c c' : Bool} {x : List Operand} {k : List AV → Q} (h : c = c') : opds c x k = opds c' x k:=by rw [h]
@[congr] theorem optQ_congr {c c' : Bool} {x : Option Operand} {k : Option AV → Q} (h : c = c') : optQ c x k = optQ c' x k:=by rw [h]
@[congr] theorem normQ_congr {v v' : AV} {k : AV → Wr → Q} (h : v = v') : normQ v k = normQ v' k:=by rw [h]
@[congr] theorem normL_congr {v v' : List AV} {k : List AV → Wr → Q} (h : v = v') : normL v k = normL v' k:=by rw [h]
@[congr] theorem normP_congr {v v' : List (Nat × AV)} {k : List (Nat × List AV) → Wr → Q} (h : v = v') : normP v k = normP v' k:=by rw [h]
@[congr] theorem addP_congr {p p' : AV} {n n' : Nat} {k : AV → Q} (h : p = p') (h2 : n = n') : addP p n k = addP p' n' k:=by rw [h,h2]
@[congr] theorem bnd_congr {x x' : Option AV} {d d' : Int} {k : Int → Q} (h : x = x') (h2 : d = d') : bnd x d k = bnd x' d' k:=by rw [h,h2]
@[congr] theorem lenQ_congr {x x' : AV} {k : Int → Q} (h : x = x') : lenQ x k = lenQ x' k:=by rw [h]
@[congr] theorem elsQ_congr {n n' : Nat} {x x' : AV} {k : List (List AV) → Q} (h : n = n') (h2 : x = x') : elsQ n x k = elsQ n' x' k:=by rw [h,h2]
@[congr] theorem partsQ_congr {c c' : Bool} {l : List (Nat × Operand)} {k : List (Nat × AV) → Q} (h : c = c') : Ay c l k = Ay c' l k:=by rw [h]
theorem callP {f : FuncId} {args : List AV} {r : AV} (hc : Ctr P f args [] r []) (ha : (args.all (AV.in3 (Hp.has []))) = true) (h : K r []) : wpQ P nid s (.call none f args) K:=⟨[],r,[],(fun p hp=>by cases hp),hc,ha,rfl,rfl,[],(fun _ h=>by cases h),h⟩
theorem callPD {f : FuncId} {args : List AV} {r : AV} (hc : Ctr P f args [] r []) (ha : (args.all (AV.in3 (Hp.has []))) = true) (h : K2 rs r []) : wpQD P nid s (.call none f args) rs K2:=⟨[],r,[],(fun p hp=>by cases hp),hc,ha,rfl,rfl,[],(fun _ h=>by cases h),h⟩
theorem callH {f : FuncId} {args : List AV} {H H' : Hp} {r : AV} (hc : Ctr P f args H r H') (hl : ∀ p ∈ H,look s.hp p.1 = some p.2) (ha : (args.all (AV.in3 H.has)) = true) (hi : (H.all fun p=>p.2.inD H.has) = true) (hh : (H'.all fun p=>H.has p.1 || p.1 == nid) = true) (h : K r (callW H H')) : wpQ P nid s (.call none f args) K:=⟨H,r,H',hl,hc,ha,hi,hh,[],(fun _ h=>by cases h),h⟩
end
theorem VRel.loose {w : World} {x : Cx} {hp : Hp} {els : List (List AV)} {v : Value} (h : VRel w x hp (.sl true els) v) : VRel w x hp (.sl false els) v:=by
  cases h with
  | dat h=>
    cases h with
    | sl _ _ A c sz vals hc hm ht hsz hA hcell hd=>exact .dat (.sl false els A c sz vals hc hm (by intro h; cases h) hsz hA hcell hd)
def Xi (n : Nat) : List AV:=[.raw (.int .u32 (n : Int))]
def Lk (e : Ent) : List AV:=[.raw (.int .u32 (e.key : Int)),.sl false (e.v.map Xi)]
def cellsSch (s : Sch) : List AV:=[.raw (.int .i64 s.kind),.raw (.int .i64 s.cap),.raw (.int .i64 s.words),.raw (.int .i64 s.ver)]
def cellsTab (f : Bool) (t : Tab) : List AV:=[.raw (.int .i64 t.s.kind),.raw (.int .i64 t.s.cap),.raw (.int .i64 t.s.words),.raw (.int .i64 t.s.ver),.sl f (t.e.map Lk),.raw (.int .u32 (t.next : Int))]
def avTab (f : Bool) (t : Tab) : AV:=.agg (cellsTab f t)
def avSch (s : Sch) : AV:=.agg (cellsSch s)
attribute [push_cast] avTab cellsTab avSch cellsSch
theorem Jn0 (l : List Ent) : Uni 2 (l.map Lk):=by
  intro cs h
  obtain ⟨e,_,rfl⟩:=List.mem_map.1 h
  rfl
theorem Jt0 (l : List Nat) : Uni 1 (l.map Xi):=by
  intro cs h
  obtain ⟨e,_,rfl⟩:=List.mem_map.1 h
  rfl
attribute [push_cast] Jn0 Jt0 Lk Xi
theorem hmixO : prog.follows .mixedOrders = true:=by kernel_rfl
theorem Bh {α : Type} {l : List α} {n : Int} {a : α} (h : idx l n = some a) : 0 ≤ n ∧ n < (l.length : Int) ∧ l[n.toNat]? = some a ∧ n.toNat < l.length:=by
  obtain ⟨h1,h2,h3⟩:=idx_some h
  exact ⟨h1,h2,h3,by omega⟩
theorem get_lt {α : Type} {l : List α} {n : Nat} {a : α} (h : l[n]? = some a) : n < l.length:=(List.getElem?_eq_some_iff.1 h).1
theorem get_ltI {α : Type} {l : List α} {n : Nat} {a : α} (h : l[n]? = some a) : (n : Int) < (l.length : Int):=Int.ofNat_lt.2 (get_lt h)
theorem Ao {β : Type} {b : Bool} {x y : Option β} {r : β} (hb : b = true) (h : cond b x y = some r) : x = some r:=by subst hb; exact h
theorem Au {β : Type} {b : Bool} {x y : Option β} {r : β} (hb : b = false) (h : cond b x y = some r) : y = some r:=by subst hb; exact h
theorem endP {T : Nat → TI} {rs : List ResultVar} {r : AV} {H' : Hp} {e : Exit} {s s'' : St} (h1 : Sub s s'') (h2 : Post T rs r H' e s'') : ∃ s'',Sub s s'' ∧ Post T rs r H' e s'':=⟨s'',h1,h2⟩
theorem Cg {T : Nat → TI} {rs : List ResultVar} {r : AV} {H' : Hp} {e : Exit} {s s1 : St} (h1 : Sub s s1) (h2 : ∃ s'',Sub s1 s'' ∧ Post T rs r H' e s'') : ∃ s'',Sub s s'' ∧ Post T rs r H' e s'':=let ⟨s2,h3,h4⟩:=h2; ⟨s2,h1.trans h3,h4⟩
theorem Eu {α : Type} {f : α → List AV} {n : Nat} (h : ∀ a,(f a).length = n) {l : List α} : Uni n (l.map f):=by
  intro cs hc
  obtain ⟨a,_,rfl⟩:=List.mem_map.1 hc
  exact h a
theorem take_map_len {α β : Type} (f : α → β) (l : List α) : List.take l.length (l.map f) = l.map f:=List.take_of_length_le (by simp)
attribute [push_cast] List.map_append List.map_set List.map_take List.map_drop List.map_replicate
attribute [push_cast] runSeg runSegD List.zipIdx_cons List.zipIdx_nil List.take_replicate List.length_take List.length_drop Nat.sub_zero Nat.min_self List.replicate_zero
@[congr] theorem runSeg_congr {E : EvT} {P : Program} {T : Nat → TI} {d : List (Option Nat)} {l : List Oper} {i i' : Nat} {s s' : St} {K : Nat → St → Prop} (h : i = i') (h2 : s = s') : runSeg E P T d l i s K = runSeg E P T d l i' s' K:=by rw [h,h2]
@[congr] theorem runSegD_congr {E : EvT} {P : Program} {T : Nat → TI} {d : List (Option Nat)} {l : List Oper} {i i' : Nat} {s s' : St} {a a' : List (List Ky × List Ky)} {K : Nat → St → List (List Ky × List Ky) → Prop} (h : i = i') (h2 : s = s') (h3 : a = a') : runSegD E P T d l i s a K = runSegD E P T d l i' s' a' K:=by rw [h,h2,h3]
section
variable {P : Program} {T : Nat → TI} {nid : Nat}
@[push_cast] theorem evOpF_move {x} : evOpF T nid (.move x) = evOp T nid true (.move x):=Eq.trans rfl rfl
@[push_cast] theorem evOpF_assign {x} : evOpF T nid (.assign x) = evOp T nid true (.assign x):=Eq.trans rfl rfl
@[push_cast] theorem evOpF_alloc {t} : evOpF T nid (.alloc t) = evOp T nid true (.alloc t):=Eq.trans rfl rfl
@[push_cast] theorem evOpF_box {t x} : evOpF T nid (.box t x) = evOp T nid true (.box t x):=Eq.trans rfl rfl
@[push_cast] theorem evOpF_build {t ps} : evOpF T nid (.build t ps) = evOp T nid true (.build t ps):=Eq.trans rfl rfl
@[push_cast] theorem evOpF_buildSlice {t n ps} : evOpF T nid (.buildSlice t n ps) = cond (n == 0 && ps.isEmpty) (emptyQ T nid t) (evOp T nid true (.buildSlice t n ps)):=Eq.trans rfl rfl
@[push_cast] theorem evOpF_load {t x} : evOpF T nid (.load t x) = evOp T nid true (.load t x):=Eq.trans rfl rfl
@[push_cast] theorem evOpF_store {t x y} : evOpF T nid (.store t x y) = evOp T nid true (.store t x y):=Eq.trans rfl rfl
@[push_cast] theorem evOpF_nilCheck {x} : evOpF T nid (.nilCheck x) = evOp T nid true (.nilCheck x):=Eq.trans rfl rfl
@[push_cast] theorem evOpF_binOp {o t x y u} : evOpF T nid (.binOp o t x y u) = cond (isNilC o y) (opd true x fun v=>nilQ T t v) (evOp T nid true (.binOp o t x y u)):=Eq.trans rfl rfl
attribute [push_cast] isNilC nilQ emptyQ List.isEmpty_toArray List.isEmpty_cons List.isEmpty_nil
@[push_cast] theorem evOpF_unOp {o t x} : evOpF T nid (.unOp o t x) = evOp T nid true (.unOp o t x):=Eq.trans rfl rfl
@[push_cast] theorem evOpF_convert {t d x} : evOpF T nid (.convert t d x) = evOp T nid true (.convert t d x):=Eq.trans rfl rfl
@[push_cast] theorem evOpF_makeFunc {f a b} : evOpF T nid (.makeFunc f a b) = evOp T nid true (.makeFunc f a b):=Eq.trans rfl rfl
@[push_cast] theorem evOpF_makeSlice {t x y} : evOpF T nid (.makeSlice t x y) = evOp T nid true (.makeSlice t x y):=Eq.trans rfl rfl
@[push_cast] theorem evOpF_slice {t x a b c} : evOpF T nid (.slice t x a b c) = evOp T nid true (.slice t x a b c):=Eq.trans rfl rfl
@[push_cast] theorem evOpF_fieldAddr {t x f} : evOpF T nid (.fieldAddr t x f) = evOp T nid true (.fieldAddr t x f):=Eq.trans rfl rfl
@[push_cast] theorem evOpF_field {t x f} : evOpF T nid (.field t x f) = evOp T nid true (.field t x f):=Eq.trans rfl rfl
@[push_cast] theorem evOpF_indexAddr {t x i} : evOpF T nid (.indexAddr t x i) = evOp T nid true (.indexAddr t x i):=Eq.trans rfl rfl
@[push_cast] theorem evOpF_index {t x i} : evOpF T nid (.index t x i) = evOp T nid true (.index t x i):=Eq.trans rfl rfl
@[push_cast] theorem evOpF_extract {x i} : evOpF T nid (.extract x i) = evOp T nid true (.extract x i):=Eq.trans rfl rfl
@[push_cast] theorem evOpF_call {c} : evOpF T nid (.call c) = evOp T nid true (.call c):=Eq.trans rfl rfl
@[push_cast] theorem evOpF_makeMap {t} : evOpF T nid (.makeMap t none) = .done (.mp nid) [(nid,some (.mp [] 0))]:=Eq.trans rfl rfl
@[push_cast] theorem evOpF_insert {t m k x} : evOpF T nid (.insert t m k x) = opd true m fun mv=>opd true k fun kv=>opd true x fun xv=>insertQ T t mv kv xv:=Eq.trans rfl rfl
@[push_cast] theorem evOpF_lookup {t m k ok} : evOpF T nid (.lookup t m k ok) = opd true m fun mv=>opd true k fun kv=>lookupQ T t mv kv ok:=Eq.trans rfl rfl
attribute [push_cast] insertQ lookupQ foundQ findA keysOk newKey zeroA zeroK
def pickF (a b : Operand) : AV → Q
  | .raw (.bool cb)=>cond cb (opd true a fun v=>.done v []) (opd true b fun v=>.done v [])
  | _=>.bad
@[push_cast] theorem evOpF_pick {x a b : Operand} : evOpF T nid (.pick x a b) = opd true x (pickF a b):=by
  simp only [evOpF]
  congr 1
attribute [push_cast] pickF
@[push_cast] theorem evOperF_none {ds : List (Option Nat)} {op : Op} {d : Option Nat} {ty : TypeId} {ps : String} {af : Array Edge} : evOperF T nid ds { dst:=d,op:=op,type:=ty,pos:=ps,after:=af,guard:=none } = evOpF T nid op:=Eq.trans rfl rfl
@[push_cast] theorem evOperF_some {ds : List (Option Nat)} {op : Op} {d : Option Nat} {ty : TypeId} {ps : String} {af : Array Edge} {j : Nat} {w : Bool} : evOperF T nid ds { dst:=d,op:=op,type:=ty,pos:=ps,after:=af,guard:=some (j,w) } = guardF T nid w op (ds.getD j none):=Eq.trans rfl rfl
attribute [push_cast] guardF St.lo_ AV.lo AV.lo1 AV.lo0 AObj.lo
@[congr] theorem evOperF_congr {d : List (Option Nat)} {o : Oper} : evOperF T nid d o = evOperF T nid d o:=rfl
@[congr] theorem evOpF_congr {n n' : Nat} {o : Op} (h : n = n') : evOpF T n o = evOpF T n' o:=by rw [h]
@[congr] theorem guardF_congr {n n' : Nat} {w : Bool} {o : Op} {d d' : Option Nat} (h : n = n') (h2 : d = d') : guardF T n w o d = guardF T n' w o d':=by rw [h,h2]
end
def Ax (x : UInt32) : List AV:=[.raw (.int .u32 (x.toNat : Int))]
def Ia0 (x : UInt8) : List AV:=[.raw (.int .u8 (x.toNat : Int))]
def Eb0 (x : UInt64) : List AV:=[.raw (.int .u64 (x.toNat : Int))]
def Ec (x : Int) : List AV:=[.raw (.int .i64 x)]
def Az (x : Bool) : List AV:=[.raw (.bool x)]
def Dg0 {α : Type} (f : α → List AV) (l : List α) : List AV:=[.sl false (l.map f)]
theorem uniU32 (l : List UInt32) : Uni 1 (l.map Ax):=Eu (f:=Ax) (fun _=>rfl)
theorem uniU8 (l : List UInt8) : Uni 1 (l.map Ia0):=Eu (f:=Ia0) (fun _=>rfl)
theorem uniU64 (l : List UInt64) : Uni 1 (l.map Eb0):=Eu (f:=Eb0) (fun _=>rfl)
theorem uniI64 (l : List Int) : Uni 1 (l.map Ec):=Eu (f:=Ec) (fun _=>rfl)
theorem uniBool (l : List Bool) : Uni 1 (l.map Az):=Eu (f:=Az) (fun _=>rfl)
theorem uniL {α : Type} (f : α → List AV) (l : List (List α)) : Uni 1 (l.map (Dg0 f)):=Eu (f:=Dg0 f) (fun _=>rfl)
attribute [push_cast] Ax Ia0 Eb0 Ec Az Dg0 uniU32 uniU8 uniU64 uniI64 uniBool uniL
structure A2 (α : Type) where
  a0 : α
  a1 : α
  deriving DecidableEq
structure A4 (α : Type) where
  a0 : α
  a1 : α
  a2 : α
  a3 : α
  deriving DecidableEq
def Jr0 {α : Type} (f : α → List AV) (a : A2 α) : List AV:=f a.a0 ++ f a.a1
def Js0 {α : Type} (f : α → List AV) (a : A4 α) : List AV:=f a.a0 ++ (f a.a1 ++ (f a.a2 ++ f a.a3))
attribute [push_cast] Jr0 Js0
theorem wrap32_add (x y : UInt32) : IntKind.u32.wrap ((x.toNat : Int) + (y.toNat : Int)) = ((x + y).toNat : Int):=by
  rw [IntKind.wrap_u32,UInt32.toNat_add]
  omega
theorem wrap32_sub (x y : UInt32) : IntKind.u32.wrap ((x.toNat : Int) - (y.toNat : Int)) = ((x - y).toNat : Int):=by
  rw [IntKind.wrap_u32,UInt32.toNat_sub]
  have:=x.toNat_lt
  have:=y.toNat_lt
  omega
theorem wrap32_mul (x y : UInt32) : IntKind.u32.wrap ((x.toNat : Int) * (y.toNat : Int)) = ((x * y).toNat : Int):=by
  rw [IntKind.wrap_u32,UInt32.toNat_mul,← Int.natCast_mul,Int.natCast_emod]
  rfl
theorem wrap32_of (n : Int) : IntKind.u32.wrap n = ((UInt32.ofInt n).toNat : Int):=by
  rw [IntKind.wrap_u32]
  show n % 4294967296 = (((n % 4294967296).toNat % 4294967296 : Nat) : Int)
  omega
theorem wrap64_32 (x : UInt32) : IntKind.i64.wrap (x.toNat : Int) = (x.toNat : Int):=by
  have:=x.toNat_lt
  exact wrap_i64 (by omega) (by omega)
theorem cast32_add (x y : UInt32) : ((x + y).toNat : Int) = IntKind.u32.wrap ((x.toNat : Int) + (y.toNat : Int)):=(wrap32_add x y).symm
theorem cast32_sub (x y : UInt32) : ((x - y).toNat : Int) = IntKind.u32.wrap ((x.toNat : Int) - (y.toNat : Int)):=(wrap32_sub x y).symm
theorem cast32_mul (x y : UInt32) : ((x * y).toNat : Int) = IntKind.u32.wrap ((x.toNat : Int) * (y.toNat : Int)):=(wrap32_mul x y).symm
theorem cast32_of (n : Int) : ((UInt32.ofInt n).toNat : Int) = IntKind.u32.wrap n:=(wrap32_of n).symm
theorem wrap64_mod (n : Int) : IntKind.u64.wrap n = n % 18446744073709551616:=by rw [IntKind.wrap_u64]
theorem wrap8_mod (n : Int) : IntKind.u8.wrap n = n % 256:=by rw [IntKind.wrap_u8]
theorem cast64_of (n : Int) : ((UInt64.ofInt n).toNat : Int) = IntKind.u64.wrap n:=by
  rw [wrap64_mod]
  show (((n % 18446744073709551616).toNat % 18446744073709551616 : Nat) : Int) = _
  omega
theorem cast8_of (n : Int) : ((UInt8.ofInt n).toNat : Int) = IntKind.u8.wrap n:=by
  rw [wrap8_mod]
  show (((n % 256).toNat % 256 : Nat) : Int) = _
  omega
theorem cast64_32 (x : UInt32) : (x.toUInt64.toNat : Int) = IntKind.u64.wrap (x.toNat : Int):=by
  rw [wrap64_mod,UInt32.toNat_toUInt64]
  have:=x.toNat_lt
  omega
theorem cast64_8 (x : UInt8) : (x.toUInt64.toNat : Int) = IntKind.u64.wrap (x.toNat : Int):=by
  rw [wrap64_mod,UInt8.toNat_toUInt64]
  have:=x.toNat_lt
  omega
theorem cast32_8 (x : UInt8) : (x.toUInt32.toNat : Int) = IntKind.u32.wrap (x.toNat : Int):=by
  rw [IntKind.wrap_u32,UInt8.toNat_toUInt32]
  have:=x.toNat_lt
  omega
theorem wrap64i_8 (x : UInt8) : IntKind.i64.wrap (x.toNat : Int) = (x.toNat : Int):=by
  have:=x.toNat_lt
  exact wrap_i64 (by omega) (by omega)
theorem cast64_add (x y : UInt64) : ((x + y).toNat : Int) = IntKind.u64.wrap ((x.toNat : Int) + (y.toNat : Int)):=by
  rw [wrap64_mod,UInt64.toNat_add]
  omega
theorem cast8_add (x y : UInt8) : ((x + y).toNat : Int) = IntKind.u8.wrap ((x.toNat : Int) + (y.toNat : Int)):=by
  rw [wrap8_mod,UInt8.toNat_add]
  omega
attribute [push_cast] cast64_of cast8_of cast64_32 cast64_8 cast32_8 wrap64i_8 cast64_add cast8_add
attribute [push_cast] cast32_add cast32_sub cast32_mul cast32_of wrap64_32
attribute [push_cast] AV.ren0 AV.ren1 AV.ren2 AV.ren3 AObj.ren renH swp AV.lend0 AV.lend1 take_map_len Nat.le_refl
theorem look_isSome_mem {H : Hp} {p : Nat × AObj} (h : p ∈ H) : (look H p.1).isSome = true:=by
  induction H with
  | nil=>cases h
  | cons q H ih=>
    obtain ⟨k,o⟩:=q
    simp only [look]
    split
    · rfl
    · rename_i hne
      rcases List.mem_cons.1 h with rfl | h
      · exact absurd rfl hne
      · exact ih h
section
variable {P : Program} {nid : Nat} {s : St} {K : List Ky → AV → Wr → Prop} {rs : List Ky}
theorem callHD {f : FuncId} {args : List AV} {H H' : Hp} {r : AV} (hc : Ctr P f args H r H') (hl : ∀ p ∈ H,look s.hp p.1 = some p.2) (ha : (args.all (AV.in3 H.has)) = true) (hi : (H.all fun p=>p.2.inD H.has) = true) (hh : (H'.all fun p=>H.has p.1 || p.1 == nid) = true) (h : K (H.map (fun p=>Ky.o p.1) ++ rs) r (callW H H')) : wpQD P nid s (.call none f args) rs K:=⟨H,r,H',hl,hc,ha,hi,hh,[],(fun _ h=>by cases h),h⟩
theorem callRD {f : FuncId} {args : List AV} {H H' : Hp} {r : AV} (hc : Ctr P f args H r H') (he : H' = H) (hl : ∀ p ∈ H,look s.hp p.1 = some p.2) (ha : (args.all (AV.in3 H.has)) = true) (hi : (H.all fun p=>p.2.inD H.has) = true) (h : K (H.map (fun p=>Ky.o p.1) ++ rs) r []) : wpQD P nid s (.call none f args) rs K:=by
  subst he
  refine ⟨H',r,H',hl,hc,ha,hi,?_,H'.map (·.1),(fun _ _=>rfl),?_⟩
  · rw [List.all_eq_true]
    intro p hp
    have:=look_isSome_mem hp
    simp [Hp.has,this]
  · rw [rmv_all]
    exact h
theorem callR {f : FuncId} {args : List AV} {H H' : Hp} {r : AV} {K : AV → Wr → Prop} (hc : Ctr P f args H r H') (he : H' = H) (hl : ∀ p ∈ H,look s.hp p.1 = some p.2) (ha : (args.all (AV.in3 H.has)) = true) (hi : (H.all fun p=>p.2.inD H.has) = true) (h : K r []) : wpQ P nid s (.call none f args) K:=by
  subst he
  refine ⟨H',r,H',hl,hc,ha,hi,?_,H'.map (·.1),(fun _ _=>rfl),?_⟩
  · rw [List.all_eq_true]
    intro p hp
    have:=look_isSome_mem hp
    simp [Hp.has,this]
  · rw [rmv_all]
    exact h
end
theorem ao {a b : Prop} (h : b) (ha : a:=by omega) : a ∧ b:=⟨ha,h⟩
theorem bt (b : Bool) : b = true ∨ b = false:=Bool.eq_false_or_eq_true b
def A2.get {α : Type} (a : A2 α) : Nat → α
  | 0=>a.a0
  | _=>a.a1
def A2.set {α : Type} (a : A2 α) (n : Nat) (v : α) : A2 α:=match n with
  | 0=>{ a with a0:=v }
  | 1=>{ a with a1:=v }
  | _=>a
theorem A2.cases {n : Nat} (h : n < 2) : n = 0 ∨ n = 1:=by omega
def A4.get {α : Type} (a : A4 α) : Nat → α
  | 0=>a.a0
  | 1=>a.a1
  | 2=>a.a2
  | _=>a.a3
def A4.set {α : Type} (a : A4 α) (n : Nat) (v : α) : A4 α:=match n with
  | 0=>{ a with a0:=v }
  | 1=>{ a with a1:=v }
  | 2=>{ a with a2:=v }
  | 3=>{ a with a3:=v }
  | _=>a
theorem A4.cases {n : Nat} (h : n < 4) : n = 0 ∨ n = 1 ∨ n = 2 ∨ n = 3:=by omega
structure A8 (α : Type) where
  a0 : α
  a1 : α
  a2 : α
  a3 : α
  a4 : α
  a5 : α
  a6 : α
  a7 : α
  deriving DecidableEq
def Oi {α : Type} (f : α → List AV) (a : A8 α) : List AV:=f a.a0 ++ (f a.a1 ++ (f a.a2 ++ (f a.a3 ++ (f a.a4 ++ (f a.a5 ++ (f a.a6 ++ (f a.a7)))))))
def A8.get {α : Type} (a : A8 α) : Nat → α
  | 0=>a.a0
  | 1=>a.a1
  | 2=>a.a2
  | 3=>a.a3
  | 4=>a.a4
  | 5=>a.a5
  | 6=>a.a6
  | _=>a.a7
def A8.set {α : Type} (a : A8 α) (n : Nat) (v : α) : A8 α:=match n with
  | 0=>{ a with a0:=v }
  | 1=>{ a with a1:=v }
  | 2=>{ a with a2:=v }
  | 3=>{ a with a3:=v }
  | 4=>{ a with a4:=v }
  | 5=>{ a with a5:=v }
  | 6=>{ a with a6:=v }
  | 7=>{ a with a7:=v }
  | _=>a
theorem A8.cases {n : Nat} (h : n < 8) : n = 0 ∨ n = 1 ∨ n = 2 ∨ n = 3 ∨ n = 4 ∨ n = 5 ∨ n = 6 ∨ n = 7:=by omega
structure A16 (α : Type) where
  a0 : α
  a1 : α
  a2 : α
  a3 : α
  a4 : α
  a5 : α
  a6 : α
  a7 : α
  a8 : α
  a9 : α
  a10 : α
  a11 : α
  a12 : α
  a13 : α
  a14 : α
  a15 : α
  deriving DecidableEq
def A16.get {α : Type} (a : A16 α) : Nat → α
  | 0=>a.a0
  | 1=>a.a1
  | 2=>a.a2
  | 3=>a.a3
  | 4=>a.a4
  | 5=>a.a5
  | 6=>a.a6
  | 7=>a.a7
  | 8=>a.a8
  | 9=>a.a9
  | 10=>a.a10
  | 11=>a.a11
  | 12=>a.a12
  | 13=>a.a13
  | 14=>a.a14
  | _=>a.a15
def A16.set {α : Type} (a : A16 α) (n : Nat) (v : α) : A16 α:=match n with
  | 0=>{ a with a0:=v }
  | 1=>{ a with a1:=v }
  | 2=>{ a with a2:=v }
  | 3=>{ a with a3:=v }
  | 4=>{ a with a4:=v }
  | 5=>{ a with a5:=v }
  | 6=>{ a with a6:=v }
  | 7=>{ a with a7:=v }
  | 8=>{ a with a8:=v }
  | 9=>{ a with a9:=v }
  | 10=>{ a with a10:=v }
  | 11=>{ a with a11:=v }
  | 12=>{ a with a12:=v }
  | 13=>{ a with a13:=v }
  | 14=>{ a with a14:=v }
  | 15=>{ a with a15:=v }
  | _=>a
theorem A16.cases {n : Nat} (h : n < 16) : n = 0 ∨ n = 1 ∨ n = 2 ∨ n = 3 ∨ n = 4 ∨ n = 5 ∨ n = 6 ∨ n = 7 ∨ n = 8 ∨ n = 9 ∨ n = 10 ∨ n = 11 ∨ n = 12 ∨ n = 13 ∨ n = 14 ∨ n = 15:=by omega
theorem drop_app {β : Type} {l m : List β} {k j : Nat} (h : l.length = k) : (l ++ m).drop (k + j) = m.drop j:=by
  subst h
  rw [List.drop_append]
  simp
theorem take_app {β : Type} {l m : List β} {k : Nat} (h : l.length = k) : (l ++ m).take k = l:=by
  subst h
  simp
theorem Jd0 {α : Type} {f : α → List AV} {k : Nat} (h : ∀ x,(f x).length = k) (a : A8 α) {n : Nat} (hn : n < 8) : ((Oi f a).drop (n * k)).take k = f (a.get n):=by
  have d : ∀ {l m : List AV} {j : Nat},l.length = k → (l ++ m).drop ((j + 1) * k) = m.drop (j * k):=fun {l m j} hl=>by
    rw [Nat.add_mul,Nat.one_mul,Nat.add_comm]
    exact drop_app hl
  unfold Oi
  rcases A8.cases hn with rfl | rfl | rfl | rfl | rfl | rfl | rfl | rfl
  · rw [Nat.zero_mul,List.drop_zero,take_app (h _)]; rfl
  · rw [d (h _),Nat.zero_mul,List.drop_zero,take_app (h _)]; rfl
  · rw [d (h _),d (h _),Nat.zero_mul,List.drop_zero,take_app (h _)]; rfl
  · rw [d (h _),d (h _),d (h _),Nat.zero_mul,List.drop_zero,take_app (h _)]; rfl
  · rw [d (h _),d (h _),d (h _),d (h _),Nat.zero_mul,List.drop_zero,take_app (h _)]; rfl
  · rw [d (h _),d (h _),d (h _),d (h _),d (h _),Nat.zero_mul,List.drop_zero,take_app (h _)]; rfl
  · rw [d (h _),d (h _),d (h _),d (h _),d (h _),d (h _),Nat.zero_mul,List.drop_zero,take_app (h _)]; rfl
  · rw [d (h _),d (h _),d (h _),d (h _),d (h _),d (h _),d (h _),Nat.zero_mul,List.drop_zero,List.take_of_length_le (by rw [h]; exact Nat.le_refl _)]; rfl
def shl32 (a : UInt32) (n : Int) : UInt32:=UInt32.ofInt ((a.toNat : Int) * 2 ^ min n.toNat 32)
def shr32 (a : UInt32) (n : Int) : UInt32:=UInt32.ofInt ((a.toNat : Int).fdiv (2 ^ min n.toNat 32))
def shl64 (a : UInt64) (n : Int) : UInt64:=UInt64.ofInt ((a.toNat : Int) * 2 ^ min n.toNat 64)
def shr64 (a : UInt64) (n : Int) : UInt64:=UInt64.ofInt ((a.toNat : Int).fdiv (2 ^ min n.toNat 64))
theorem cast_shl32 (a : UInt32) (n : Int) : ((shl32 a n).toNat : Int) = IntKind.u32.wrap ((a.toNat : Int) * 2 ^ min n.toNat IntKind.u32.bits):=cast32_of _
theorem cast_shl64 (a : UInt64) (n : Int) : ((shl64 a n).toNat : Int) = IntKind.u64.wrap ((a.toNat : Int) * 2 ^ min n.toNat IntKind.u64.bits):=cast64_of _
theorem fdiv_small {x p : Int} (h0 : 0 ≤ x) (hp : 0 < p) {m : Int} (hm : x < m) : 0 ≤ x.fdiv p ∧ x.fdiv p < m:=by
  rw [Int.fdiv_eq_ediv_of_nonneg _ (Int.le_of_lt hp)]
  exact ⟨Int.ediv_nonneg h0 (Int.le_of_lt hp),Int.lt_of_le_of_lt (Int.ediv_le_self _ h0) hm⟩
theorem two_pos (n : Nat) : (0 : Int) < 2 ^ n:=Int.pow_pos (by decide)
theorem cast_shr32 (a : UInt32) (n : Int) : ((shr32 a n).toNat : Int) = (a.toNat : Int).fdiv (2 ^ min n.toNat IntKind.u32.bits):=by
  show _ = (a.toNat : Int).fdiv (2 ^ min n.toNat 32)
  have hl:=a.toNat_lt
  obtain ⟨h1,h2⟩:=fdiv_small (x:=(a.toNat : Int)) (p:=2 ^ min n.toNat 32) (by omega) (two_pos _) (m:=4294967296) (by omega)
  rw [shr32,cast32_of,IntKind.wrap_u32]
  exact Int.emod_eq_of_lt h1 h2
theorem cast_shr64 (a : UInt64) (n : Int) : ((shr64 a n).toNat : Int) = (a.toNat : Int).fdiv (2 ^ min n.toNat IntKind.u64.bits):=by
  show _ = (a.toNat : Int).fdiv (2 ^ min n.toNat 64)
  have hl:=a.toNat_lt
  obtain ⟨h1,h2⟩:=fdiv_small (x:=(a.toNat : Int)) (p:=2 ^ min n.toNat 64) (by omega) (two_pos _) (m:=18446744073709551616) (by omega)
  rw [shr64,cast64_of,IntKind.wrap_u64]
  exact Int.emod_eq_of_lt h1 h2
theorem cast32_rem (x y : UInt32) : ((x % y).toNat : Int) = Int.tmod (x.toNat : Int) (y.toNat : Int):=by
  rw [UInt32.toNat_mod]
  rfl
theorem cast32_quo (x y : UInt32) : ((x / y).toNat : Int) = IntKind.u32.wrap (Int.tdiv (x.toNat : Int) (y.toNat : Int)):=by
  rw [UInt32.toNat_div,IntKind.wrap_u32]
  have h : Int.tdiv (x.toNat : Int) (y.toNat : Int) = ((x.toNat / y.toNat : Nat) : Int):=rfl
  have:=Nat.div_le_self x.toNat y.toNat
  have:=x.toNat_lt
  rw [h]
  have hq : x.toNat / y.toNat < 4294967296:=by omega
  generalize x.toNat / y.toNat = q at hq
  omega
theorem cast32_and (x y : UInt32) : ((x &&& y).toNat : Int) = IntKind.u32.wrap ((BitVec.ofInt IntKind.u32.bits (x.toNat : Int) &&& BitVec.ofInt IntKind.u32.bits (y.toNat : Int)).toNat : Int):=by
  rw [IntKind.wrap_u32]
  show _ = ((BitVec.ofInt 32 (x.toNat : Int) &&& BitVec.ofInt 32 (y.toNat : Int)).toNat : Int) % 4294967296
  have : (BitVec.ofInt 32 (x.toNat : Int) &&& BitVec.ofInt 32 (y.toNat : Int)).toNat = (x &&& y).toNat:=by
    simp [BitVec.toNat_and,UInt32.toNat_and]
  rw [this]
  have:=(x &&& y).toNat_lt
  omega
theorem cast32_or (x y : UInt32) : ((x ||| y).toNat : Int) = IntKind.u32.wrap ((BitVec.ofInt IntKind.u32.bits (x.toNat : Int) ||| BitVec.ofInt IntKind.u32.bits (y.toNat : Int)).toNat : Int):=by
  rw [IntKind.wrap_u32]
  show _ = ((BitVec.ofInt 32 (x.toNat : Int) ||| BitVec.ofInt 32 (y.toNat : Int)).toNat : Int) % 4294967296
  have : (BitVec.ofInt 32 (x.toNat : Int) ||| BitVec.ofInt 32 (y.toNat : Int)).toNat = (x ||| y).toNat:=by
    simp [BitVec.toNat_or,UInt32.toNat_or]
  rw [this]
  have:=(x ||| y).toNat_lt
  omega
theorem cast32_xor (x y : UInt32) : ((x ^^^ y).toNat : Int) = IntKind.u32.wrap ((BitVec.ofInt IntKind.u32.bits (x.toNat : Int) ^^^ BitVec.ofInt IntKind.u32.bits (y.toNat : Int)).toNat : Int):=by
  rw [IntKind.wrap_u32]
  show _ = ((BitVec.ofInt 32 (x.toNat : Int) ^^^ BitVec.ofInt 32 (y.toNat : Int)).toNat : Int) % 4294967296
  have : (BitVec.ofInt 32 (x.toNat : Int) ^^^ BitVec.ofInt 32 (y.toNat : Int)).toNat = (x ^^^ y).toNat:=by
    simp [BitVec.toNat_xor,UInt32.toNat_xor]
  rw [this]
  have:=(x ^^^ y).toNat_lt
  omega
theorem tmod_nn (x : UInt32) (k : Int) : (0 ≤ Int.tmod (x.toNat : Int) k) = True:=eq_true (Int.tmod_nonneg _ (Int.natCast_nonneg _))
theorem tmod_nn64 (x : UInt64) (k : Int) : (0 ≤ Int.tmod (x.toNat : Int) k) = True:=eq_true (Int.tmod_nonneg _ (Int.natCast_nonneg _))
attribute [push_cast] tmod_nn tmod_nn64 Nat.mul_one Nat.zero_add
attribute [push_cast] cast32_and cast32_or cast32_xor cast32_rem cast32_quo cast_shl32 cast_shr32 cast_shl64 cast_shr64
def AV.dull0 : AV → AV
  | .raw v=>.raw v
  | _=>.dead
def AV.dull1 : AV → AV
  | .agg cs=>.agg (cs.map AV.dull0)
  | v=>v.dull0
def AV.dull : AV → AV
  | .tup vs=>.tup (vs.map AV.dull1)
  | v=>v.dull1
def AV.isRaw : AV → Bool
  | .raw _=>true
  | _=>false
theorem VRel.dull0 {w : World} {x x2 : Cx} {hp hp2 : Hp} {u : AV} {v : Value} (hv : VRel w x hp u v) : VRel w x2 hp2 u.dull0 v:=by
  unfold AV.dull0
  split
  · have e:=hv.rawEq
    subst e
    exact .raw _
  · exact .dead _
theorem VRel.dull1 {w : World} {x x2 : Cx} {hp hp2 : Hp} {u : AV} {v : Value} (hv : VRel w x hp u v) : VRel w x2 hp2 u.dull1 v:=by
  unfold AV.dull1
  split
  · cases hv with
    | dat hd=>cases hd
    | agg cs vs hl h1 h2=>
      refine .agg _ vs (by simpa using hl) h1 fun i u hu=>?_
      obtain ⟨a,ha,rfl⟩:=map_at hu
      exact (h2 i a ha).dull0
  · exact hv.dull0
theorem VRel.dull {w : World} {x x2 : Cx} {hp hp2 : Hp} {u : AV} {v : Value} (hv : VRel w x hp u v) : VRel w x2 hp2 u.dull v:=by
  unfold AV.dull
  split
  · cases hv with
    | dat hd=>cases hd
    | tup cs vs hl h2=>
      refine .tup _ vs (by simpa using hl) fun i u hu=>?_
      obtain ⟨a,ha,rfl⟩:=map_at hu
      exact (h2 i a ha).dull1
  · exact hv.dull1
def AV.lendb0 (H : Hp) : AV → AV
  | .bsl id off n=>match look H id with
    | some (.box _ cs)=>if off + n ≤ cs.length ∧ cs.all AV.isRaw = true then .sl false (((cs.drop off).take n).map fun v=>[v]) else .dead
    | _=>.dead
  | .rsl id g sz i off n=>match look H id with
    | some (.row _ sz' g' els)=>if g = g' ∧ sz = sz' ∧ i < els.length ∧ off + n ≤ sz then .sl false ((((els.getD i []).drop off).take n).map fun v=>[v]) else .dead
    | _=>.dead
  | v=>v.lend0 H
def AV.lendb1 (H : Hp) : AV → AV
  | .agg cs=>.agg (cs.map (AV.lend0 H))
  | v=>v.lendb0 H
theorem VRel.lendb0 (P : Program) {w : World} {x : Cx} {H : Hp} (h : HRel w x H) {u : AV} {v : Value} (hv : VRel w x H u v) : VRel w (x.lent H) [] (u.lendb0 H) v:=by
  unfold AV.lendb0
  split
  · rename_i id off n
    split
    · rename_i t cs hl
      split
      · rename_i hc
        obtain ⟨hle,hraw⟩:=hc
        cases hv with
        | dat hd=>cases hd
        | bsl _ _ _ A c hid hcn hm hlive=>
          obtain ⟨b,vs,e1,e2,e3,e4,e5⟩:=h.obj id _ hl
          have hlen : (((cs.drop off).take n).map fun v=>[v]).length = n:=by
            simp only [List.length_map,List.length_take,List.length_drop]
            omega
          have get : ∀ (i : Nat) (ds : List AV),(((cs.drop off).take n).map fun v=>[v])[i]? = some ds → i < n ∧ ∃ u,ds = [u] ∧ cs[off + i]? = some u ∧ ((cs.drop off).take n)[i]? = some u:=fun i ds hi=>by
            obtain ⟨u,hu,rfl⟩:=map_at hi
            have hi2 : i < n:=by
              have:=(List.getElem?_eq_some_iff.1 hu).1
              simp only [List.length_take] at this
              omega
            refine ⟨hi2,u,rfl,?_,hu⟩
            rw [List.getElem?_take,if_pos hi2,List.getElem?_drop] at hu
            exact hu
          have hA : n = 0 ∨ A = some ⟨b,off,none⟩:=by
            rcases hlive ⟨t,cs,hl⟩ with h0 | ⟨b',q1,q2⟩
            · exact .inl h0
            · rw [e1] at q1
              injection q1 with q1
              subst q1
              exact .inr q2
          have key : Dat w (x.lent H).ok (.sl false (((cs.drop off).take n).map fun v=>[v])) (.slice A (((cs.drop off).take n).map fun v=>[v]).length c):=by
            refine .sl false _ A c 1 (fun i _=>vs.getD (off + i) undef) (by rw [hlen]; exact hcn) hm (fun q=>by cases q) (fun i ds hi=>?_) (fun i ds hi=>?_) (fun i j ds a hi hj ha=>?_) (fun i j ds u hi hj=>?_)
            · obtain ⟨_,u,rfl,_⟩:=get i ds hi
              rfl
            · obtain ⟨hin,_⟩:=get i ds hi
              rcases hA with h0 | h0
              · omega
              · exact ⟨_,h0,.inr ⟨id,_,hl,e1⟩⟩
            · obtain ⟨hin,u,rfl,hu,_⟩:=get i ds hi
              have hlt:=(List.getElem?_eq_some_iff.1 hu).1
              rcases hA with h0 | h0
              · omega
              · rw [ha] at h0
                injection h0 with h0
                subst h0
                rw [show i * 1 + j = i by omega]
                exact ⟨cell_getD e2 (by omega),e4 _ (by omega)⟩
            · obtain ⟨hin,u',rfl,hu,hu2⟩:=get i ds hi
              have hr:=all_at hraw hu
              cases j with
              | succ j=>simp at hj
              | zero=>
                simp only [List.getElem?_cons_zero,Option.some.injEq] at hj
                subst hj
                have h6:=e5 _ _ hu
                unfold AV.isRaw at hr
                split at hr
                · have e:=h6.rawEq
                  show Dat w _ _ (vs.getD (off + i) undef)
                  rw [e]
                  exact .raw _
                · cases hr
          rw [hlen] at key
          exact .dat key
      · exact .dead _
    · exact .dead _
  · rename_i id g sz i off n
    split
    · rename_i t sz' g' els hl
      split
      · rename_i hc
        obtain ⟨rfl,rfl,hlt,hle⟩:=hc
        cases hv with
        | dat hd=>cases hd
        | rsl _ _ _ _ _ _ A c hid hcn hm hlive=>
          obtain ⟨e0,e1⟩:=h.obj id _ hl
          have hin:=getD_some (d:=[]) hlt
          have hel:=e0 _ _ hin
          rcases e1 with ⟨_,rfl⟩ | ⟨b,vs,e1,e2,e3,e4,e5,e6,e7⟩
          · simp at hlt
          have hlen : ((((els.getD i []).drop off).take n).map fun v=>[v]).length = n:=by
            simp only [List.length_map,List.length_take,List.length_drop]
            omega
          have hb : ∀ j,j < n → i * sz + off + j < vs.size:=fun j hj=>by
            rw [e3,Nat.add_assoc]
            exact mul_lt_of (by omega) (by omega)
          have get : ∀ (k : Nat) (ds : List AV),((((els.getD i []).drop off).take n).map fun v=>[v])[k]? = some ds → k < n ∧ ∃ u,ds = [u] ∧ (els.getD i [])[off + k]? = some u:=fun k ds hi=>by
            obtain ⟨u,hu,rfl⟩:=map_at hi
            have hi2 : k < n:=by
              have:=(List.getElem?_eq_some_iff.1 hu).1
              simp only [List.length_take] at this
              omega
            refine ⟨hi2,u,rfl,?_⟩
            rw [List.getElem?_take,if_pos hi2,List.getElem?_drop] at hu
            exact hu
          have hA : n = 0 ∨ A = some ⟨b,i * sz + off,none⟩:=by
            rcases hlive ⟨t,els,hl⟩ with h0 | ⟨b',q1,q2⟩
            · exact .inl h0
            · rw [e1] at q1
              injection q1 with q1
              subst q1
              exact .inr q2
          have key : Dat w (x.lent H).ok (.sl false ((((els.getD i []).drop off).take n).map fun v=>[v])) (.slice A ((((els.getD i []).drop off).take n).map fun v=>[v]).length c):=by
            refine .sl false _ A c 1 (fun k _=>vs.getD (i * sz + off + k) undef) (by rw [hlen]; exact hcn) hm (fun q=>by cases q) (fun k ds hi=>?_) (fun k ds hi=>?_) (fun k j ds a hi hj ha=>?_) (fun k j ds u hi hj=>?_)
            · obtain ⟨_,u,rfl,_⟩:=get k ds hi
              rfl
            · obtain ⟨hin,_⟩:=get k ds hi
              rcases hA with h0 | h0
              · omega
              · exact ⟨_,h0,.inr ⟨id,_,hl,e1⟩⟩
            · obtain ⟨hin,u,rfl,hu⟩:=get k ds hi
              rcases hA with h0 | h0
              · omega
              · rw [ha] at h0
                injection h0 with h0
                subst h0
                rw [show k * 1 + j = k by omega]
                exact ⟨cell_getD e2 (hb k hin),e6 _ (hb k hin)⟩
            · obtain ⟨hin2,u',rfl,hu⟩:=get k ds hi
              cases j with
              | succ j=>simp at hj
              | zero=>
                simp only [List.getElem?_cons_zero,Option.some.injEq] at hj
                subst hj
                have h6:=e7 i (off + k) _ _ hin hu
                rw [Nat.add_assoc]
                exact h6.mono (fun b hb=>.inl hb) (fun _ _=>rfl)
          rw [hlen] at key
          exact .dat key
      · exact .dead _
    · exact .dead _
  · exact hv.lend0 P h
theorem VRel.lendb1 (P : Program) {w : World} {x : Cx} {H : Hp} (h : HRel w x H) {u : AV} {v : Value} (hv : VRel w x H u v) : VRel w (x.lent H) [] (u.lendb1 H) v:=by
  unfold AV.lendb1
  split
  · cases hv with
    | dat hd=>cases hd
    | agg cs vs hl h1 h2=>
      refine .agg _ vs (by simpa using hl) h1 fun i u hu=>?_
      obtain ⟨a,ha,rfl⟩:=map_at hu
      exact (h2 i a ha).lend0 P h
  · exact hv.lendb0 P h
attribute [push_cast] AV.dull AV.dull1 AV.dull0 AV.lendb0 AV.lendb1 AV.isRaw List.all_cons List.all_nil
def AV.keep0 : AV → AV
  | .raw v=>.raw v
  | .row id g sz lo n=>.row id g sz lo n
  | _=>.dead
def AV.keepR : AV → AV
  | .tup vs=>.tup (vs.map AV.keep0)
  | v=>v.keep0
def AObj.rawy : AObj → Prop
  | .row _ _ _ els=>∀ cs,cs ∈ els → ∀ u,u ∈ cs → u.isRaw = true
  | _=>False
theorem VRel.keep0 {w : World} {x x2 : Cx} {hp hp2 : Hp} {u : AV} {v : Value} (hv : VRel w x hp u v)
    (hd : ∀ id g,x.dom id g → x2.dom id g) (hr : ∀ id g sz,x.dom id g → rowL hp2 id g sz → rowL hp id g sz ∧ x2.β id = x.β id ∧ x2.γ id = x.γ id) : VRel w x2 hp2 u.keep0 v:=by
  unfold AV.keep0
  split
  · have e:=hv.rawEq
    subst e
    exact .raw _
  · cases hv with
    | dat hd=>cases hd
    | row id g sz lo n A c hid hc h=>
      refine .row _ _ _ _ _ _ _ (hd _ _ hid) hc fun hb=>?_
      obtain ⟨h2,h3,h4⟩:=hr _ _ _ hid hb
      refine (h h2).imp (fun ⟨a,b,c⟩=>⟨a,b,by rw [h4]; exact c⟩) ?_
      rintro ⟨b,e4,e5,e6⟩
      exact ⟨b,h3.trans e4,e5,by rw [h4]; exact e6⟩
  · exact .dead _
theorem VRel.keepR {w : World} {x x2 : Cx} {hp hp2 : Hp} {u : AV} {v : Value} (hv : VRel w x hp u v)
    (hd : ∀ id g,x.dom id g → x2.dom id g) (hr : ∀ id g sz,x.dom id g → rowL hp2 id g sz → rowL hp id g sz ∧ x2.β id = x.β id ∧ x2.γ id = x.γ id) : VRel w x2 hp2 u.keepR v:=by
  unfold AV.keepR
  split
  · cases hv with
    | dat hd=>cases hd
    | tup cs vs hl h2=>
      refine .tup _ vs (by simpa using hl) fun i u hu=>?_
      obtain ⟨a,ha,rfl⟩:=map_at hu
      exact (h2 i a ha).keep0 hd hr
  · exact hv.keep0 hd hr
attribute [push_cast] AV.keepR AV.keep0 AObj.rawy
theorem Sub.up {s : St} {b j id g sz lo n : Nat} {t rt : TypeId} {cs : List AV} {els : List (List AV)} (g' : Nat) (hb : look s.hp b = some (.box t cs)) (hj : cs[j]? = some (.row id g sz lo n)) (hr : look s.hp id = some (.row rt sz g els)) (hg : g < g') :
    Sub s { s with hp:=Cb b (.box t (cs.set j (.row id g' sz lo n))) (Cb id (.row rt sz g' els) s.hp) }:=fun B a w ⟨x,hC⟩=>by
  have hne : b ≠ id:=fun e=>by rw [e,hr] at hb; cases hb
  have hd0 : ∀ k h,(x.put id g' (x.β id) (x.γ id)).dom k h → x.dom k h ∨ (k = id ∧ h = g'):=fun k h hd=>by
    rcases hd with hd | ⟨rfl,hd | hd⟩
    · exact .inl hd
    · subst hd
      exact .inl (hC.h.dom _ _ hr)
    · exact .inr ⟨rfl,hd⟩
  have β0 : ∀ k,(x.put id g' (x.β id) (x.γ id)).β k = x.β k:=fun k=>by
    show (if k = id then x.β id else x.β k) = x.β k
    split
    · rename_i e; rw [e]
    · rfl
  have γ0 : ∀ k,(x.put id g' (x.β id) (x.γ id)).γ k = x.γ k:=fun k=>by
    show (if k = id then x.γ id else x.γ k) = x.γ k
    split
    · rename_i e; rw [e]
    · rfl
  have st:=Stp.chg (w':=w) (x':=x.put id g' (x.β id) (x.γ id)) hC.h hr (.row rt sz g' els) rfl rfl rfl (Nat.le_refl _) (fun _ _ _=>rfl) rfl (fun _ _ h=>.inl h) hd0 (fun k _=>β0 k) (fun k _=>γ0 k)
    (fun bb h=>by
      rw [β0] at h
      exact ⟨.inl h,(hC.h.liv id _ bb hr h).1⟩) (fun _ _ e=>by cases e)
    (fun t1 sz1 g1 els1 e=>by
      cases e
      refine ⟨.inr ⟨rfl,.inr rfl⟩,fun g2 h2=>?_,fun h2=>?_⟩
      · have:=hC.h.gen id _ _ _ _ g2 hr h2
        omega
      · have:=hC.h.gen id _ _ _ _ g' hr h2
        omega) (fun _ _ e=>by cases e)
    (fun m=>by
      obtain ⟨h1,h2⟩:=hC.h.obj id _ hr
      refine ⟨h1,?_⟩
      rw [β0,γ0]
      exact h2)
  obtain ⟨bb,vs,e1,e2,e3,e4,e5⟩:=hC.h.obj b _ hb
  have hb' : look (Cb id (.row rt sz g' els) s.hp) b = some (.box t cs):=by rw [look_setA,if_neg hne]; exact hb
  have hval:=e5 j _ hj
  have hlk : look (Cb id (AObj.row rt sz g' els) s.hp) id = some (.row rt sz g' els):=by rw [look_setA,if_pos rfl]
  have hnew : VRel w (x.put id g' (x.β id) (x.γ id)) (Cb id (.row rt sz g' els) s.hp) (.row id g' sz lo n) (vs.getD j undef):=by
    generalize vs.getD j undef = v at hval
    cases hval with
    | dat h=>cases h
    | row _ _ _ _ _ A c hid hc hh=>
      refine .row _ _ _ _ _ A c (.inr ⟨rfl,.inr rfl⟩) hc fun _=>?_
      rw [β0,γ0]
      exact hh ⟨_,_,hr⟩
  have st2:=Stp.boxSet st.h hb' (by rw [β0]; exact e1) e2 (cs':=cs.set j (.row id g' sz lo n)) (vs':=vs) (by simpa using e3) e4 (fun i u hu=>by
    rw [List.getElem?_set] at hu
    split at hu
    · rename_i e
      subst e
      rw [if_pos (lt_of_get hj)] at hu
      injection hu with hu
      subst hu
      exact hnew
    · exact (e5 i u hu).mono st.mo)
  rw [setRow_self w bb vs t (0,0) e2] at st2
  have st3:=st.trans st2
  refine ⟨_,st3.h,fun t u ht=>(hC.t t u ht).mono st3.mo,hC.n,hC.d,hC.tr.trans st3.tr,hC.mo.trans st3.mo,hC.lo,hC.ln,fun k h hd=>?_⟩
  rcases hd0 k h hd with hd | ⟨rfl,_⟩
  · exact hC.dom k h hd
  · exact hC.dom _ _ (hC.h.dom _ _ hr)
abbrev F64:=Nat
structure C128 where
  re : F64
  im : F64
  deriving DecidableEq
def Jq0 (x : F64) : List AV:=[.raw (.float .f64 x)]
def Yx (c : C128) : List AV:=[.raw (.complex .f64 c.re c.im)]
theorem C128.eta_ (c : C128) : C128.mk c.re c.im = c:=Eq.trans rfl rfl
def feq (x y : F64) : Bool:=FloatKind.f64.format.order x y == some .eq
def fne (x y : F64) : Bool:=FloatKind.f64.format.order x y != some .eq
def flt (x y : F64) : Bool:=FloatKind.f64.format.order x y == some .lt
def fle (x y : F64) : Bool:=FloatKind.f64.format.order x y == some .lt || FloatKind.f64.format.order x y == some .eq
def fgt (x y : F64) : Bool:=FloatKind.f64.format.order x y == some .gt
def fge (x y : F64) : Bool:=FloatKind.f64.format.order x y == some .gt || FloatKind.f64.format.order x y == some .eq
def ceq (a b : C128) : Bool:=Op.floatEq .f64 a.re b.re && Op.floatEq .f64 a.im b.im
theorem fltCmp_eql (x y : Nat) : fltCmp .eql x y = some (feq x y):=Eq.trans rfl rfl
theorem fltCmp_neq (x y : Nat) : fltCmp .neq x y = some (fne x y):=Eq.trans rfl rfl
theorem fltCmp_lss (x y : Nat) : fltCmp .lss x y = some (flt x y):=Eq.trans rfl rfl
theorem fltCmp_leq (x y : Nat) : fltCmp .leq x y = some (fle x y):=Eq.trans rfl rfl
theorem fltCmp_gtr (x y : Nat) : fltCmp .gtr x y = some (fgt x y):=Eq.trans rfl rfl
theorem fltCmp_geq (x y : Nat) : fltCmp .geq x y = some (fge x y):=Eq.trans rfl rfl
theorem ceq_of (x y x' y' : Nat) : (Op.floatEq .f64 x x' && Op.floatEq .f64 y y') = ceq ⟨x,y⟩ ⟨x',y'⟩:=Eq.trans rfl rfl
def i2f (n : Int) : F64:=FloatKind.f64.nearest n
theorem i2f_of (n : Int) : FloatKind.f64.nearest n = i2f n:=Eq.trans rfl rfl
def f2u (b : F64) : Option UInt64:=(f2i b .u64).map fun n=>UInt64.ofInt n
theorem f2u_some {b : F64} {r : UInt64} (h : f2u b = some r) : f2i b .u64 = some (r.toNat : Int):=by
  unfold f2u at h
  cases hq : f2i b .u64 with
  | none=>rw [hq] at h; cases h
  | some n=>
    rw [hq] at h
    simp only [Option.map_some,Option.some.injEq] at h
    subst h
    have hr : IntKind.min .u64 ≤ n ∧ n ≤ IntKind.max .u64:=by
      unfold f2i at hq
      split at hq
      · split at hq
        · injection hq with hq
          subst hq
          assumption
        · cases hq
      · cases hq
    have h1 : (0 : Int) ≤ n:=by
      have:=hr.1
      have e : IntKind.min .u64 = 0:=by decide
      omega
    have h2 : n < 18446744073709551616:=by
      have:=hr.2
      have e : IntKind.max .u64 = 18446744073709551615:=by decide
      omega
    congr 1
    have : (UInt64.ofInt n).toNat = n.toNat:=by
      unfold UInt64.ofInt
      rw [UInt64.toNat_ofNat']
      omega
    omega
def minI (a b : Int) : Int:=if b < a then b else a
def maxI (a b : Int) : Int:=if b > a then b else a
def min32 (a b : UInt32) : UInt32:=if b < a then b else a
def max32 (a b : UInt32) : UInt32:=if b > a then b else a
def min64 (a b : UInt64) : UInt64:=if b < a then b else a
def max64 (a b : UInt64) : UInt64:=if b > a then b else a
theorem min32_of (a b : UInt32) : (if (b.toNat : Int) < (a.toNat : Int) then (b.toNat : Int) else (a.toNat : Int)) = ((min32 a b).toNat : Int):=by
  unfold min32
  have : ((b.toNat : Int) < (a.toNat : Int)) ↔ b < a:=by rw [UInt32.lt_iff_toNat_lt]; omega
  by_cases h : b < a
  · rw [if_pos (this.2 h),if_pos h]
  · rw [if_neg (fun q=>h (this.1 q)),if_neg h]
theorem max32_of (a b : UInt32) : (if (b.toNat : Int) > (a.toNat : Int) then (b.toNat : Int) else (a.toNat : Int)) = ((max32 a b).toNat : Int):=by
  unfold max32
  have : ((b.toNat : Int) > (a.toNat : Int)) ↔ b > a:=by show _ ↔ a < b; rw [UInt32.lt_iff_toNat_lt]; omega
  by_cases h : b > a
  · rw [if_pos (this.2 h),if_pos h]
  · rw [if_neg (fun q=>h (this.1 q)),if_neg h]
theorem min64_of (a b : UInt64) : (if (b.toNat : Int) < (a.toNat : Int) then (b.toNat : Int) else (a.toNat : Int)) = ((min64 a b).toNat : Int):=by
  unfold min64
  have : ((b.toNat : Int) < (a.toNat : Int)) ↔ b < a:=by rw [UInt64.lt_iff_toNat_lt]; omega
  by_cases h : b < a
  · rw [if_pos (this.2 h),if_pos h]
  · rw [if_neg (fun q=>h (this.1 q)),if_neg h]
theorem max64_of (a b : UInt64) : (if (b.toNat : Int) > (a.toNat : Int) then (b.toNat : Int) else (a.toNat : Int)) = ((max64 a b).toNat : Int):=by
  unfold max64
  have : ((b.toNat : Int) > (a.toNat : Int)) ↔ b > a:=by show _ ↔ a < b; rw [UInt64.lt_iff_toNat_lt]; omega
  by_cases h : b > a
  · rw [if_pos (this.2 h),if_pos h]
  · rw [if_neg (fun q=>h (this.1 q)),if_neg h]
attribute [push_cast] Jq0 Yx C128.eta_ fltCmp_eql fltCmp_neq fltCmp_lss fltCmp_leq fltCmp_gtr fltCmp_geq ceq_of i2f_of
structure Eh0 where
  Id : Int
  At : Int
  W : (List UInt64)
  deriving DecidableEq
def Xo (t : Eh0) : List AV:=[.raw (.int .i64 t.Id),.raw (.int .i64 t.At),.sl false (t.W.map Eb0)]
theorem Ix0 (l : List Eh0) : Uni 3 (l.map Xo):=Eu (f:=Xo) (fun _=>rfl)
attribute [push_cast] Xo Ix0
structure Jg0 where
  Cap : Int
  L : (List Eh0)
  deriving DecidableEq
def Ek0 (t : Jg0) : List AV:=[.raw (.int .i64 t.Cap),.sl false (t.L.map Xo)]
theorem Jl0 (l : List Jg0) : Uni 2 (l.map Ek0):=Eu (f:=Ek0) (fun _=>rfl)
attribute [push_cast] Ek0 Jl0
structure Ar where
  Kind : Int
  Cap : Int
  Words : Int
  Ver : Int
  deriving DecidableEq
def Ai (t : Ar) : List AV:=[.raw (.int .i64 t.Kind),.raw (.int .i64 t.Cap),.raw (.int .i64 t.Words),.raw (.int .i64 t.Ver)]
theorem Hy0 (l : List Ar) : Uni 4 (l.map Ai):=Eu (f:=Ai) (fun _=>rfl)
attribute [push_cast] Ai Hy0
structure Bd where
  Key : UInt32
  V : (List UInt32)
  deriving DecidableEq
def Av (t : Bd) : List AV:=[.raw (.int .u32 (t.Key.toNat : Int)),.sl false (t.V.map Ax)]
theorem Iv0 (l : List Bd) : Uni 2 (l.map Av):=Eu (f:=Av) (fun _=>rfl)
attribute [push_cast] Av Iv0
structure Ap where
  S : Ar
  E : (List Bd)
  Next : UInt32
  deriving DecidableEq
def Bb (t : Ap) : List AV:=[.raw (.int .i64 t.S.Kind),.raw (.int .i64 t.S.Cap),.raw (.int .i64 t.S.Words),.raw (.int .i64 t.S.Ver),.sl false (t.E.map Av),.raw (.int .u32 (t.Next.toNat : Int))]
theorem Iw0 (l : List Ap) : Uni 6 (l.map Bb):=Eu (f:=Bb) (fun _=>rfl)
attribute [push_cast] Bb Iw0
structure Bf where
  Ctx : (A4 UInt32)
  T : (List Ap)
  Seed : UInt32
  deriving DecidableEq
def Uh (t : Bf) : List AV:=[.raw (.int .u32 (t.Ctx.a0.toNat : Int)),.raw (.int .u32 (t.Ctx.a1.toNat : Int)),.raw (.int .u32 (t.Ctx.a2.toNat : Int)),.raw (.int .u32 (t.Ctx.a3.toNat : Int)),.sl false (t.T.map Bb),.raw (.int .u32 (t.Seed.toNat : Int))]
theorem Jo0 (l : List Bf) : Uni 6 (l.map Uh):=Eu (f:=Uh) (fun _=>rfl)
attribute [push_cast] Uh Jo0
structure Am where
  Op : Int
  Fn : Int
  Dst : Int
  Src : Int
  Reg : Bool
  Off : Int
  Imm : UInt32
  deriving DecidableEq
def Aw (t : Am) : List AV:=[.raw (.int .i64 t.Op),.raw (.int .i64 t.Fn),.raw (.int .i64 t.Dst),.raw (.int .i64 t.Src),.raw (.bool t.Reg),.raw (.int .i64 t.Off),.raw (.int .u32 (t.Imm.toNat : Int))]
theorem Jc0 (l : List Am) : Uni 7 (l.map Aw):=Eu (f:=Aw) (fun _=>rfl)
attribute [push_cast] Aw Jc0
structure Dp where
  Back : Int
  R : (A8 UInt32)
  S : (A16 UInt32)
  deriving DecidableEq
def Bv (t : Dp) : List AV:=[.raw (.int .i64 t.Back),.raw (.int .u32 (t.R.a0.toNat : Int)),.raw (.int .u32 (t.R.a1.toNat : Int)),.raw (.int .u32 (t.R.a2.toNat : Int)),.raw (.int .u32 (t.R.a3.toNat : Int)),.raw (.int .u32 (t.R.a4.toNat : Int)),.raw (.int .u32 (t.R.a5.toNat : Int)),.raw (.int .u32 (t.R.a6.toNat : Int)),.raw (.int .u32 (t.R.a7.toNat : Int)),.raw (.int .u32 (t.S.a0.toNat : Int)),.raw (.int .u32 (t.S.a1.toNat : Int)),.raw (.int .u32 (t.S.a2.toNat : Int)),.raw (.int .u32 (t.S.a3.toNat : Int)),.raw (.int .u32 (t.S.a4.toNat : Int)),.raw (.int .u32 (t.S.a5.toNat : Int)),.raw (.int .u32 (t.S.a6.toNat : Int)),.raw (.int .u32 (t.S.a7.toNat : Int)),.raw (.int .u32 (t.S.a8.toNat : Int)),.raw (.int .u32 (t.S.a9.toNat : Int)),.raw (.int .u32 (t.S.a10.toNat : Int)),.raw (.int .u32 (t.S.a11.toNat : Int)),.raw (.int .u32 (t.S.a12.toNat : Int)),.raw (.int .u32 (t.S.a13.toNat : Int)),.raw (.int .u32 (t.S.a14.toNat : Int)),.raw (.int .u32 (t.S.a15.toNat : Int))]
theorem He0 (t : Dp) : (Bv t).length = 25:=rfl
theorem Ii0 (t : Dp) : List.take 25 (Bv t) = Bv t:=rfl
theorem Ie0 (t : Dp) : (Bv t).map AV.lo0 = Bv t:=rfl
theorem Hc0 (t : Dp) (π : Nat → Nat) : (Bv t).map (AV.ren1 π) = Bv t:=rfl
theorem Ir0 (t : Dp) (d : Nat → Bool) : (Bv t).all (AV.in1 d) = true:=by simp [Bv,AV.in1,AV.in0]
theorem Fv0 (t : Dp) (H : Hp) : (Bv t).map (AV.lend0 H) = Bv t:=rfl
theorem Ji0 (l : List Dp) : Uni 25 (l.map Bv):=Eu (f:=Bv) (fun _=>rfl)
theorem Im0 (t : Dp) : (Bv t)[0]? = some (.raw (.int .i64 t.Back)):=rfl
theorem Ip0 (t : Dp) (v : Int) : (Bv t).set 0 (.raw (.int .i64 v)) = Bv ({ t with Back:=v }):=rfl
theorem In0 (t : Dp) : (Bv t)[1]? = some (.raw (.int .u32 (t.R.a0.toNat : Int))):=rfl
theorem Ic0 (t : Dp) : (Bv t)[2]? = some (.raw (.int .u32 (t.R.a1.toNat : Int))):=rfl
theorem Id0 (t : Dp) : (Bv t)[3]? = some (.raw (.int .u32 (t.R.a2.toNat : Int))):=rfl
theorem Ik0 (t : Dp) : (Bv t)[4]? = some (.raw (.int .u32 (t.R.a3.toNat : Int))):=rfl
theorem Ib0 (t : Dp) : (Bv t)[5]? = some (.raw (.int .u32 (t.R.a4.toNat : Int))):=rfl
theorem If0 (t : Dp) : (Bv t)[6]? = some (.raw (.int .u32 (t.R.a5.toNat : Int))):=rfl
theorem Hz0 (t : Dp) : (Bv t)[7]? = some (.raw (.int .u32 (t.R.a6.toNat : Int))):=rfl
theorem Ig0 (t : Dp) : (Bv t)[8]? = some (.raw (.int .u32 (t.R.a7.toNat : Int))):=rfl
theorem Ih0 (t : Dp) {n : Nat} (hn : n < 8) : (Bv t)[1 + n]? = some (.raw (.int .u32 ((t.R.get n).toNat : Int))):=by
  rcases A8.cases hn with rfl | rfl | rfl | rfl | rfl | rfl | rfl | rfl <;> rfl
theorem Hx0 (t : Dp) {n : Nat} (hn : n < 8) (v : UInt32) : (Bv t).set (1 + n) (.raw (.int .u32 (v.toNat : Int))) = Bv ({ t with R:=t.R.set n v }):=by
  rcases A8.cases hn with rfl | rfl | rfl | rfl | rfl | rfl | rfl | rfl <;> rfl
theorem Hd0 (t : Dp) {n : Nat} (hn : n < 8) : (Bv t).set (1 + n) (.raw (.int .u32 0)) = Bv ({ t with R:=t.R.set n 0 }):=by
  rcases A8.cases hn with rfl | rfl | rfl | rfl | rfl | rfl | rfl | rfl <;> rfl
theorem Io0 (t : Dp) : (Bv t)[9]? = some (.raw (.int .u32 (t.S.a0.toNat : Int))):=rfl
theorem Hl0 (t : Dp) : (Bv t)[10]? = some (.raw (.int .u32 (t.S.a1.toNat : Int))):=rfl
theorem Ho0 (t : Dp) : (Bv t)[11]? = some (.raw (.int .u32 (t.S.a2.toNat : Int))):=rfl
theorem Hr0 (t : Dp) : (Bv t)[12]? = some (.raw (.int .u32 (t.S.a3.toNat : Int))):=rfl
theorem Hh0 (t : Dp) : (Bv t)[13]? = some (.raw (.int .u32 (t.S.a4.toNat : Int))):=rfl
theorem Hw0 (t : Dp) : (Bv t)[14]? = some (.raw (.int .u32 (t.S.a5.toNat : Int))):=rfl
theorem Hn0 (t : Dp) : (Bv t)[15]? = some (.raw (.int .u32 (t.S.a6.toNat : Int))):=rfl
theorem Gz0 (t : Dp) : (Bv t)[16]? = some (.raw (.int .u32 (t.S.a7.toNat : Int))):=rfl
theorem Hj0 (t : Dp) : (Bv t)[17]? = some (.raw (.int .u32 (t.S.a8.toNat : Int))):=rfl
theorem Hf0 (t : Dp) : (Bv t)[18]? = some (.raw (.int .u32 (t.S.a9.toNat : Int))):=rfl
theorem Hi0 (t : Dp) : (Bv t)[19]? = some (.raw (.int .u32 (t.S.a10.toNat : Int))):=rfl
theorem Hq0 (t : Dp) : (Bv t)[20]? = some (.raw (.int .u32 (t.S.a11.toNat : Int))):=rfl
theorem Hs0 (t : Dp) : (Bv t)[21]? = some (.raw (.int .u32 (t.S.a12.toNat : Int))):=rfl
theorem Hk0 (t : Dp) : (Bv t)[22]? = some (.raw (.int .u32 (t.S.a13.toNat : Int))):=rfl
theorem Ht0 (t : Dp) : (Bv t)[23]? = some (.raw (.int .u32 (t.S.a14.toNat : Int))):=rfl
theorem Hm0 (t : Dp) : (Bv t)[24]? = some (.raw (.int .u32 (t.S.a15.toNat : Int))):=rfl
theorem Ij0 (t : Dp) {n : Nat} (hn : n < 16) : (Bv t)[9 + n]? = some (.raw (.int .u32 ((t.S.get n).toNat : Int))):=by
  rcases A16.cases hn with rfl | rfl | rfl | rfl | rfl | rfl | rfl | rfl | rfl | rfl | rfl | rfl | rfl | rfl | rfl | rfl <;> rfl
theorem Iq0 (t : Dp) {n : Nat} (hn : n < 16) (v : UInt32) : (Bv t).set (9 + n) (.raw (.int .u32 (v.toNat : Int))) = Bv ({ t with S:=t.S.set n v }):=by
  rcases A16.cases hn with rfl | rfl | rfl | rfl | rfl | rfl | rfl | rfl | rfl | rfl | rfl | rfl | rfl | rfl | rfl | rfl <;> rfl
theorem Ha0 (t : Dp) {n : Nat} (hn : n < 16) : (Bv t).set (9 + n) (.raw (.int .u32 0)) = Bv ({ t with S:=t.S.set n 0 }):=by
  rcases A16.cases hn with rfl | rfl | rfl | rfl | rfl | rfl | rfl | rfl | rfl | rfl | rfl | rfl | rfl | rfl | rfl | rfl <;> rfl
attribute [push_cast] He0 Ii0 Ie0 Hc0 Ir0 Fv0 Ji0 Im0 Ip0 In0 Ic0 Id0 Ik0 Ib0 If0 Hz0 Ig0 Ih0 Hx0 Hd0 Io0 Hl0 Ho0 Hr0 Hh0 Hw0 Hn0 Gz0 Hj0 Hf0 Hi0 Hq0 Hs0 Hk0 Ht0 Hm0 Ij0 Iq0 Ha0
structure Il0 where
  Pc : Int
  F : (List Dp)
  Used : Int
  Done : Bool
  Ret : UInt32
  Err : Int
  deriving DecidableEq
def Em0 (t : Il0) : List AV:=[.raw (.int .i64 t.Pc),.sl false (t.F.map Bv),.raw (.int .i64 t.Used),.raw (.bool t.Done),.raw (.int .u32 (t.Ret.toNat : Int)),.raw (.int .i64 t.Err)]
theorem Jm0 (l : List Il0) : Uni 6 (l.map Em0):=Eu (f:=Em0) (fun _=>rfl)
attribute [push_cast] Em0 Jm0
structure Cv where
  Args : Int
  Code : (List Am)
  deriving DecidableEq
def Al (t : Cv) : List AV:=[.raw (.int .i64 t.Args),.sl false (t.Code.map Aw)]
theorem Jp0 (l : List Cv) : Uni 2 (l.map Al):=Eu (f:=Al) (fun _=>rfl)
attribute [push_cast] Al Jp0
structure Aq where
  Fns : (List Cv)
  deriving DecidableEq
def Ez (t : Aq) : List AV:=[.sl false (t.Fns.map Al)]
theorem Jb0 (l : List Aq) : Uni 1 (l.map Ez):=Eu (f:=Ez) (fun _=>rfl)
attribute [push_cast] Ez Jb0
structure Be where
  S : Ar
  P : Aq
  Done : (List UInt32)
  To : Ap
  deriving DecidableEq
def Ef (t : Be) : List AV:=[.raw (.int .i64 t.S.Kind),.raw (.int .i64 t.S.Cap),.raw (.int .i64 t.S.Words),.raw (.int .i64 t.S.Ver),.sl false (t.P.Fns.map Al),.sl false (t.Done.map Ax),.raw (.int .i64 t.To.S.Kind),.raw (.int .i64 t.To.S.Cap),.raw (.int .i64 t.To.S.Words),.raw (.int .i64 t.To.S.Ver),.sl false (t.To.E.map Av),.raw (.int .u32 (t.To.Next.toNat : Int))]
theorem Iu0 (l : List Be) : Uni 12 (l.map Ef):=Eu (f:=Ef) (fun _=>rfl)
attribute [push_cast] Ef Iu0
structure At0 where
  op : Int
  fn : Int
  reg : Bool
  deriving DecidableEq
def Uu (t : At0) : List AV:=[.raw (.int .i64 t.op),.raw (.int .i64 t.fn),.raw (.bool t.reg)]
theorem Ef0 (l : List At0) : Uni 3 (l.map Uu):=Eu (f:=Uu) (fun _=>rfl)
attribute [push_cast] Uu Ef0
structure Ed0 where
  c : Il0
  e : Bf
  deriving DecidableEq
def Xk (t : Ed0) : List AV:=[.raw (.int .i64 t.c.Pc),.sl false (t.c.F.map Bv),.raw (.int .i64 t.c.Used),.raw (.bool t.c.Done),.raw (.int .u32 (t.c.Ret.toNat : Int)),.raw (.int .i64 t.c.Err),.raw (.int .u32 (t.e.Ctx.a0.toNat : Int)),.raw (.int .u32 (t.e.Ctx.a1.toNat : Int)),.raw (.int .u32 (t.e.Ctx.a2.toNat : Int)),.raw (.int .u32 (t.e.Ctx.a3.toNat : Int)),.sl false (t.e.T.map Bb),.raw (.int .u32 (t.e.Seed.toNat : Int))]
theorem Gb0 (l : List Ed0) : Uni 12 (l.map Xk):=Eu (f:=Xk) (fun _=>rfl)
attribute [push_cast] Xk Gb0
structure Jk where
  Ret : UInt32
  E : Bf
  Used : Int
  Err : Int
  deriving DecidableEq
def Xc (t : Jk) : List AV:=[.raw (.int .u32 (t.Ret.toNat : Int)),.raw (.int .u32 (t.E.Ctx.a0.toNat : Int)),.raw (.int .u32 (t.E.Ctx.a1.toNat : Int)),.raw (.int .u32 (t.E.Ctx.a2.toNat : Int)),.raw (.int .u32 (t.E.Ctx.a3.toNat : Int)),.sl false (t.E.T.map Bb),.raw (.int .u32 (t.E.Seed.toNat : Int)),.raw (.int .i64 t.Used),.raw (.int .i64 t.Err)]
theorem Jj0 (l : List Jk) : Uni 9 (l.map Xc):=Eu (f:=Xc) (fun _=>rfl)
attribute [push_cast] Xc Jj0
structure Av0 where
  t : Ap
  deriving DecidableEq
def Up (t : Av0) : List AV:=[.raw (.int .i64 t.t.S.Kind),.raw (.int .i64 t.t.S.Cap),.raw (.int .i64 t.t.S.Words),.raw (.int .i64 t.t.S.Ver),.sl false (t.t.E.map Av),.raw (.int .u32 (t.t.Next.toNat : Int))]
theorem Dv0 (l : List Av0) : Uni 6 (l.map Up):=Eu (f:=Up) (fun _=>rfl)
attribute [push_cast] Up Dv0
structure Ak where
  Set : (A8 Bool)
  R : (A8 C128)
  deriving DecidableEq
def Af (t : Ak) : List AV:=[.raw (.bool t.Set.a0),.raw (.bool t.Set.a1),.raw (.bool t.Set.a2),.raw (.bool t.Set.a3),.raw (.bool t.Set.a4),.raw (.bool t.Set.a5),.raw (.bool t.Set.a6),.raw (.bool t.Set.a7),.raw (.complex .f64 t.R.a0.re t.R.a0.im),.raw (.complex .f64 t.R.a1.re t.R.a1.im),.raw (.complex .f64 t.R.a2.re t.R.a2.im),.raw (.complex .f64 t.R.a3.re t.R.a3.im),.raw (.complex .f64 t.R.a4.re t.R.a4.im),.raw (.complex .f64 t.R.a5.re t.R.a5.im),.raw (.complex .f64 t.R.a6.re t.R.a6.im),.raw (.complex .f64 t.R.a7.re t.R.a7.im)]
theorem Fn0 (t : Ak) : (Af t).length = 16:=rfl
theorem Gq0 (t : Ak) : List.take 16 (Af t) = Af t:=rfl
theorem Gh0 (t : Ak) : (Af t).map AV.lo0 = Af t:=rfl
theorem Fe0 (t : Ak) (π : Nat → Nat) : (Af t).map (AV.ren1 π) = Af t:=rfl
theorem Gp0 (t : Ak) (d : Nat → Bool) : (Af t).all (AV.in1 d) = true:=by simp [Af,AV.in1,AV.in0]
theorem Eq0 (t : Ak) (H : Hp) : (Af t).map (AV.lend0 H) = Af t:=rfl
theorem It0 (l : List Ak) : Uni 16 (l.map Af):=Eu (f:=Af) (fun _=>rfl)
theorem Fy0 (t : Ak) : (Af t)[0]? = some (.raw (.bool t.Set.a0)):=rfl
theorem Gm0 (t : Ak) : (Af t)[1]? = some (.raw (.bool t.Set.a1)):=rfl
theorem Gk0 (t : Ak) : (Af t)[2]? = some (.raw (.bool t.Set.a2)):=rfl
theorem Ga0 (t : Ak) : (Af t)[3]? = some (.raw (.bool t.Set.a3)):=rfl
theorem Gy0 (t : Ak) : (Af t)[4]? = some (.raw (.bool t.Set.a4)):=rfl
theorem Ge0 (t : Ak) : (Af t)[5]? = some (.raw (.bool t.Set.a5)):=rfl
theorem Gu0 (t : Ak) : (Af t)[6]? = some (.raw (.bool t.Set.a6)):=rfl
theorem Gw0 (t : Ak) : (Af t)[7]? = some (.raw (.bool t.Set.a7)):=rfl
theorem Fz0 (t : Ak) {n : Nat} (hn : n < 8) : (Af t)[n]? = some (.raw (.bool (t.Set.get n))):=by
  rcases A8.cases hn with rfl | rfl | rfl | rfl | rfl | rfl | rfl | rfl <;> rfl
theorem Gg0 (t : Ak) {n : Nat} (hn : n < 8) (v : Bool) : (Af t).set (n) (.raw (.bool v)) = Af ({ t with Set:=t.Set.set n v }):=by
  rcases A8.cases hn with rfl | rfl | rfl | rfl | rfl | rfl | rfl | rfl <;> rfl
theorem Gc0 (t : Ak) : (Af t)[8]? = some (.raw (.complex .f64 t.R.a0.re t.R.a0.im)):=rfl
theorem Gi0 (t : Ak) : (Af t)[9]? = some (.raw (.complex .f64 t.R.a1.re t.R.a1.im)):=rfl
theorem Fg0 (t : Ak) : (Af t)[10]? = some (.raw (.complex .f64 t.R.a2.re t.R.a2.im)):=rfl
theorem Fc0 (t : Ak) : (Af t)[11]? = some (.raw (.complex .f64 t.R.a3.re t.R.a3.im)):=rfl
theorem Fs0 (t : Ak) : (Af t)[12]? = some (.raw (.complex .f64 t.R.a4.re t.R.a4.im)):=rfl
theorem Ex0 (t : Ak) : (Af t)[13]? = some (.raw (.complex .f64 t.R.a5.re t.R.a5.im)):=rfl
theorem Fu0 (t : Ak) : (Af t)[14]? = some (.raw (.complex .f64 t.R.a6.re t.R.a6.im)):=rfl
theorem Ey0 (t : Ak) : (Af t)[15]? = some (.raw (.complex .f64 t.R.a7.re t.R.a7.im)):=rfl
theorem Gf0 (t : Ak) {n : Nat} (hn : n < 8) : (Af t)[8 + n]? = some (.raw (.complex .f64 ((t.R.get n).re) ((t.R.get n).im))):=by
  rcases A8.cases hn with rfl | rfl | rfl | rfl | rfl | rfl | rfl | rfl <;> rfl
theorem Gs0 (t : Ak) {n : Nat} (hn : n < 8) (x y : Nat) : (Af t).set (8 + n) (.raw (.complex .f64 x y)) = Af ({ t with R:=t.R.set n ⟨x,y⟩ }):=by
  rcases A8.cases hn with rfl | rfl | rfl | rfl | rfl | rfl | rfl | rfl <;> rfl
attribute [push_cast] Fn0 Gq0 Gh0 Fe0 Gp0 Eq0 It0 Fy0 Gm0 Gk0 Ga0 Gy0 Ge0 Gu0 Gw0 Fz0 Gg0 Gc0 Gi0 Fg0 Fc0 Fs0 Ex0 Fu0 Ey0 Gf0 Gs0
structure Ac where
  p : Aq
  fn : Int
  l : (List Ar)
  in_ : (List Ak)
  is : (List Bool)
  at_ : Int
  safe : Bool
  deriving DecidableEq
def Uw (t : Ac) : List AV:=[.sl false (t.p.Fns.map Al),.raw (.int .i64 t.fn),.sl false (t.l.map Ai),.sl false (t.in_.map Af),.sl false (t.is.map Az),.raw (.int .i64 t.at_),.raw (.bool t.safe)]
theorem Do0 (l : List Ac) : Uni 7 (l.map Uw):=Eu (f:=Uw) (fun _=>rfl)
attribute [push_cast] Uw Do0
structure Ck where
  fns : Int
  dst : Bool
  word : Bool
  off : Int
  imm : Bool
  deriving DecidableEq
def Gj (t : Ck) : List AV:=[.raw (.int .i64 t.fns),.raw (.bool t.dst),.raw (.bool t.word),.raw (.int .i64 t.off),.raw (.bool t.imm)]
theorem Ew0 (l : List Ck) : Uni 5 (l.map Gj):=Eu (f:=Gj) (fun _=>rfl)
attribute [push_cast] Gj Ew0
structure Ae where
  p : Aq
  e : Bf
  fuel : Int
  used : Int
  err : Int
  deriving DecidableEq
def Ah (t : Ae) : List AV:=[.sl false (t.p.Fns.map Al),.raw (.int .u32 (t.e.Ctx.a0.toNat : Int)),.raw (.int .u32 (t.e.Ctx.a1.toNat : Int)),.raw (.int .u32 (t.e.Ctx.a2.toNat : Int)),.raw (.int .u32 (t.e.Ctx.a3.toNat : Int)),.sl false (t.e.T.map Bb),.raw (.int .u32 (t.e.Seed.toNat : Int)),.raw (.int .i64 t.fuel),.raw (.int .i64 t.used),.raw (.int .i64 t.err)]
theorem Er0 (l : List Ae) : Uni 10 (l.map Ah):=Eu (f:=Ah) (fun _=>rfl)
attribute [push_cast] Ah Er0
structure Ad where
  fn : Int
  at_ : Int
  regs : (A8 UInt32)
  set : (A8 Bool)
  stack : (A16 UInt32)
  over : Bool
  deriving DecidableEq
def Ab (t : Ad) (p_r : AV) : List AV:=[p_r,.raw (.int .i64 t.fn),.raw (.int .i64 t.at_),.raw (.int .u32 (t.regs.a0.toNat : Int)),.raw (.int .u32 (t.regs.a1.toNat : Int)),.raw (.int .u32 (t.regs.a2.toNat : Int)),.raw (.int .u32 (t.regs.a3.toNat : Int)),.raw (.int .u32 (t.regs.a4.toNat : Int)),.raw (.int .u32 (t.regs.a5.toNat : Int)),.raw (.int .u32 (t.regs.a6.toNat : Int)),.raw (.int .u32 (t.regs.a7.toNat : Int)),.raw (.bool t.set.a0),.raw (.bool t.set.a1),.raw (.bool t.set.a2),.raw (.bool t.set.a3),.raw (.bool t.set.a4),.raw (.bool t.set.a5),.raw (.bool t.set.a6),.raw (.bool t.set.a7),.raw (.int .u32 (t.stack.a0.toNat : Int)),.raw (.int .u32 (t.stack.a1.toNat : Int)),.raw (.int .u32 (t.stack.a2.toNat : Int)),.raw (.int .u32 (t.stack.a3.toNat : Int)),.raw (.int .u32 (t.stack.a4.toNat : Int)),.raw (.int .u32 (t.stack.a5.toNat : Int)),.raw (.int .u32 (t.stack.a6.toNat : Int)),.raw (.int .u32 (t.stack.a7.toNat : Int)),.raw (.int .u32 (t.stack.a8.toNat : Int)),.raw (.int .u32 (t.stack.a9.toNat : Int)),.raw (.int .u32 (t.stack.a10.toNat : Int)),.raw (.int .u32 (t.stack.a11.toNat : Int)),.raw (.int .u32 (t.stack.a12.toNat : Int)),.raw (.int .u32 (t.stack.a13.toNat : Int)),.raw (.int .u32 (t.stack.a14.toNat : Int)),.raw (.int .u32 (t.stack.a15.toNat : Int)),.raw (.bool t.over)]
theorem Zz (t : Ad) (p_r : AV) : (Ab t p_r).length = 36:=rfl
theorem Bk0 (t : Ad) (p_r : AV) : (Ab t p_r).map AV.lo0 = Ab t (AV.lo0 p_r):=rfl
theorem Af0 (t : Ad) (p_r : AV) (π : Nat → Nat) : (Ab t p_r).map (AV.ren1 π) = Ab t (AV.ren1 π p_r):=rfl
theorem Bd0 (t : Ad) (p_r : AV) (d : Nat → Bool) : (Ab t p_r).all (AV.in1 d) = p_r.in1 d:=by simp [Ab,AV.in1,AV.in0]
theorem Az0 (t : Ad) (p_r : AV) : (Ab t p_r)[0]? = some p_r:=rfl
theorem Bt0 (t : Ad) (p_r : AV) : (Ab t p_r)[1]? = some (.raw (.int .i64 t.fn)):=rfl
theorem Bh0 (t : Ad) (p_r : AV) (v : Int) : (Ab t p_r).set 1 (.raw (.int .i64 v)) = Ab ({ t with fn:=v }) p_r:=rfl
theorem Bl0 (t : Ad) (p_r : AV) : (Ab t p_r)[2]? = some (.raw (.int .i64 t.at_)):=rfl
theorem Bu0 (t : Ad) (p_r : AV) (v : Int) : (Ab t p_r).set 2 (.raw (.int .i64 v)) = Ab ({ t with at_:=v }) p_r:=rfl
theorem Bo0 (t : Ad) (p_r : AV) : (Ab t p_r)[3]? = some (.raw (.int .u32 (t.regs.a0.toNat : Int))):=rfl
theorem Bw0 (t : Ad) (p_r : AV) : (Ab t p_r)[4]? = some (.raw (.int .u32 (t.regs.a1.toNat : Int))):=rfl
theorem Bg0 (t : Ad) (p_r : AV) : (Ab t p_r)[5]? = some (.raw (.int .u32 (t.regs.a2.toNat : Int))):=rfl
theorem Br0 (t : Ad) (p_r : AV) : (Ab t p_r)[6]? = some (.raw (.int .u32 (t.regs.a3.toNat : Int))):=rfl
theorem Bs0 (t : Ad) (p_r : AV) : (Ab t p_r)[7]? = some (.raw (.int .u32 (t.regs.a4.toNat : Int))):=rfl
theorem Bc0 (t : Ad) (p_r : AV) : (Ab t p_r)[8]? = some (.raw (.int .u32 (t.regs.a5.toNat : Int))):=rfl
theorem Bi0 (t : Ad) (p_r : AV) : (Ab t p_r)[9]? = some (.raw (.int .u32 (t.regs.a6.toNat : Int))):=rfl
theorem Zo (t : Ad) (p_r : AV) : (Ab t p_r)[10]? = some (.raw (.int .u32 (t.regs.a7.toNat : Int))):=rfl
theorem Bj0 (t : Ad) (p_r : AV) {n : Nat} (hn : n < 8) : (Ab t p_r)[3 + n]? = some (.raw (.int .u32 ((t.regs.get n).toNat : Int))):=by
  rcases A8.cases hn with rfl | rfl | rfl | rfl | rfl | rfl | rfl | rfl <;> rfl
theorem Bq0 (t : Ad) (p_r : AV) {n : Nat} (hn : n < 8) (v : UInt32) : (Ab t p_r).set (3 + n) (.raw (.int .u32 (v.toNat : Int))) = Ab ({ t with regs:=t.regs.set n v }) p_r:=by
  rcases A8.cases hn with rfl | rfl | rfl | rfl | rfl | rfl | rfl | rfl <;> rfl
theorem Ap0 (t : Ad) (p_r : AV) {n : Nat} (hn : n < 8) : (Ab t p_r).set (3 + n) (.raw (.int .u32 0)) = Ab ({ t with regs:=t.regs.set n 0 }) p_r:=by
  rcases A8.cases hn with rfl | rfl | rfl | rfl | rfl | rfl | rfl | rfl <;> rfl
theorem Aa0 (t : Ad) (p_r : AV) : (Ab t p_r)[11]? = some (.raw (.bool t.set.a0)):=rfl
theorem Ao0 (t : Ad) (p_r : AV) : (Ab t p_r)[12]? = some (.raw (.bool t.set.a1)):=rfl
theorem Ak0 (t : Ad) (p_r : AV) : (Ab t p_r)[13]? = some (.raw (.bool t.set.a2)):=rfl
theorem Aq0 (t : Ad) (p_r : AV) : (Ab t p_r)[14]? = some (.raw (.bool t.set.a3)):=rfl
theorem Za (t : Ad) (p_r : AV) : (Ab t p_r)[15]? = some (.raw (.bool t.set.a4)):=rfl
theorem Zd (t : Ad) (p_r : AV) : (Ab t p_r)[16]? = some (.raw (.bool t.set.a5)):=rfl
theorem Ze (t : Ad) (p_r : AV) : (Ab t p_r)[17]? = some (.raw (.bool t.set.a6)):=rfl
theorem Ab0 (t : Ad) (p_r : AV) : (Ab t p_r)[18]? = some (.raw (.bool t.set.a7)):=rfl
theorem Zc (t : Ad) (p_r : AV) {n : Nat} (hn : n < 8) : (Ab t p_r)[11 + n]? = some (.raw (.bool (t.set.get n))):=by
  rcases A8.cases hn with rfl | rfl | rfl | rfl | rfl | rfl | rfl | rfl <;> rfl
theorem Zn (t : Ad) (p_r : AV) {n : Nat} (hn : n < 8) (v : Bool) : (Ab t p_r).set (11 + n) (.raw (.bool v)) = Ab ({ t with set:=t.set.set n v }) p_r:=by
  rcases A8.cases hn with rfl | rfl | rfl | rfl | rfl | rfl | rfl | rfl <;> rfl
theorem Zr (t : Ad) (p_r : AV) : (Ab t p_r)[19]? = some (.raw (.int .u32 (t.stack.a0.toNat : Int))):=rfl
theorem Zt (t : Ad) (p_r : AV) : (Ab t p_r)[20]? = some (.raw (.int .u32 (t.stack.a1.toNat : Int))):=rfl
theorem Ah0 (t : Ad) (p_r : AV) : (Ab t p_r)[21]? = some (.raw (.int .u32 (t.stack.a2.toNat : Int))):=rfl
theorem Zh (t : Ad) (p_r : AV) : (Ab t p_r)[22]? = some (.raw (.int .u32 (t.stack.a3.toNat : Int))):=rfl
theorem Aj0 (t : Ad) (p_r : AV) : (Ab t p_r)[23]? = some (.raw (.int .u32 (t.stack.a4.toNat : Int))):=rfl
theorem Zw (t : Ad) (p_r : AV) : (Ab t p_r)[24]? = some (.raw (.int .u32 (t.stack.a5.toNat : Int))):=rfl
theorem Ac0 (t : Ad) (p_r : AV) : (Ab t p_r)[25]? = some (.raw (.int .u32 (t.stack.a6.toNat : Int))):=rfl
theorem Zg (t : Ad) (p_r : AV) : (Ab t p_r)[26]? = some (.raw (.int .u32 (t.stack.a7.toNat : Int))):=rfl
theorem Zu (t : Ad) (p_r : AV) : (Ab t p_r)[27]? = some (.raw (.int .u32 (t.stack.a8.toNat : Int))):=rfl
theorem Zq (t : Ad) (p_r : AV) : (Ab t p_r)[28]? = some (.raw (.int .u32 (t.stack.a9.toNat : Int))):=rfl
theorem Zi (t : Ad) (p_r : AV) : (Ab t p_r)[29]? = some (.raw (.int .u32 (t.stack.a10.toNat : Int))):=rfl
theorem Zb (t : Ad) (p_r : AV) : (Ab t p_r)[30]? = some (.raw (.int .u32 (t.stack.a11.toNat : Int))):=rfl
theorem Ad0 (t : Ad) (p_r : AV) : (Ab t p_r)[31]? = some (.raw (.int .u32 (t.stack.a12.toNat : Int))):=rfl
theorem Zl (t : Ad) (p_r : AV) : (Ab t p_r)[32]? = some (.raw (.int .u32 (t.stack.a13.toNat : Int))):=rfl
theorem Ae0 (t : Ad) (p_r : AV) : (Ab t p_r)[33]? = some (.raw (.int .u32 (t.stack.a14.toNat : Int))):=rfl
theorem Zk (t : Ad) (p_r : AV) : (Ab t p_r)[34]? = some (.raw (.int .u32 (t.stack.a15.toNat : Int))):=rfl
theorem Al0 (t : Ad) (p_r : AV) {n : Nat} (hn : n < 16) : (Ab t p_r)[19 + n]? = some (.raw (.int .u32 ((t.stack.get n).toNat : Int))):=by
  rcases A16.cases hn with rfl | rfl | rfl | rfl | rfl | rfl | rfl | rfl | rfl | rfl | rfl | rfl | rfl | rfl | rfl | rfl <;> rfl
theorem Am0 (t : Ad) (p_r : AV) {n : Nat} (hn : n < 16) (v : UInt32) : (Ab t p_r).set (19 + n) (.raw (.int .u32 (v.toNat : Int))) = Ab ({ t with stack:=t.stack.set n v }) p_r:=by
  rcases A16.cases hn with rfl | rfl | rfl | rfl | rfl | rfl | rfl | rfl | rfl | rfl | rfl | rfl | rfl | rfl | rfl | rfl <;> rfl
theorem Yi (t : Ad) (p_r : AV) {n : Nat} (hn : n < 16) : (Ab t p_r).set (19 + n) (.raw (.int .u32 0)) = Ab ({ t with stack:=t.stack.set n 0 }) p_r:=by
  rcases A16.cases hn with rfl | rfl | rfl | rfl | rfl | rfl | rfl | rfl | rfl | rfl | rfl | rfl | rfl | rfl | rfl | rfl <;> rfl
theorem Zj (t : Ad) (p_r : AV) : (Ab t p_r)[35]? = some (.raw (.bool t.over)):=rfl
theorem Yz (t : Ad) (p_r : AV) (v : Bool) : (Ab t p_r).set 35 (.raw (.bool v)) = Ab ({ t with over:=v }) p_r:=rfl
attribute [push_cast] Zz Bk0 Af0 Bd0 Az0 Bt0 Bh0 Bl0 Bu0 Bo0 Bw0 Bg0 Br0 Bs0 Bc0 Bi0 Zo Bj0 Bq0 Ap0 Aa0 Ao0 Ak0 Aq0 Za Zd Ze Ab0 Zc Zn Zr Zt Ah0 Zh Aj0 Zw Ac0 Zg Zu Zq Zi Zb Ad0 Zl Ae0 Zk Al0 Am0 Yi Zj Yz
structure Aj where
  low : UInt64
  high : UInt64
  deriving DecidableEq
def Bc (t : Aj) : List AV:=[.raw (.int .u64 (t.low.toNat : Int)),.raw (.int .u64 (t.high.toNat : Int))]
theorem Dq0 (l : List Aj) : Uni 2 (l.map Bc):=Eu (f:=Bc) (fun _=>rfl)
attribute [push_cast] Bc Dq0
def Blk (w : World) (g : Nat) (t : TypeId) (cs : Array Value) : Prop:=w.heap[g]? = some (.cells cs t (0,0))
section
variable {w w' : World} {g : Nat} {t : TypeId} {cs : Array Value}
theorem Blk.lt (h : Blk w g t cs) : g < w.heap.size:=(Array.getElem?_eq_some_iff.1 h).1
theorem Blk.cell (h : Blk w g t cs) (i : Nat) : w.cell? ⟨g,i,none⟩ = cs[i]?:=cell_of_row w g i cs t (0,0) h
theorem Blk.frozen (h : Blk w g t cs) (i : Nat) : w.frozen? ⟨g,i,none⟩ = false:=frozen_of_row w g i cs t h
theorem Blk.new (w : World) (t : TypeId) (cs : Array Value) : Blk (w.alloc (.cells cs t)) w.heap.size t cs:=heap_alloc_new w _
theorem Blk.drew (h : Blk w g t cs) : Blk w.drew g t cs:=h
theorem Blk.drewN (h : Blk w g t cs) (n : Nat) : Blk (w.drewN n) g t cs:=h
theorem Blk.alloc (h : Blk w g t cs) (o : Obj) : Blk (w.alloc o) g t cs:=(Below.heap_alloc w o g h.lt).trans h
theorem Blk.set_ (h : Blk w g t cs) (i : Nat) (u : Value) : Blk (w.setCell ⟨g,i,none⟩ u) g t (cs.setIfInBounds i u):=heap_setCell_same w g i cs t u h
theorem Blk.far (h : Blk w g t cs) {p : Addr} (hp : g ≠ p.block) (u : Value) : Blk (w.setCell p u) g t cs:=(heap_setCell_other w p g u hp).trans h
theorem Blk.below {B : Nat} (h : Blk w g t cs) (hb : Below B w w') (hg : g < B) : Blk w' g t cs:=(hb.block g hg).trans h
theorem Blk.grown {row : Option Nat} (h : Blk w g t cs) (hb : w.grownBy w' row) (hg : some g ≠ row) : Blk w' g t cs:=(hb.block g h.lt hg).trans h
end
def Only (g : Nat) (w w' : World) : Prop:=w.grownBy w' (some g)
theorem Only.below {B g : Nat} {a w w' : World} (h : Below B a w) (ho : Only g w w') (hg : B ≤ g) (hB : B ≤ w.heap.size) : Below B a w':=h.grown ho hB (fun k hk=>by cases hk; exact hg)
theorem Only.setCell (w : World) (g i : Nat) (u : Value) : Only g w (w.setCell ⟨g,i,none⟩ u):=
  ⟨rfl,rfl,rfl,by simp,fun k _ hk=>heap_setCell_other w ⟨g,i,none⟩ k u (fun e=>hk (by simp [e]))⟩
theorem Only.setRow (w : World) (g : Nat) (cs : Array Value) : Only g w (w.setRow g cs):=⟨rfl,rfl,rfl,by simp,fun k _ hk=>setRow_other w g k _ (fun e=>hk (by simp [e]))⟩
theorem Only.refl (g : Nat) (w : World) : Only g w w:=⟨rfl,rfl,rfl,Nat.le_refl _,fun _ _ _=>rfl⟩
theorem Only.trans {g : Nat} {a b c : World} (h : Only g a b) (k : Only g b c) : Only g a c:=
  ⟨k.os.trans h.os,k.tape.trans h.tape,k.output.trans h.output,Nat.le_trans h.size k.size,fun i hi hn=>(k.block i (Nat.lt_of_lt_of_le hi h.size) hn).trans (h.block i hi hn)⟩
theorem Only.drewN {g : Nat} {a b : World} (h : Only g a b) (n : Nat) : Only g a (b.drewN n):=⟨h.os,h.tape,h.output,h.size,h.block⟩
theorem boxedB (w : World) (b : Nat) (hb : w.heap.size = b) (cs : Array Value) (t : TypeId) : ∃ W,w.alloc (.cells cs t) = W ∧ Below b w W ∧ W.heap.size = b + 1 ∧ Blk W b t cs ∧ (∀ k i,k < b → W.cell? ⟨k,i,none⟩ = w.cell? ⟨k,i,none⟩) ∧ (∀ k i,k < b → W.frozen? ⟨k,i,none⟩ = w.frozen? ⟨k,i,none⟩):=by
  subst hb
  exact ⟨_,rfl,below_box _ _,by simp,heap_alloc_new w _,fun b i hb=>World.cell?_alloc_lt _ _ _ hb,fun b i hb=>World.frozen?_alloc_old _ _ _ (by simp only; omega)⟩
theorem storedB {w : World} {g : Nat} {t : TypeId} {cs : Array Value} (h : Blk w g t cs) (i : Nat) (u : Value) : ∃ W,w.setCell ⟨g,i,none⟩ u = W ∧ Only g w W ∧ W.heap.size = w.heap.size ∧ Blk W g t (cs.setIfInBounds i u) ∧ (∀ k i,k ≠ g → W.cell? ⟨k,i,none⟩ = w.cell? ⟨k,i,none⟩) ∧ (∀ k i,W.frozen? ⟨k,i,none⟩ = w.frozen? ⟨k,i,none⟩):=
  ⟨_,rfl,Only.setCell _ _ _ _,by simp,h.set_ _ _,fun k j hk=>World.cell?_setCell_other _ _ _ _ (fun e=>hk (by cases e; rfl)),fun k j=>by simp⟩
theorem Only.cell {g : Nat} {w w' : World} (h : Only g w w') {a : Addr} {v : Value} (hc : w.cell? a = some v) (hne : a.block ≠ g) : w'.cell? a = some v:=World.grownBy.cell h hc (fun e=>hne (by cases e; rfl))
def setAll (w : World) (g : Nat) : Nat → List Value → World
  | _,[]=>w
  | i,v :: vs=>setAll (w.setCell ⟨g,i,none⟩ v) g (i + 1) vs
theorem setAll_only (g : Nat) : ∀ (vs : List Value) (i : Nat) (w : World),Only g w (setAll w g i vs)
  | [],_,w=>Only.refl g w
  | v :: vs,i,w=>(Only.setCell w g i v).trans (setAll_only g vs (i + 1) _)
theorem Blk.setAll_ {g : Nat} {t : TypeId} : ∀ (vs : List Value) (i : Nat) (w : World) (cs : Array Value),Blk w g t cs → cs.size = i + vs.length → Blk (setAll w g i vs) g t (cs.toList.take i ++ vs).toArray
  | [],i,w,cs,h,hl=>by
    rw [List.append_nil,List.take_of_length_le (by simp at hl ⊢; omega)]
    simpa [setAll] using h
  | v :: vs,i,w,cs,h,hl=>by
    simp only [List.length_cons] at hl
    have ih:=Blk.setAll_ vs (i + 1) _ _ (h.set_ i v) (by simp; omega)
    simp only [setAll]
    refine cast ?_ ih
    congr 2
    rw [Array.toList_setIfInBounds,List.take_add_one,List.take_set_of_le (by omega),List.getElem?_set_self (by simp; omega)]
    simp
theorem Blk.setBox {g : Nat} {t : TypeId} {w : World} {cs : Array Value} (h : Blk w g t cs) (vs : List Value) (hl : vs.length = cs.size) : Blk (setAll w g 0 vs) g t vs.toArray:=by
  have:=Blk.setAll_ vs 0 w cs h (by omega)
  simpa using this
section
variable {P : Program}
def structB : TypeDesc → Bool
  | .struct _ | .array _ _=>true
  | _=>false
theorem results_ct {fn : Func} {p u : Tmp} {ty : TypeId} (h : fn.results = #[.cell p ty,.tmp u]) {tmps : Array Value} {w : World} {g : Nat} {t : TypeId} {cs : Array Value} {d : TypeDesc}
    (hp : tmps.getD p undef = .pointer (some ⟨g,0,none⟩)) (hg : Blk w g t cs)
    (hu : P.underlying ty = some d) (hd : structB d = true) (hi : (P.info? ty).map (·.size) = some cs.size) :
    (results fn tmps).run P w = .ok (.tuple #[.agg cs,tmps.getD u undef]) w:=by
  have hp' : tmps[p]?.getD undef = .pointer (some ⟨g,0,none⟩):=by simpa using hp
  simp [results,h,hp',asAddr,run_loadVar_row (P:=P) w g t ty cs (0,0) d hg hu (by cases d <;> first | rfl | (simp [structB] at hd)) hi]
theorem run_make_rowN (t e : TypeId) (i : TypeInfo) (z : Value) (ht : P.underlying t = some (.slice e)) (hi : P.info? e = some i) (hz : i.zero = some z)
    (kl kc : IntKind) (n c : Nat) (hnc : n ≤ c) (hbytes : i.bytes * c ≤ 281474976710656) (h63 : c ≤ 9223372036854775807) (w : World) :
    (Instr.makeSlice t (.int kl (n : Int)) (.int kc (c : Int))).run P w = .ok (.slice (some ⟨w.heap.size,0,none⟩) n c) (w.alloc (.cells (madeCells z.cells (c * i.size)) e)):=by
  have hb : (i.bytes : Int) * (c : Int) ≤ 281474976710656:=by
    have h : ((i.bytes * c : Nat) : Int) ≤ 281474976710656:=by omega
    rwa [Int.natCast_mul] at h
  have hr:=run_make (P:=P) w t e i z ht hi hz kl kc n c (by omega) (by omega) hb (by omega)
  simp only [Int.toNat_natCast] at hr
  exact hr
theorem run_makeN (t e : TypeId) (z : Value) (size bytes : Nat) (ht : P.underlying t = some (.slice e)) (hinfo : (P.info? e).map (fun i=>(i.zero,i.size,i.bytes)) = some (some z,size,bytes))
    (n : Nat) (hn : bytes * n ≤ 281474976710656) (h63 : n ≤ 9223372036854775807) (w : World) :
    (Instr.makeSlice t (.int .i64 (n : Int)) (.int .i64 (n : Int))).run P w = .ok (.slice (some ⟨w.heap.size,0,none⟩) n n) (w.alloc (.cells (madeCells z.cells (n * size)) e)):=by
  obtain ⟨i,hi,hz,rfl,rfl⟩:=info_parts hinfo
  exact run_make_rowN t e i z ht hi hz .i64 .i64 n n (Nat.le_refl _) hn h63 w
end
theorem info_ent : (prog.info? 66).map (fun i=>(i.zero,i.size,i.bytes)) = some (some (.agg #[.int .u32 0,.slice none 0 0]),2,32):=by kernel_rfl
theorem info_u32 : (prog.info? 25).map (fun i=>(i.zero,i.size,i.bytes)) = some (some (.int .u32 0),1,4):=by kernel_rfl
def fits (es : List Ent) : Prop:=es.length ≤ 1048576 ∧ ∀ e ∈ es,e.v.length ≤ 1048576
def u32s (xs : List Nat) : List Value:=xs.map fun (x : Nat)=>Value.int .u32 (x : Int)
theorem u32s_length (xs : List Nat) : (u32s xs).length = xs.length:=by simp [u32s]
theorem u32s_get {xs : List Nat} {i : Nat} {x : Nat} (h : xs[i]? = some x) : (u32s xs)[i]? = some (.int .u32 (x : Int)):=by simp [u32s,h]
def lt32 (xs : List Nat) : Prop:=∀ x ∈ xs,x < 4294967296
structure OwnW (w : World) (base : Nat) (u : Value) (xs : List Nat) : Prop where
  row : w.ownsRow base 25 1 u xs.length (u32s xs)
  lt : lt32 xs
theorem OwnW.reads {w : World} {base : Nat} {u : Value} {xs : List Nat} (h : OwnW w base u xs) : ∃ A c,u = .slice A xs.length c ∧ kW.At w w.heap.size A xs.length c xs:=by
  refine own_reads (k:=kW) h.row rfl fun i x hx=>?_
  refine ⟨?_,h.lt x (List.mem_of_getElem? hx)⟩
  have:=u32s_get hx
  show ((u32s xs).drop (i * 1)).take 1 = _
  rw [Nat.mul_one,List.drop_eq_getElem_cons (by rw [u32s_length]; exact (List.getElem?_eq_some_iff.1 hx).1)]
  simp only [List.take_succ_cons,List.take_zero,List.cons.injEq,and_true]
  rw [List.getElem?_eq_getElem (by rw [u32s_length]; exact (List.getElem?_eq_some_iff.1 hx).1)] at this
  exact Option.some.inj this
theorem OwnW.below {w w' : World} {base : Nat} {u : Value} {xs : List Nat} (h : OwnW w base u xs) (hb : Below w.heap.size w w') : OwnW w' base u xs:=⟨own_below h.row hb,h.lt⟩
theorem OwnW.mono {w : World} {base base' : Nat} {u : Value} {xs : List Nat} (h : OwnW w base u xs) (hb : base' ≤ base) : OwnW w base' u xs:=⟨own_mono h.row hb,h.lt⟩
theorem OwnW.only {w w' : World} {base g : Nat} {u : Value} {xs : List Nat} (h : OwnW w base u xs) (ho : Only g w w') (hg : u.ownBlock ≠ some g) : OwnW w' base u xs:=⟨h.row.kept ho (.inr hg),h.lt⟩
def entCells : List Ent → List Value → List Value
  | e :: es,u :: us=>.int .u32 (e.key : Int) :: u :: entCells es us
  | _,_=>[]
theorem entCells_get : ∀ {es : List Ent} {us : List Value} {i : Nat} {e : Ent} {u : Value},es[i]? = some e → us[i]? = some u → (entCells es us)[i * 2]? = some (.int .u32 (e.key : Int)) ∧ (entCells es us)[i * 2 + 1]? = some u
  | [],_,_,_,_,h,_=>by simp at h
  | _ :: _,[],_,_,_,_,h=>by simp at h
  | x :: es,y :: us,0,e,u,he,hu=>by
    simp at he hu
    simp [entCells,he,hu]
  | x :: es,y :: us,i + 1,e,u,he,hu=>by
    have ih:=entCells_get (es:=es) (us:=us) (i:=i) (by simpa using he) (by simpa using hu)
    rw [show (i + 1) * 2 = i * 2 + 1 + 1 by omega]
    simpa [entCells] using ih
theorem entCells_append : ∀ {es es' : List Ent} {us us' : List Value},us.length = es.length → entCells (es ++ es') (us ++ us') = entCells es us ++ entCells es' us'
  | [],_,[],_,_=>rfl
  | e :: es,es',u :: us,us',h=>by
    simp only [List.cons_append,entCells,List.cons.injEq,true_and]
    exact entCells_append (by simpa using h)
  | [],_,_ :: _,_,h=>by simp at h
  | _ :: _,_,[],_,h=>by simp at h
theorem entCells_inv : ∀ {es : List Ent} {us : List Value} {j : Nat} {v : Value},(entCells es us)[j]? = some v → ∃ (i : Nat) (e : Ent) (u : Value),es[i]? = some e ∧ us[i]? = some u ∧ ((j = i * 2 ∧ v = .int .u32 (e.key : Int)) ∨ (j = i * 2 + 1 ∧ v = u))
  | [],us,j,v,h=>by cases us <;> simp [entCells] at h
  | _ :: _,[],j,v,h=>by simp [entCells] at h
  | x :: es,y :: us,0,v,h=>by
    simp [entCells] at h
    exact ⟨0,x,y,rfl,rfl,.inl ⟨rfl,h.symm⟩⟩
  | x :: es,y :: us,1,v,h=>by
    simp [entCells] at h
    exact ⟨0,x,y,rfl,rfl,.inr ⟨rfl,h.symm⟩⟩
  | x :: es,y :: us,j + 2,v,h=>by
    obtain ⟨i,e,u,he,hu,hj⟩:=entCells_inv (es:=es) (us:=us) (j:=j) (v:=v) (by simpa [entCells] using h)
    refine ⟨i + 1,e,u,by simpa using he,by simpa using hu,?_⟩
    rcases hj with ⟨rfl,rfl⟩ | ⟨rfl,rfl⟩
    · exact .inl ⟨by omega,rfl⟩
    · exact .inr ⟨by omega,rfl⟩
theorem entCells_set : ∀ {es : List Ent} {us : List Value} {i : Nat} {u : Value},(entCells es us).set (i * 2 + 1) u = entCells es (us.set i u)
  | [],us,i,u=>by cases us <;> cases i <;> simp [entCells]
  | _ :: _,[],i,u=>by cases i <;> simp [entCells]
  | x :: es,y :: us,0,u=>by simp [entCells]
  | x :: es,y :: us,i + 1,u=>by
    rw [show (i + 1) * 2 + 1 = i * 2 + 1 + 1 + 1 by omega]
    simp only [entCells,List.set_cons_succ]
    rw [entCells_set]
theorem choose_list {α : Type} {p : Nat → α → Prop} : ∀ (n : Nat),(∀ i,i < n → ∃ v,p i v) → ∃ vs : List α,vs.length = n ∧ ∀ (i : Nat) (v : α),vs[i]? = some v → p i v
  | 0,_=>⟨[],rfl,fun i v h=>by simp at h⟩
  | n + 1,h=>by
    obtain ⟨vs,hl,hv⟩:=choose_list n (fun i hi=>h i (by omega))
    obtain ⟨x,hx⟩:=h n (by omega)
    refine ⟨vs ++ [x],by simp [hl],fun i v hi=>?_⟩
    rcases Nat.lt_or_ge i n with h' | h'
    · rw [List.getElem?_append_left (by omega)] at hi
      exact hv i v hi
    · rw [List.getElem?_append_right (by omega)] at hi
      have h1:=(List.getElem?_eq_some_iff.1 hi).1
      simp at h1
      obtain rfl : i = n:=by omega
      simp [hl] at hi
      subst hi
      exact hx
theorem kEnt.cells {w : World} {B : Nat} {A : Option Addr} {n c : Nat} {es : List Ent} (h : kEnt.At w B A n c es) :
    ∃ vs : List Value,vs.length = n ∧ (∀ (i : Nat) (e : Ent) (v : Value),es[i]? = some e → vs[i]? = some v → e.key < 4294967296 ∧ ∃ A' m d,v = .slice A' m d ∧ kW.At w B A' m d e.v) ∧
      (0 < n → ∃ ad,A = some ad ∧ ad.block < B ∧ ∀ (j : Nat) (u : Value),(entCells es vs)[j]? = some u → w.cell? (ad.add j) = some u):=by
  rcases Nat.eq_zero_or_pos n with hn | hn
  · subst hn
    exact ⟨[],rfl,fun i e v _ hv=>by simp at hv,fun hp=>absurd hp (by omega)⟩
  · obtain ⟨e0,ad,_,_,_,_,rfl,hB,_⟩:=kEnt.get h hn
    obtain ⟨vs,hl,hv⟩:=choose_list (p:=fun i v=>∃ e,es[i]? = some e ∧ e.key < 4294967296 ∧ (∃ A' m d,v = Value.slice A' m d ∧ kW.At w B A' m d e.v) ∧ w.cell? (ad.add (i * 2)) = some (.int .u32 (e.key : Int)) ∧ w.cell? (ad.add (i * 2 + 1)) = some v) n
      (fun i hi=>by
        obtain ⟨e,ad',A',m,d,he,had,_,h0,h1,hk,hv⟩:=kEnt.get h hi
        injection had with had
        subst had
        exact ⟨.slice A' m d,e,he,hk,⟨A',m,d,rfl,hv⟩,h0,by rw [show i * 2 + 1 = i * 2 + (0 + 1) by omega,add_fld]; exact h1⟩)
    refine ⟨vs,hl,fun i e v he hvi=>?_,fun _=>⟨ad,rfl,hB,fun j u hu=>?_⟩⟩
    · obtain ⟨e',he',hk,hx,_⟩:=hv i v hvi
      rw [he] at he'
      cases he'
      exact ⟨hk,hx⟩
    · obtain ⟨i,e,v,he,hvi,hj⟩:=entCells_inv hu
      obtain ⟨e',he',hk,_,h0,h1⟩:=hv i v hvi
      rw [he] at he'
      cases he'
      rcases hj with ⟨rfl,rfl⟩ | ⟨rfl,rfl⟩
      · exact h0
      · exact h1
def Lone (us : List Value) : Prop:=∀ (i j : Nat) (u v : Value) (b : Nat),i ≠ j → us[i]? = some u → us[j]? = some v → u.ownBlock = some b → v.ownBlock ≠ some b
structure OwnEs (w : World) (base : Nat) (v : Value) (es : List Ent) (us : List Value) : Prop where
  len : us.length = es.length
  row : w.ownsRow base 66 2 v es.length (entCells es us)
  val : ∀ (i : Nat) (e : Ent) (u : Value),es[i]? = some e → us[i]? = some u → OwnW w base u e.v ∧ e.key < 4294967296
  lone : Lone us
theorem OwnW.blk_ne {w : World} {base base' : Nat} {u v : Value} {xs : List Nat} {n : Nat} {cs : List Value} (h : OwnW w base u xs) (hr : w.ownsRow base' 66 2 v n cs) {b : Nat} (hv : v.ownBlock = some b) : u.ownBlock ≠ some b:=by
  intro hu
  rcases h.row.2 with ⟨rfl,_⟩ | ⟨g,cap,cur,rfl,_,hg,_⟩
  · simp [Value.ownBlock] at hu
  · rcases hr.2 with ⟨rfl,_⟩ | ⟨g',cap',cur',rfl,_,hg',_⟩
    · simp [Value.ownBlock] at hv
    · simp only [Value.ownBlock,Option.some.injEq] at hu hv
      subst hu
      subst hv
      rw [hg] at hg'
      simp at hg'
theorem OwnEs.below {w w' : World} {base : Nat} {v : Value} {es : List Ent} {us : List Value} (h : OwnEs w base v es us) (hb : Below w.heap.size w w') : OwnEs w' base v es us:=
  ⟨h.len,own_below h.row hb,fun i e u he hu=>⟨(h.val i e u he hu).1.below hb,(h.val i e u he hu).2⟩,h.lone⟩
theorem OwnEs.mono {w : World} {base base' : Nat} {v : Value} {es : List Ent} {us : List Value} (h : OwnEs w base v es us) (hb : base' ≤ base) : OwnEs w base' v es us:=
  ⟨h.len,own_mono h.row hb,fun i e u he hu=>⟨(h.val i e u he hu).1.mono hb,(h.val i e u he hu).2⟩,h.lone⟩
theorem OwnEs.reads {w : World} {base : Nat} {v : Value} {es : List Ent} {us : List Value} (h : OwnEs w base v es us) : ∃ A c,v = .slice A es.length c ∧ kEnt.At w w.heap.size A es.length c es:=by
  refine own_reads (k:=kEnt) h.row rfl fun i e he=>?_
  have hi : i < us.length:=by rw [h.len]; exact (List.getElem?_eq_some_iff.1 he).1
  have hu:=List.getElem?_eq_getElem hi
  obtain ⟨hw,hk⟩:=h.val i e _ he hu
  obtain ⟨A,c,hsl,hat⟩:=hw.reads
  obtain ⟨h0,h1⟩:=entCells_get he hu
  refine ⟨A,_,c,?_,hk,hat⟩
  show ((entCells es us).drop (i * 2)).take 2 = _
  apply List.ext_getElem?
  intro j
  match j with
  | 0=>rw [List.getElem?_take,if_pos (by omega),List.getElem?_drop,Nat.add_zero,h0]; rfl
  | 1=>rw [List.getElem?_take,if_pos (by omega),List.getElem?_drop,h1,hsl]; rfl
  | j + 2=>rw [List.getElem?_take,if_neg (by omega)]; rfl
theorem OwnEs.at_ {w : World} {base : Nat} {A : Option Addr} {n c : Nat} {es : List Ent} {us : List Value} (h : OwnEs w base (.slice A n c) es us) : kEnt.At w w.heap.size A n c es:=by
  obtain ⟨A',c',he,hat⟩:=h.reads
  cases he
  exact hat
theorem OwnEs.block {w : World} {base : Nat} {A : Option Addr} {n c : Nat} {es : List Ent} {us : List Value} (h : OwnEs w base (.slice A n c) es us) (hn : 0 < n) : ∃ g,A = some ⟨g,0,none⟩ ∧ base ≤ g ∧ g < w.heap.size ∧ es.length = n:=by
  have hl:=h.at_.len
  rcases h.row.2 with ⟨_,h2⟩ | ⟨g,cap,cur,he,h2,h3,_⟩
  · omega
  · cases he
    exact ⟨g,rfl,h2,(Array.getElem?_eq_some_iff.1 h3).1,hl⟩
theorem OwnW.at_ {w : World} {base : Nat} {A : Option Addr} {n c : Nat} {xs : List Nat} (h : OwnW w base (.slice A n c) xs) : kW.At w w.heap.size A n c xs:=by
  obtain ⟨A',c',he,hat⟩:=h.reads
  cases he
  exact hat
theorem OwnW.far {w w' : World} {base g : Nat} {u : Value} {xs : List Nat} (h : OwnW w base u xs) (ho : Only g w w') (hg : g < base) : OwnW w' base u xs:=
  h.only ho (fun hb=>by have:=(h.row.lt g hb).1; omega)
theorem OwnEs.far {w w' : World} {base g : Nat} {v : Value} {es : List Ent} {us : List Value} (h : OwnEs w base v es us) (ho : Only g w w') (hg : g < base) : OwnEs w' base v es us:=
  ⟨h.len,h.row.kept ho (.inr (fun hb=>by have:=(h.row.lt g hb).1; omega)),fun i e u he hu=>⟨(h.val i e u he hu).1.far ho hg,(h.val i e u he hu).2⟩,h.lone⟩
theorem OwnEs.cells_ {w : World} {base g n c : Nat} {es : List Ent} {us : List Value} {j : Nat} {e : Ent} {u : Value} (h : OwnEs w base (.slice (some ⟨g,0,none⟩) n c) es us) (he : es[j]? = some e) (hu : us[j]? = some u) :
    w.cell? ⟨g,j * 2,none⟩ = some (.int .u32 (e.key : Int)) ∧ w.cell? ⟨g,j * 2 + 1,none⟩ = some u:=by
  obtain ⟨h0,h1⟩:=entCells_get he hu
  have a0:=h.row.cells (g:=g) rfl _ _ h0
  have a1:=h.row.cells (g:=g) rfl _ _ h1
  rw [add_lit0] at a0 a1
  exact ⟨a0,a1⟩
theorem OwnW.cells_ {w : World} {base : Nat} {u : Value} {xs : List Nat} {f x : Nat} (h : OwnW w base u xs) (hf : xs[f]? = some x) :
    ∃ g c,u = .slice (some ⟨g,0,none⟩) xs.length c ∧ base ≤ g ∧ g < w.heap.size ∧ xs.length ≤ c ∧ w.cell? ⟨g,f,none⟩ = some (.int .u32 (x : Int)) ∧ ∀ i,w.frozen? ⟨g,i,none⟩ = false:=by
  have hl:=(List.getElem?_eq_some_iff.1 hf).1
  rcases h.row.2 with ⟨_,h2⟩ | ⟨g,cap,cur,rfl,h2,h3,h4,h5,h6,h7⟩
  · omega
  · refine ⟨g,cap,rfl,h2,(Array.getElem?_eq_some_iff.1 h3).1,h4,?_,fun i=>frozen_of_row w g i cur _ h3⟩
    have:=h.row.cells (g:=g) rfl f _ (u32s_get hf)
    rwa [add_lit0] at this
theorem OwnEs.nil_ (w : World) (base : Nat) : OwnEs w base (.slice none 0 0) [] []:=
  ⟨rfl,World.ownsRow_nil w base _ 2,fun i e u he _=>by simp at he,fun i j u v b _ hu _ _=>by simp at hu⟩
theorem OwnW.made {w : World} {base g m : Nat} (h : Blk w g 25 (madeCells #[.int .u32 0] m)) (hb : base ≤ g) (hm : m ≤ maxLen) : OwnW w base (.slice (some ⟨g,0,none⟩) m m) (List.replicate m 0):=by
  refine ⟨⟨by simp [u32s_length],.inr ⟨g,m,_,by simp,hb,h,by simp,hm,by simp [size_madeCells],?_⟩⟩,fun x hx=>by simp at hx; omega⟩
  have:=toList_madeCells_one (.int .u32 0) m
  rw [this]
  simp [u32s]
theorem row_ne_box {w : World} {base b size n : Nat} {e t : TypeId} {v : Value} {xs : List Value} {cs : Array Value} (h : w.ownsRow base e size v n xs) (hb : Blk w b t cs) (ht : t ≠ e) : v.ownBlock ≠ some b:=by
  intro hv
  rcases h.2 with ⟨rfl,_⟩ | ⟨g',cap,cur,rfl,_,hg',_⟩
  · simp [Value.ownBlock] at hv
  · simp only [Value.ownBlock,Option.some.injEq] at hv
    subst hv
    unfold Blk at hb
    rw [hg'] at hb
    cases hb
    exact ht rfl
theorem OwnEs.box {w w' : World} {base b : Nat} {t : TypeId} {cs : Array Value} {v : Value} {es : List Ent} {us : List Value} (h : OwnEs w base v es us) (hb : Blk w b t cs) (ho : Only b w w') (h1 : t ≠ 66) (h2 : t ≠ 25) : OwnEs w' base v es us:=
  ⟨h.len,h.row.kept ho (.inr (row_ne_box h.row hb h1)),fun i e u he hu=>⟨(h.val i e u he hu).1.only ho (row_ne_box (h.val i e u he hu).1.row hb h2),(h.val i e u he hu).2⟩,h.lone⟩
def okEs (es : List Ent) : Prop:=∀ e ∈ es,e.key < 4294967296 ∧ lt32 e.v
theorem dat_kW {w : World} {ok : Nat → Prop} (hok : ∀ b,ok b → b < w.heap.size) {f : Bool} {xs : List Nat} {v : Value} (h : Dat w ok (.sl f (xs.map Xi)) v) (hl : lt32 xs) : ∃ A c,v = .slice A xs.length c ∧ kW.At w w.heap.size A xs.length c xs:=by
  cases h with
  | sl _ _ A c sz vals hc hm ht hsz hA hcell hd=>
    rw [List.length_map] at hc
    refine ⟨A,c,by rw [List.length_map],rfl,hc,hm,fun i x hx=>?_⟩
    have hx' : (xs.map Xi)[i]? = some (Xi x):=by rw [List.getElem?_map,hx]; rfl
    have h1 : 1 = sz:=hsz i _ hx'
    subst h1
    obtain ⟨a,rfl,ha⟩:=hA i _ hx'
    refine ⟨a,[.int .u32 (x : Int)],rfl,hok _ ha,?_,rfl,hl x (List.mem_of_getElem? hx)⟩
    intro j u hu
    cases j with
    | zero=>
      simp only [List.getElem?_cons_zero,Option.some.injEq] at hu
      subst hu
      have h2:=(hcell i 0 _ a hx' (by omega) rfl).1
      have h3:=hd i 0 _ _ hx' rfl
      generalize vals i 0 = q at h2 h3
      cases h3
      exact h2
    | succ j=>simp at hu
theorem dat_kEnt {w : World} {ok : Nat → Prop} (hok : ∀ b,ok b → b < w.heap.size) {f : Bool} {es : List Ent} {v : Value} (h : Dat w ok (.sl f (es.map Lk)) v) (hl : okEs es) : ∃ A c,v = .slice A es.length c ∧ kEnt.At w w.heap.size A es.length c es:=by
  cases h with
  | sl _ _ A c sz vals hc hm ht hsz hA hcell hd=>
    rw [List.length_map] at hc
    refine ⟨A,c,by rw [List.length_map],rfl,hc,hm,fun i x hx=>?_⟩
    have hx' : (es.map Lk)[i]? = some (Lk x):=by rw [List.getElem?_map,hx]; rfl
    have h1 : 2 = sz:=hsz i _ hx'
    subst h1
    obtain ⟨a,rfl,ha⟩:=hA i _ hx'
    have hm:=hl x (List.mem_of_getElem? hx)
    obtain ⟨A',c',e1,e2⟩:=dat_kW hok (hd i 1 _ _ hx' rfl) hm.2
    refine ⟨a,[.int .u32 (x.key : Int),.slice A' x.v.length c'],rfl,hok _ ha,?_,A',_,c',rfl,hm.1,e2⟩
    intro j u hu
    match j,hu with
    | 0,hu=>
      simp only [List.getElem?_cons_zero,Option.some.injEq] at hu
      subst hu
      have h2:=(hcell i 0 _ a hx' (by omega) rfl).1
      have h3:=hd i 0 _ _ hx' rfl
      generalize vals i 0 = q at h2 h3
      cases h3
      exact h2
    | 1,hu=>
      simp only [List.getElem?_cons_succ,List.getElem?_cons_zero,Option.some.injEq] at hu
      subst hu
      have h2:=(hcell i 1 _ a hx' (by omega) rfl).1
      rw [e1] at h2
      exact h2
    | j + 2,hu=>simp at hu
theorem ownW_dat {w : World} {base : Nat} {ok : Nat → Prop} {u : Value} {xs : List Nat} (h : OwnW w base u xs) (hok : ∀ b,u.ownBlock = some b → base ≤ b → b < w.heap.size → ok b) : Dat w ok (.sl false (xs.map Xi)) u:=by
  rcases h.row.2 with ⟨rfl,h2⟩ | ⟨g,cap,cur,rfl,h2,h3,h4,h5,h6,h7⟩
  · have : xs = []:=List.length_eq_zero_iff.1 h2
    subst this
    exact .nil _ _
  · have hg:=(Array.getElem?_eq_some_iff.1 h3).1
    have hlen : (xs.map Xi).length = xs.length:=List.length_map _
    have key:=Dat.sl (w:=w) (ok:=ok) false (xs.map Xi) (some ⟨g,0,none⟩) cap 1 (fun i j=>.int .u32 (((xs[i]?).getD 0 : Nat) : Int)) (by rw [hlen]; exact h4) h5 (by intro h; cases h) ?_ ?_ ?_ ?_
    · rw [hlen] at key
      exact key
    · intro i cs hi
      rw [List.getElem?_map] at hi
      obtain ⟨x,_,rfl⟩:=Option.map_eq_some_iff.1 hi
      rfl
    · intro i cs hi
      exact ⟨_,rfl,hok g rfl h2 hg⟩
    · intro i j cs a hi hj ha
      injection ha with ha
      subst ha
      rw [List.getElem?_map] at hi
      obtain ⟨x,hx,rfl⟩:=Option.map_eq_some_iff.1 hi
      have : j = 0:=by omega
      subst this
      obtain ⟨g',c',e1,_,_,_,e2,_⟩:=h.cells_ hx
      injection e1 with e1
      injection e1 with e1
      injection e1 with e1
      subst e1
      rw [add_lit0,Nat.mul_one,Nat.add_zero,hx]
      exact ⟨e2,rfl⟩
    · intro i j cs u hi hu
      rw [List.getElem?_map] at hi
      obtain ⟨x,hx,rfl⟩:=Option.map_eq_some_iff.1 hi
      match j,hu with
      | 0,hu=>
        simp only [Xi,List.getElem?_cons_zero,Option.some.injEq] at hu
        subst hu
        rw [hx]
        exact .raw _
      | j + 1,hu=>simp [Xi] at hu
theorem ownEs_dat {w : World} {base : Nat} {ok : Nat → Prop} {v : Value} {es : List Ent} {us : List Value} (h : OwnEs w base v es us) (hok : ∀ b,base ≤ b → b < w.heap.size → ok b) : Dat w ok (.sl false (es.map Lk)) v:=by
  rcases h.row.2 with ⟨rfl,h2⟩ | ⟨g,cap,cur,rfl,h2,h3,h4,h5,h6,h7⟩
  · have : es = []:=List.length_eq_zero_iff.1 h2
    subst this
    exact .nil _ _
  · have hg:=(Array.getElem?_eq_some_iff.1 h3).1
    have hlen : (es.map Lk).length = es.length:=List.length_map _
    have hus : ∀ i x,es[i]? = some x → ∃ u,us[i]? = some u:=fun i x hx=>by
      have:=(List.getElem?_eq_some_iff.1 hx).1
      exact ⟨_,List.getElem?_eq_getElem (by rw [h.len]; exact this)⟩
    have key:=Dat.sl (w:=w) (ok:=ok) false (es.map Lk) (some ⟨g,0,none⟩) cap 2 (fun i j=>if j = 0 then .int .u32 ((((es[i]?).map Ent.key).getD 0 : Nat) : Int) else (us[i]?).getD undef) (by rw [hlen]; exact h4) h5 (by intro h; cases h) ?_ ?_ ?_ ?_
    · rw [hlen] at key
      exact key
    · intro i cs hi
      rw [List.getElem?_map] at hi
      obtain ⟨x,_,rfl⟩:=Option.map_eq_some_iff.1 hi
      rfl
    · intro i cs hi
      exact ⟨_,rfl,hok g h2 hg⟩
    · intro i j cs a hi hj ha
      injection ha with ha
      subst ha
      rw [List.getElem?_map] at hi
      obtain ⟨x,hx,rfl⟩:=Option.map_eq_some_iff.1 hi
      obtain ⟨u,hu⟩:=hus i x hx
      obtain ⟨c0,c1⟩:=h.cells_ hx hu
      have hj2 : j = 0 ∨ j = 1:=by omega
      rcases hj2 with rfl | rfl
      · rw [add_lit0,Nat.add_zero,hx]
        exact ⟨c0,rfl⟩
      · rw [add_lit0,hu]
        exact ⟨c1,(ownW_dat (h.val i x u hx hu).1 fun b _=>hok b).one⟩
    · intro i j cs u hi hu
      rw [List.getElem?_map] at hi
      obtain ⟨x,hx,rfl⟩:=Option.map_eq_some_iff.1 hi
      match j,hu with
      | 0,hu=>
        simp only [Lk,List.getElem?_cons_zero,Option.some.injEq] at hu
        subst hu
        rw [hx]
        exact .raw _
      | 1,hu=>
        simp only [Lk,List.getElem?_cons_succ,List.getElem?_cons_zero,Option.some.injEq] at hu
        subst hu
        obtain ⟨u,hu⟩:=hus i x hx
        rw [hu]
        exact ownW_dat (h.val i x u hx hu).1 fun b _=>hok b
      | j + 2,hu=>simp [Lk] at hu
def Cx.fresh (x : Cx) (w w' : World) : Cx:={ x with ok:=fun b=>x.ok b ∨ (w.heap.size ≤ b ∧ b < w'.heap.size) }
theorem Stp.fresh {w w' : World} {x : Cx} (h : HRel w x []) (hb : Below w.heap.size w w') : Stp w x [] w' (x.fresh w w') []:=by
  refine ⟨⟨fun b hb=>.inl hb,fun _ _ h=>h,fun b hk=>hb.block b (h.okb b hk),?_,?_,?_⟩,⟨hb.os,hb.tape,hb.output,hb.size,fun b hk _=>hb.block b hk,?_,?_⟩,⟨?_,?_,?_,?_,?_,?_,?_⟩⟩
  · rintro id _ ⟨t,cs,h⟩; simp [look] at h
  · rintro id g sz _ ⟨t,cs,h⟩; simp [look] at h
  · rintro id _ ⟨t,cs,h⟩; simp [look] at h
  · rintro b (h | h)
    · exact .inl h
    · exact .inr (.inl h.1)
  · intro id o b h; simp [look] at h
  · rintro b (h1 | h1)
    · exact Nat.lt_of_lt_of_le (h.okb b h1) hb.size
    · exact h1.2
  all_goals intros; simp_all [look]
theorem Ctr.old {P : Program} {f : FuncId} {args : List AV} {r : AV} (hcall : ∀ vals w,(callFunc f vals).run P w = .ok (.enter f vals) w)
    (h : ∀ (w : World) (x : Cx) (vals : Array Value),HRel w x [] → vals.size = args.length → (∀ (i : Nat) (u : AV),args[i]? = some u → VRel w x [] u (vals.getD i undef)) →
      Calls P f vals w fun e w'=>∃ v,e = .returned v ∧ Below w.heap.size w w' ∧ VRel w' (x.fresh w w') [] r v) : Ctr P f args [] r []:=
  ⟨hcall,fun w x vals hH hdom hsz hargs=>Calls.mono (h w x vals hH hsz hargs) fun e w' ⟨v,he,hb,hv⟩=>⟨v,x.fresh w w',he,Stp.fresh hH hb,hv,fun id g hd=>.inr (hdom id g hd)⟩⟩
theorem fresh_ok {x : Cx} {w w' : World} : ∀ b,w.heap.size ≤ b → b < w'.heap.size → (x.fresh w w').ok b:=fun b h1 h2=>.inr ⟨h1,h2⟩
theorem VRel.slInv {w : World} {x : Cx} {hp : Hp} {f : Bool} {els : List (List AV)} {u : Value} (h : VRel w x hp (.sl f els) u) : Dat w x.ok (.sl f els) u:=by cases h with | dat h=>exact h
theorem VRel.aggInv {w : World} {x : Cx} {hp : Hp} {cs : List AV} {u : Value} (h : VRel w x hp (.agg cs) u) : ∃ vs : Array Value,u = .agg vs ∧ vs.size = cs.length ∧ ∀ (i : Nat) (c : AV),cs[i]? = some c → VRel w x hp c (vs.getD i undef):=by
  cases h with
  | dat h=>cases h
  | agg _ vs hl h1 h=>exact ⟨vs,rfl,hl,h⟩
theorem arr_eq {vs us : Array Value} (hl : vs.size = us.size) (h : ∀ i,i < us.size → vs.getD i undef = us.getD i undef) : vs = us:=by
  refine Array.ext hl fun i h1 h2=>?_
  have:=h i h2
  simpa [Array.getD,h1,h2] using this
theorem avTab_inv {w : World} {x : Cx} {hp : Hp} {f : Bool} {t : Tab} {u : Value} (hok : ∀ b,x.ok b → b < w.heap.size) (h : VRel w x hp (avTab f t) u) (hl : okEs t.e) : ∃ A c,u = tabV t.s A t.e.length c t.next ∧ kEnt.At w w.heap.size A t.e.length c t.e:=by
  obtain ⟨vs,rfl,hs,hv⟩:=h.aggInv
  obtain ⟨A,c,e1,e2⟩:=dat_kEnt hok (hv 4 _ rfl).slInv hl
  refine ⟨A,c,?_,e2⟩
  refine congrArg Value.agg (arr_eq hs fun i hi=>?_)
  have hi : i < 6:=hi
  match i,hi with
  | 0,_=>exact (hv 0 _ rfl).rawEq
  | 1,_=>exact (hv 1 _ rfl).rawEq
  | 2,_=>exact (hv 2 _ rfl).rawEq
  | 3,_=>exact (hv 3 _ rfl).rawEq
  | 4,_=>exact e1
  | 5,_=>exact (hv 5 _ rfl).rawEq
theorem avSch_inv {w : World} {x : Cx} {hp : Hp} {s : Sch} {u : Value} (h : VRel w x hp (avSch s) u) : u = .agg #[.int .i64 s.kind,.int .i64 s.cap,.int .i64 s.words,.int .i64 s.ver]:=by
  obtain ⟨vs,rfl,hs,hv⟩:=h.aggInv
  refine congrArg Value.agg (arr_eq hs fun i hi=>?_)
  have hi : i < 4:=hi
  match i,hi with
  | 0,_=>exact (hv 0 _ rfl).rawEq
  | 1,_=>exact (hv 1 _ rfl).rawEq
  | 2,_=>exact (hv 2 _ rfl).rawEq
  | 3,_=>exact (hv 3 _ rfl).rawEq
theorem avTab_of {w : World} {x : Cx} {hp : Hp} {f : Bool} {t : Tab} {A : Option Addr} {n c : Nat} (h : Dat w x.ok (.sl f (t.e.map Lk)) (.slice A n c)) : VRel w x hp (avTab f t) (tabV t.s A n c t.next):=by
  refine .agg _ _ rfl ?_ ?_
  · intro i hi
    have hi : i < 6:=hi
    match i,hi with
    | 0,_=>rfl
    | 1,_=>rfl
    | 2,_=>rfl
    | 3,_=>rfl
    | 4,_=>rfl
    | 5,_=>rfl
  · intro i u hu
    match i,hu with
    | 0,hu=>cases hu; exact .raw _
    | 1,hu=>cases hu; exact .raw _
    | 2,hu=>cases hu; exact .raw _
    | 3,hu=>cases hu; exact .raw _
    | 4,hu=>cases hu; exact .dat h
    | 5,hu=>cases hu; exact .raw _
    | i + 6,hu=>simp [cellsTab] at hu
structure OwnRel (g b0 : Nat) (es : List Ent) (vs : List Value) (k : Nat) (us : List Value) (wr : World) : Prop where
  len : us.length = es.length
  rest : ∀ i,k ≤ i → us[i]? = vs[i]?
  blk : Blk wr g 66 (entCells es us).toArray
  own : ∀ (i : Nat) (e : Ent) (u : Value),i < k → es[i]? = some e → us[i]? = some u → OwnW wr b0 u e.v
  lone : ∀ (i j : Nat) (u v : Value) (b : Nat),i < k → j < k → i ≠ j → us[i]? = some u → us[j]? = some v → u.ownBlock = some b → v.ownBlock ≠ some b
theorem OwnRel.step {g b0 gv : Nat} {es : List Ent} {vs us : List Value} {k : Nat} {e : Ent} {wr w' : World} (h : OwnRel g b0 es vs k us wr) (he : es[k]? = some e) (hw : ∀ i,i < wr.heap.size → i ≠ g → w'.heap[i]? = wr.heap[i]?)
    (hos : w'.os = wr.os) (htape : w'.tape = wr.tape) (hout : w'.output = wr.output) (hsize : wr.heap.size ≤ w'.heap.size) (hgv : gv = wr.heap.size) (hb0 : b0 ≤ gv)
    (hg : Blk w' g 66 ((entCells es us).set (k * 2 + 1) (.slice (some ⟨gv,0,none⟩) e.v.length e.v.length)).toArray) (hv : Blk w' gv 25 (u32s e.v).toArray) (hlt : lt32 e.v) (hm : e.v.length ≤ maxLen) :
    OwnRel g b0 es vs (k + 1) (us.set k (.slice (some ⟨gv,0,none⟩) e.v.length e.v.length)) w':=by
  have hgr : wr.grownBy w' (some g):=⟨hos,htape,hout,hsize,fun i hi hn=>hw i hi (fun e=>hn (by rw [e]))⟩
  have hku : k < us.length:=by rw [h.len]; exact (List.getElem?_eq_some_iff.1 he).1
  refine ⟨by simp [h.len],fun i hi=>?_,by rw [entCells_set] at hg; exact hg,fun i e' u hi he' hu=>?_,fun i j u v b hi hj hij hu hv' hb=>?_⟩
  · rw [List.getElem?_set_ne (by omega)]
    exact h.rest i (by omega)
  · rcases Nat.lt_or_ge i k with hik | hik
    · rw [List.getElem?_set_ne (by omega)] at hu
      have ho:=h.own i e' u hik he' hu
      refine ho.only hgr ?_
      intro hb
      rcases ho.row.2 with ⟨rfl,_⟩ | ⟨g',cap,cur,rfl,_,hg',_⟩
      · simp [Value.ownBlock] at hb
      · simp only [Value.ownBlock,Option.some.injEq] at hb
        subst hb
        have:=h.blk
        unfold Blk at this
        rw [hg'] at this
        simp at this
    · obtain rfl : i = k:=by omega
      rw [he] at he'
      cases he'
      rw [List.getElem?_set_self hku] at hu
      cases hu
      refine ⟨⟨by simp [u32s_length],.inr ⟨gv,_,_,rfl,hb0,hv,Nat.le_refl _,hm,by simp [u32s_length],?_⟩⟩,hlt⟩
      rw [List.toList_toArray,List.take_of_length_le (by simp [u32s_length])]
  · have old : ∀ (i : Nat) (u : Value) (b : Nat),i < k → us[i]? = some u → u.ownBlock = some b → b < gv:=by
      intro i u b hi hu hb
      have hil : i < es.length:=by rw [← h.len]; exact (List.getElem?_eq_some_iff.1 hu).1
      have:=(h.own i _ u hi (List.getElem?_eq_getElem hil) hu).row.lt b hb
      omega
    rcases Nat.lt_or_ge i k with hik | hik
    · rw [List.getElem?_set_ne (by omega)] at hu
      rcases Nat.lt_or_ge j k with hjk | hjk
      · rw [List.getElem?_set_ne (by omega)] at hv'
        exact h.lone i j u v b hik hjk hij hu hv' hb
      · obtain rfl : j = k:=by omega
        rw [List.getElem?_set_self hku] at hv'
        cases hv'
        have:=old i u b hik hu hb
        simp only [Value.ownBlock,ne_eq,Option.some.injEq]
        omega
    · obtain rfl : i = k:=by omega
      rw [List.getElem?_set_self hku] at hu
      cases hu
      simp only [Value.ownBlock,Option.some.injEq] at hb
      subst hb
      rw [List.getElem?_set_ne (by omega)] at hv'
      intro hvb
      have:=old j v _ (by omega) hv' hvb
      omega
def toLast {α : Type} (l : List α) (i : Nat) : List α:=l.eraseIdx i ++ (l[i]?).toList
def touch {α : Type} (kind : Int) (l : List α) (i : Nat) : List α:=if kind = 2 then toLast l i else l
theorem fidx_found {key : Nat} : ∀ {es : List Ent} {j k : Nat} {e : Ent},es[k]? = some e → e.key = key → (∀ (i : Nat) (x : Ent),i < k → es[i]? = some x → x.key ≠ key) → fidx key es j = ((j + k : Nat) : Int)
  | [],j,k,e,h,_,_=>by simp at h
  | x :: es,j,0,e,h,hk,_=>by
    simp at h
    subst h
    simp [fidx,hk]
  | x :: es,j,k + 1,e,h,hk,hn=>by
    have hx : x.key ≠ key:=hn 0 x (by omega) rfl
    have ih:=fidx_found (es:=es) (j:=j + 1) (k:=k) (by simpa using h) hk (fun i y hi hy=>hn (i + 1) y (by omega) (by simpa using hy))
    simp only [fidx,if_neg hx]
    rw [ih]
    omega
theorem fidx_none {key : Nat} : ∀ {es : List Ent} {j : Nat},(∀ (i : Nat) (x : Ent),es[i]? = some x → x.key ≠ key) → fidx key es j = -1
  | [],j,_=>rfl
  | x :: es,j,hn=>by
    have hx : x.key ≠ key:=hn 0 x rfl
    simp only [fidx,if_neg hx]
    exact fidx_none (fun i y hy=>hn (i + 1) y (by simpa using hy))
theorem in_any (n lo hi : Int) (w : World) : Calls prog 89 #[.int .i64 n,.int .i64 lo,.int .i64 hi] w fun e w'=>e = .returned (.bool (inB n lo hi)) ∧ w = w':=by
  unfold inB
  go_enter func89,ntmps89
  go_wp2
  all_goals (go_ret; simp_all; try omega)
theorem schMay_any (k c n v : Int) (w : World) : Calls prog 56 #[.agg #[.int .i64 k,.int .i64 c,.int .i64 n,.int .i64 v]] w fun e w'=>e = .returned (.bool (Sch.may ⟨k,c,n,v⟩)) ∧ Below w.heap.size w w':=by
  go_enter func56,ntmps56
  go_wp2_with ((go_at_call 89; refine (in_any _ _ _ _).mono ?_; rintro e w' ⟨rfl,rfl⟩))
  all_goals
    go_ret
    refine ⟨ret_bool ?_,(Below.refl _ _).alloc (Nat.le_refl _) _⟩
    simp_all [Sch.may]
set_option maxHeartbeats 400000 in
theorem find_any (s : Sch) (A : Option Addr) (n c nx key : Nat) (es : List Ent) (w : World) (B : Nat) (hB : B ≤ w.heap.size) (hE : kEnt.At w B A n c es) :
    Calls prog 57 #[tabV s A n c nx,.int .u32 (key : Int)] w fun e w'=>e = .returned (.int .i64 (fidx key es 0)) ∧ Below w.heap.size w w':=by
  have hn:=hE.nle
  unfold tabV
  go_enter func57,ntmps57
  go_wp2
  go_step3
  go_wp2
  go_step3
  go_wp2
  go_loopw [5,11] (fun a i wr=>∃ k : Nat,k ≤ n ∧ a = .int .i64 (-1) ∧ i = .int .i64 k ∧ Below w.heap.size w wr ∧ (∀ (i : Nat) (x : Ent),i < k → es[i]? = some x → x.key ≠ key)) (fun _ i _=>n - (intOf i).toNat)
  case atStart=>exact ⟨0,Nat.zero_le _,rfl,rfl,(Below.refl _ _).alloc (Nat.le_refl _) _,fun i x h=>absurd h (by omega)⟩
  case round=>
    obtain ⟨k,hk,rfl,rfl,hb,hno⟩:=hrel
    replace hno:=Lib.hid hno
    by_cases hlt : k < n
    · obtain ⟨e,ad,A',n',c',he,rfl,hadB,h0,h1,hkey,hv⟩:=kEnt.get (hE.below (hb.mono hB)) hlt
      replace he:=Lib.hid he
      have hbs:=hb.size
      by_cases hkk : e.key = key
      · have hd : ((e.key : Int) == (key : Int)) = true:=by simp [hkk]
        have hfin:=Lib.hid (fidx_found (j:=0) he.out hkk hno.out)
        go_wp2
        rw [Exit.noGoto_ret]
        go_ret
        exact ⟨ret_int (by rw [hfin.out]; simp),hb.alloc hbs _⟩
      · have hd : ((e.key : Int) == (key : Int)) = false:=by simp; omega
        go_wp2
        go_roundw
        case rel=>
          refine ⟨k + 1,by omega,rfl,by go_num,hb.alloc hbs _,fun i x hi hx=>?_⟩
          rcases Nat.lt_or_ge i k with h | h
          · exact hno.out i x h hx
          · obtain rfl : i = k:=by omega
            rw [he.out] at hx
            cases hx
            exact hkk
        case measure=>simp [intOf]; omega
    · obtain rfl : k = n:=by omega
      have hfin:=Lib.hid (fidx_none (key:=key) (es:=es) (j:=0) (fun i x hx=>hno.out i x (by rw [← hE.len]; exact (List.getElem?_eq_some_iff.1 hx).1) hx))
      go_wp2
      rw [Exit.noGoto_ret]
      go_ret
      exact ⟨ret_int (by rw [hfin.out]),hb⟩
theorem allOk_succ {t : Tab} {k : Nat} {e : Ent} (h : ∀ (i : Nat) (x : Ent),i < k → t.e[i]? = some x → t.elOk i x = true) (he : t.e[k]? = some e) (hok : t.elOk k e = true) :
    ∀ (i : Nat) (x : Ent),i < k + 1 → t.e[i]? = some x → t.elOk i x = true:=by
  intro i x hi hx
  rcases Nat.lt_or_ge i k with h' | h'
  · exact h i x h' hx
  · obtain rfl : i = k:=by omega
    rw [he] at hx
    cases hx
    exact hok
theorem Tab.may_yes {t : Tab} (hh : t.headOk = true) (h : ∀ (i : Nat) (x : Ent),i < t.e.length → t.e[i]? = some x → t.elOk i x = true) : t.may = true:=
  (t.may_iff).2 ⟨hh,fun i e hi=>h i e (List.getElem?_eq_some_iff.1 hi).1 hi⟩
set_option maxRecDepth 100000 in
set_option maxHeartbeats 4000000 in
theorem tabMay_any (s : Sch) (A : Option Addr) (n c nx : Nat) (es : List Ent) (w : World) (hx : nx < 4294967296) (hE : kEnt.At w w.heap.size A n c es) :
    Calls prog 22 #[tabV s A n c nx] w fun e w'=>e = .returned (.bool (Tab.may ⟨s,es,nx⟩)) ∧ Below w.heap.size w w':=by
  have hn:=hE.nle
  have hl:=Lib.hid hE.len
  rcases h3 : (s.kind == 3) with _ | _ <;> rcases h0 : (s.kind == 0) with _ | _
  case true.true=>simp at h3 h0; omega
  all_goals
    unfold tabV
    go_enter func22,ntmps22
    go_wp2_with fail
    go_quiet (fail)
    go_wp2_with fail
    refine (schMay_any _ _ _ _ _).mono ?_
    rintro e w1 ⟨rfl,hb1⟩
    have hw1:=below_of (below_drewN (below_box _ _) _) hb1
    obtain ⟨hc1,hf1⟩:=bcell hb1
    rcases hm : Sch.may s with _ | _
    · go_wp2_with fail
      go_ret
      exact ⟨ret_bool (Tab.may_head _ (by simp [Tab.headOk,hm])).symm,hw1⟩
    by_cases hcap : s.cap < (n : Int)
    · go_wp2_with fail
      go_ret
      exact ⟨ret_bool (Tab.may_head _ (by simp [Tab.headOk,hl.out]; omega)).symm,hw1⟩
  · by_cases hnx : nx = 0
    · subst hnx
      go_wp2_with fail
      go_loopw [61] (fun i wr=>∃ k : Nat,k ≤ n ∧ i = .int .i64 k ∧ Below (w.heap.size + 1) w1 wr ∧ (∀ (i : Nat) (x : Ent),i < k → es[i]? = some x → Tab.elOk ⟨s,es,0⟩ i x = true)) (fun i _=>n - (intOf i).toNat)
      case atStart=>exact ⟨0,Nat.zero_le _,rfl,Below.refl _ _,fun i x h=>absurd h (by omega)⟩
      case round=>
        obtain ⟨k,hk,rfl,hb,hno⟩:=hrel
        replace hno:=Lib.hid hno
        have hbr:=hw1.trans (hb.mono (Nat.le_succ _))
        have hsz:=hb.size
        have hsz1:=hb1.size
        simp only [World.size_alloc,World.heap_drewN] at hsz1
        have hszr : w.heap.size < wr.heap.size:=by omega
        obtain ⟨hc2,hf2⟩:=bcell hb
        by_cases hlt : k < n
        · obtain ⟨e,ad,A',n',c',he,rfl,hadB,hk0,hk1,hkey,hv⟩:=kEnt.get (hE.below hbr) hlt
          replace he:=Lib.hid he
          replace hv:=Lib.hid hv.len
          by_cases q2 : (n' : Int) = s.words
          case neg=>
            have q2b : ((n' : Int) != s.words) = true:=by simp [q2]
            replace q2:=Lib.hid q2
            go_wp2_with fail
            go_ret
            exact ⟨ret_bool (Tab.may_no _ he.out (Tab.elOk_no (by rintro ⟨r1,_⟩; rw [hv.out] at r1; exact q2.out r1))).symm,hbr.alloc (by omega) _⟩
          have q2b : ((n' : Int) != s.words) = false:=by simp [q2]
          replace q2:=Lib.hid q2
          rcases q3 : (fidx e.key es 0 != (k : Int)) with _ | _
          · go_wp2_with (go_at_call 57; refine (find_any _ _ _ _ _ _ es _ w.heap.size (by simp; omega) (by exact hE.below (hbr.alloc (by omega) _))).mono ?_; rintro e1 w2 ⟨rfl,hb2⟩)
            refine ⟨⟨k + 1,by omega,by go_num,(hb.alloc (by omega) _).trans (hb2.mono (by simp; omega)),?_⟩,by simp [intOf]; omega⟩
            refine allOk_succ (t:=⟨s,es,0⟩) hno.out he.out ((Tab.elOk_iff _ _ _).2 ⟨by rw [hv.out]; exact q2.out,by simpa using q3,fun q=>by simp at h0; exact absurd q h0,fun q=>by simp at h3; exact absurd q h3⟩)
          · go_wp2_with (go_at_call 57; refine (find_any _ _ _ _ _ _ es _ w.heap.size (by simp; omega) (by exact hE.below (hbr.alloc (by omega) _))).mono ?_; rintro e1 w2 ⟨rfl,hb2⟩)
            go_ret
            exact ⟨ret_bool (Tab.may_no _ he.out (Tab.elOk_no (by rintro ⟨_,r2,_⟩; simp [r2] at q3))).symm,(hbr.alloc (by omega) _).trans (hb2.mono (by simp; omega))⟩
        · go_wp2_with fail
          go_ret
          obtain rfl : k = n:=by omega
          refine ⟨ret_bool (Tab.may_yes ?_ (by rw [hl.out]; exact hno.out)).symm,hbr⟩
          simp [Tab.headOk,hl.out,hm] at h3 h0 ⊢
          omega
    · go_wp2_with fail
      go_ret
      exact ⟨ret_bool (Tab.may_head _ (by simp at h3; simp [Tab.headOk,h3,hnx])).symm,hw1⟩
  · by_cases hnx : nx = 0
    · subst hnx
      by_cases hnc : (n : Int) = s.cap
      case neg=>
        have hnc' : ((n : Int) != s.cap) = true:=by simp [hnc]
        go_wp2_with fail
        go_ret
        exact ⟨ret_bool (Tab.may_head _ (by simp at h0; simp [Tab.headOk,h0,hl.out,hnc])).symm,hw1⟩
      have hb16:=(Sch.may_bounds hm).2.2.2.1
      have hnc' : ((n : Int) != s.cap) = false:=by simp [hnc]
      replace hnc:=Lib.hid hnc
      go_wp2_with fail
      go_loopw [61] (fun i wr=>∃ k : Nat,k ≤ n ∧ i = .int .i64 k ∧ Below (w.heap.size + 1) w1 wr ∧ (∀ (i : Nat) (x : Ent),i < k → es[i]? = some x → Tab.elOk ⟨s,es,0⟩ i x = true)) (fun i _=>n - (intOf i).toNat)
      case atStart=>exact ⟨0,Nat.zero_le _,rfl,Below.refl _ _,fun i x h=>absurd h (by omega)⟩
      case round=>
        obtain ⟨k,hk,rfl,hb,hno⟩:=hrel
        replace hno:=Lib.hid hno
        have hbr:=hw1.trans (hb.mono (Nat.le_succ _))
        have hsz:=hb.size
        have hsz1:=hb1.size
        simp only [World.size_alloc,World.heap_drewN] at hsz1
        have hszr : w.heap.size < wr.heap.size:=by omega
        obtain ⟨hc2,hf2⟩:=bcell hb
        by_cases hlt : k < n
        · obtain ⟨e,ad,A',n',c',he,rfl,hadB,hk0,hk1,hkey,hv⟩:=kEnt.get (hE.below hbr) hlt
          replace he:=Lib.hid he
          replace hv:=Lib.hid hv.len
          have hk16 : k < 4294967296:=by omega
          by_cases q1 : e.key = k
          case neg=>
            have q1b : ((e.key : Int) != (k : Int)) = true:=by simp; omega
            replace q1:=Lib.hid q1
            go_wp2_with fail
            go_ret
            exact ⟨ret_bool (Tab.may_no _ he.out (Tab.elOk_no (by rintro ⟨_,_,r3,_⟩; simp at h0; exact q1.out (r3 h0)))).symm,hbr.alloc (by omega) _⟩
          have q1b : ((e.key : Int) != (k : Int)) = false:=by simp [q1]
          replace q1:=Lib.hid q1
          by_cases q2 : (n' : Int) = s.words
          case neg=>
            have q2b : ((n' : Int) != s.words) = true:=by simp [q2]
            replace q2:=Lib.hid q2
            go_wp2_with fail
            go_ret
            exact ⟨ret_bool (Tab.may_no _ he.out (Tab.elOk_no (by rintro ⟨r1,_⟩; rw [hv.out] at r1; exact q2.out r1))).symm,hbr.alloc (by omega) _⟩
          have q2b : ((n' : Int) != s.words) = false:=by simp [q2]
          replace q2:=Lib.hid q2
          rcases q3 : (fidx e.key es 0 != (k : Int)) with _ | _
          · go_wp2_with (go_at_call 57; refine (find_any _ _ _ _ _ _ es _ w.heap.size (by simp; omega) (by exact hE.below (hbr.alloc (by omega) _))).mono ?_; rintro e1 w2 ⟨rfl,hb2⟩)
            refine ⟨⟨k + 1,by omega,by go_num,(hb.alloc (by omega) _).trans (hb2.mono (by simp; omega)),?_⟩,by simp [intOf]; omega⟩
            refine allOk_succ (t:=⟨s,es,0⟩) hno.out he.out ((Tab.elOk_iff _ _ _).2 ⟨by rw [hv.out]; exact q2.out,by simpa using q3,fun _=>q1.out,fun q=>by simp at h3; exact absurd q h3⟩)
          · go_wp2_with (go_at_call 57; refine (find_any _ _ _ _ _ _ es _ w.heap.size (by simp; omega) (by exact hE.below (hbr.alloc (by omega) _))).mono ?_; rintro e1 w2 ⟨rfl,hb2⟩)
            go_ret
            exact ⟨ret_bool (Tab.may_no _ he.out (Tab.elOk_no (by rintro ⟨_,r2,_⟩; simp [r2] at q3))).symm,(hbr.alloc (by omega) _).trans (hb2.mono (by simp; omega))⟩
        · go_wp2_with fail
          go_ret
          obtain rfl : k = n:=by omega
          refine ⟨ret_bool (Tab.may_yes ?_ (by rw [hl.out]; exact hno.out)).symm,hbr⟩
          have:=hnc.out
          simp [Tab.headOk,hl.out,hm] at h3 h0 ⊢
          omega
    · go_wp2_with fail
      go_ret
      exact ⟨ret_bool (Tab.may_head _ (by simp at h3; simp [Tab.headOk,h3,hnx])).symm,hw1⟩
  · · have hb16:=(Sch.may_bounds hm).2.2.2.1
      go_wp2_with fail
      go_loopw [61] (fun i wr=>∃ k : Nat,k ≤ n ∧ i = .int .i64 k ∧ Below (w.heap.size + 1) w1 wr ∧ (∀ (i : Nat) (x : Ent),i < k → es[i]? = some x → Tab.elOk ⟨s,es,nx⟩ i x = true)) (fun i _=>n - (intOf i).toNat)
      case atStart=>exact ⟨0,Nat.zero_le _,rfl,Below.refl _ _,fun i x h=>absurd h (by omega)⟩
      case round=>
        obtain ⟨k,hk,rfl,hb,hno⟩:=hrel
        replace hno:=Lib.hid hno
        have hbr:=hw1.trans (hb.mono (Nat.le_succ _))
        have hsz:=hb.size
        have hsz1:=hb1.size
        simp only [World.size_alloc,World.heap_drewN] at hsz1
        have hszr : w.heap.size < wr.heap.size:=by omega
        obtain ⟨hc2,hf2⟩:=bcell hb
        by_cases hlt : k < n
        · obtain ⟨e,ad,A',n',c',he,rfl,hadB,hk0,hk1,hkey,hv⟩:=kEnt.get (hE.below hbr) hlt
          replace he:=Lib.hid he
          replace hv:=Lib.hid hv.len
          have hkx : (((nx + (4294967296 - es.length) + k) % 4294967296 : Nat) : Int) = ((nx : Int) - n + k) % 4294967296:=by rw [hl.out]; omega
          replace hkx:=Lib.hid hkx
          rcases q1 : ((e.key : Int) != ((nx : Int) - n + k) % 4294967296) with _ | _
          case true=>
            go_wp2_with fail
            go_ret
            exact ⟨ret_bool (Tab.may_no _ he.out (Tab.elOk_no (by rintro ⟨_,_,_,r4⟩; simp at h3; have r5:=r4 h3; have:=hkx.out; simp only at r5; rw [← r5] at this; simp [this] at q1))).symm,hbr.alloc (by omega) _⟩
          by_cases q2 : (n' : Int) = s.words
          case neg=>
            have q2b : ((n' : Int) != s.words) = true:=by simp [q2]
            replace q2:=Lib.hid q2
            go_wp2_with fail
            go_ret
            exact ⟨ret_bool (Tab.may_no _ he.out (Tab.elOk_no (by rintro ⟨r1,_⟩; rw [hv.out] at r1; exact q2.out r1))).symm,hbr.alloc (by omega) _⟩
          have q2b : ((n' : Int) != s.words) = false:=by simp [q2]
          replace q2:=Lib.hid q2
          rcases q3 : (fidx e.key es 0 != (k : Int)) with _ | _
          · go_wp2_with (go_at_call 57; refine (find_any _ _ _ _ _ _ es _ w.heap.size (by simp; omega) (by exact hE.below (hbr.alloc (by omega) _))).mono ?_; rintro e1 w2 ⟨rfl,hb2⟩)
            refine ⟨⟨k + 1,by omega,by go_num,(hb.alloc (by omega) _).trans (hb2.mono (by simp; omega)),?_⟩,by simp [intOf]; omega⟩
            refine allOk_succ (t:=⟨s,es,nx⟩) hno.out he.out ((Tab.elOk_iff _ _ _).2 ⟨by rw [hv.out]; exact q2.out,by simpa using q3,fun q=>by simp at h0; exact absurd q h0,fun _=>by have:=hkx.out; simp at q1; simp only; omega⟩)
          · go_wp2_with (go_at_call 57; refine (find_any _ _ _ _ _ _ es _ w.heap.size (by simp; omega) (by exact hE.below (hbr.alloc (by omega) _))).mono ?_; rintro e1 w2 ⟨rfl,hb2⟩)
            go_ret
            exact ⟨ret_bool (Tab.may_no _ he.out (Tab.elOk_no (by rintro ⟨_,r2,_⟩; simp [r2] at q3))).symm,(hbr.alloc (by omega) _).trans (hb2.mono (by simp; omega))⟩
        · go_wp2_with fail
          go_ret
          obtain rfl : k = n:=by omega
          refine ⟨ret_bool (Tab.may_yes ?_ (by rw [hl.out]; exact hno.out)).symm,hbr⟩
          simp [Tab.headOk,hl.out,hm] at h3 h0 ⊢
          omega
def Tab.keyed (t : Tab) (field : Nat) : Bool:=t.may && !decide (t.s.kind = 3) && decide ((field : Int) < t.s.words)
theorem Tab.may_sch {t : Tab} (h : t.may = true) : t.s.may = true:=by
  have h1:=(t.may_iff.1 h).1
  simp only [Tab.headOk,Bool.and_eq_true] at h1
  exact h1.1.1.1
def Tab.has (t : Tab) (key f : Nat) : Bool:=t.keyed f && decide (0 ≤ fidx key t.e 0)
def Tab.idx (t : Tab) (key : Nat) : Nat:=(fidx key t.e 0).toNat
def Tab.word (t : Tab) (i f : Nat) : Nat:=(((t.e[i]?).elim [] Ent.v)[f]?).getD 0
def Tab.get (t : Tab) (key f : Nat) : Tab × Nat × Bool:=
  if t.has key f then ({ t with e:=touch t.s.kind t.e (t.idx key) },t.word (t.idx key) f,true) else (t,0,false)
section
variable {P : Program} {ops : Array Oper} {rest : List Oper} {o : Oper} {a : Act} {w w' : World} {K : Act → World → Prop} {Q : Exit → Act → World → Prop} {E : Prop}
theorem wp_runApp (s x : Operand) (t u : TypeId) (ho : o.op = .call { callee:=.builtin .append,args:=#[s,x],argTypes:=#[t,u] }) {vs vx v' : Value} (hs : a.eval s = vs) (hx : a.eval x = vx)
    (hrun : (Builtin.append_ #[t,u] o.type #[vs,vx]).run P w = .ok v' w') (h : K (a.put o.dst v') w') : o.wp P a w K Q:=by
  unfold Oper.wp execOp
  simp only [ho,resolve,invoke,builtin,Sem.run_bind,Sem.run_pure,Result.andThen_ok,List.map_toArray,List.map_cons,List.map_nil,hs,hx,hrun]
  exact h
theorem step_runApp (hgd : o.guard = none) (s x : Operand) (t u : TypeId) (ho : o.op = .call { callee:=.builtin .append,args:=#[s,x],argTypes:=#[t,u] }) {vs vx v' : Value} (hs : a.eval s = vs) (hx : a.eval x = vx)
    (hrun : (Builtin.append_ #[t,u] o.type #[vs,vx]).run P w = .ok v' w') (h : K (a.put o.dst v') w') : if Region.wanted o (yielded ops a.tmps) = true then Oper.wp P o a w K Q else E:=by
  have hw : Region.wanted o (yielded ops a.tmps) = true:=by simp [Region.wanted,hgd]
  rw [if_pos hw]
  exact wp_runApp s x t u ho hs hx hrun h
end
theorem OwnW.kept {w w' : World} {base : Nat} {u : Value} {xs : List Nat} {row : Option Nat} (h : OwnW w base u xs) (hg : w.grownBy w' row) (hne : u.ownBlock = none ∨ u.ownBlock ≠ row) : OwnW w' base u xs:=⟨h.row.kept hg hne,h.lt⟩
theorem OwnW.not_row {w : World} {base base' : Nat} {u v : Value} {xs : List Nat} {n : Nat} {cs : List Value} (h : OwnW w base u xs) (hr : w.ownsRow base' 66 2 v n cs) : u.ownBlock = none ∨ u.ownBlock ≠ v.ownBlock:=by
  cases hv : v.ownBlock with
  | none=>cases hu : u.ownBlock <;> simp
  | some b=>exact .inr (h.blk_ne hr hv)
theorem OwnEs.snoc {w w' : World} {base base' : Nat} {v' u : Value} {es : List Ent} {us : List Value} {e : Ent} {row : Option Nat} (hlen : us.length = es.length)
    (hval : ∀ (i : Nat) (e : Ent) (u : Value),es[i]? = some e → us[i]? = some u → OwnW w base u e.v ∧ e.key < 4294967296) (hl : Lone us)
    (hrow : w'.ownsRow base' 66 2 v' (es.length + 1) (entCells es us ++ [.int .u32 (e.key : Int),u])) (hb : base ≤ base') (hg : w.grownBy w' row) (hne : ∀ u' ∈ us ++ [u],u'.ownBlock = none ∨ u'.ownBlock ≠ row)
    (hu : OwnW w base u e.v) (hk : e.key < 4294967296) (hlone : ∀ (i : Nat) (u' : Value) (b : Nat),us[i]? = some u' → u.ownBlock = some b → u'.ownBlock ≠ some b) : OwnEs w' base v' (es ++ [e]) (us ++ [u]):=by
  refine ⟨by simp [hlen],?_,fun i e' u' he hu'=>?_,fun i j x y b hij hx hy hb'=>?_⟩
  · rw [entCells_append hlen,List.length_append]
    exact own_mono hrow hb
  · rcases Nat.lt_or_ge i es.length with hi | hi
    · rw [List.getElem?_append_left hi] at he
      rw [List.getElem?_append_left (by omega)] at hu'
      obtain ⟨h1,h2⟩:=hval i e' u' he hu'
      exact ⟨h1.kept hg (hne u' (List.mem_append_left _ (List.mem_of_getElem? hu'))),h2⟩
    · have h1:=(List.getElem?_eq_some_iff.1 he).1
      simp at h1
      obtain rfl : i = es.length:=by omega
      rw [List.getElem?_append_right (by omega)] at he hu'
      simp [hlen] at he hu'
      subst he
      subst hu'
      exact ⟨hu.kept hg (hne u (by simp)),hk⟩
  · have hi:=(List.getElem?_eq_some_iff.1 hx).1
    have hj:=(List.getElem?_eq_some_iff.1 hy).1
    simp at hi hj
    rcases Nat.lt_or_ge i us.length with h1 | h1
    · rw [List.getElem?_append_left h1] at hx
      rcases Nat.lt_or_ge j us.length with h2 | h2
      · rw [List.getElem?_append_left h2] at hy
        exact hl i j x y b hij hx hy hb'
      · obtain rfl : j = us.length:=by omega
        rw [List.getElem?_append_right (by omega)] at hy
        simp at hy
        subst hy
        intro hyb
        exact hlone i x b hx hyb hb'
    · obtain rfl : i = us.length:=by omega
      rw [List.getElem?_append_right (by omega)] at hx
      simp at hx
      subst hx
      rw [List.getElem?_append_left (by omega)] at hy
      exact hlone j y b hy hb'
theorem pair_cells {w : World} {ad : Addr} {x y : Value} (h0 : w.cell? ad = some x) (h1 : w.cell? (ad.add 1) = some y) : ∀ (j : Nat) (u : Value),[x,y][j]? = some u → w.cell? (ad.add j) = some u:=by
  intro j u hu
  match j with
  | 0=>cases hu; rw [show ad.add 0 = ad from rfl]; exact h0
  | 1=>cases hu; exact h1
  | j + 2=>simp at hu
theorem run_appEnt {w : World} {base : Nat} {v u : Value} {es : List Ent} {us : List Value} {e : Ent} (hO : OwnEs w base v es us) (ad : Addr) (h0 : w.cell? ad = some (.int .u32 (e.key : Int))) (h1 : w.cell? (ad.add 1) = some u)
    (hu : OwnW w base u e.v) (hk : e.key < 4294967296) (hlone : ∀ (i : Nat) (u' : Value) (b : Nat),us[i]? = some u' → u.ownBlock = some b → u'.ownBlock ≠ some b) (hl : es.length ≤ 1048576) (hbase : base ≤ w.heap.size) :
    ∃ v' w',(Builtin.append_ #[51,51] 51 #[v,.slice (some ad) 1 1]).run prog w = .ok v' w' ∧ OwnEs w' base v' (es ++ [e]) (us ++ [u]) ∧ w.grownBy w' v.ownBlock ∧ (v'.ownBlock = v.ownBlock ∨ v'.ownBlock = some w.heap.size):=by
  obtain ⟨i,hi,hz,hs,hb⟩:=info_parts info_ent
  obtain ⟨_,c,rfl,_⟩:=hu.reads
  obtain ⟨v',w',hrun,hrow,hg,_,hat⟩:=run_append_own_at (P:=prog) w base 51 51 66 i _ 2 32 underlying51 hi hz hs hb rfl (by omega) v es.length (entCells es us) hO.row ad 1 1
    [.int .u32 (e.key : Int),_] rfl (pair_cells h0 h1) (by intro x hx; simp at hx; rcases hx with rfl | rfl <;> rfl) (by simp only [maxLen]; omega) (by omega) hbase
  refine ⟨v',w',hrun,OwnEs.snoc hO.len hO.val hO.lone hrow (Nat.le_refl _) hg ?_ hu hk hlone,hg,hat⟩
  intro u' hm
  rcases List.mem_append.1 hm with hm | hm
  · obtain ⟨i,hi⟩:=List.mem_iff_getElem?.1 hm
    have hil : i < es.length:=by rw [← hO.len]; exact (List.getElem?_eq_some_iff.1 hi).1
    exact (hO.val i _ u' (List.getElem?_eq_getElem hil) hi).1.not_row hO.row
  · simp at hm
    subst hm
    exact hu.not_row hO.row
def updE (l : List Ent) (i f x : Nat) : List Ent:=
  match l[i]? with
  | some e=>l.set i { e with v:=e.v.set f x }
  | none=>l
def Tab.zero : Tab:=⟨⟨0,0,0,0⟩,[],0⟩
def Tab.grow (t : Tab) (key : Nat) : List Ent:=
  (if (t.e.length : Int) = t.s.cap then t.e.drop 1 else t.e) ++ [⟨key,List.replicate t.s.words.toNat 0⟩]
def Tab.set (t : Tab) (key f x : Nat) : Tab × Int:=
  if t.keyed f = false then (Tab.zero,1)
  else if 0 ≤ fidx key t.e 0 then ({ t with e:=touch t.s.kind (updE t.e (t.idx key) f x) (t.idx key) },0)
  else if t.s.kind = 0 then (Tab.zero,3)
  else if t.s.kind = 1 ∧ (t.e.length : Int) = t.s.cap then (Tab.zero,4)
  else ({ t with e:=touch t.s.kind (updE (t.grow key) ((t.grow key).length - 1) f x) ((t.grow key).length - 1) },0)
def newEs (k m : Nat) : List Ent:=(List.range k).map fun i=>⟨i,List.replicate m 0⟩
theorem newEs_succ (k m : Nat) : newEs (k + 1) m = newEs k m ++ [⟨k,List.replicate m 0⟩]:=by simp [newEs,List.range_succ]
theorem newEs_length (k m : Nat) : (newEs k m).length = k:=by simp [newEs]
def Tab.new (s : Sch) : Tab × Int:=
  if s.may = false then (Tab.zero,1) else (⟨s,if s.kind = 0 then newEs s.cap.toNat s.words.toNat else [],0⟩,0)
structure NewRel (s : Sch) (b0 b4 m : Nat) (w : World) (k : Nat) (A : Option Addr) (c : Nat) (us : List Value) (wr : World) : Prop where
  own : OwnEs wr (b0 + 1 + 1) (.slice A k c) (newEs k m) us
  box : Blk wr b4 53 #[.int .i64 s.kind,.int .i64 s.cap,.int .i64 s.words,.int .i64 s.ver,.slice A k c,.int .u32 0]
  res : Blk wr (b0 + 1) 53 #[.int .i64 0,.int .i64 0,.int .i64 0,.int .i64 0,.slice none 0 0,.int .u32 0]
  par : Blk wr b0 50 #[.int .i64 s.kind,.int .i64 s.cap,.int .i64 s.words,.int .i64 s.ver]
  below : Below b0 w wr
set_option maxRecDepth 100000 in
set_option maxHeartbeats 4000000 in
theorem new_any (s : Sch) (w : World) :
    Calls prog 54 #[.agg #[.int .i64 s.kind,.int .i64 s.cap,.int .i64 s.words,.int .i64 s.ver]] w fun e w'=>∃ A' n' c' us,e = .returned (.tuple #[tabV (Tab.new s).1.s A' n' c' (Tab.new s).1.next,.int .i64 (Tab.new s).2]) ∧ OwnEs w' w.heap.size (.slice A' n' c') (Tab.new s).1.e us ∧ Below w.heap.size w w':=by
  obtain ⟨T,hT⟩ : ∃ T,T = Tab.new s:=⟨_,rfl⟩
  rw [← hT]
  replace hT:=Lib.hid hT
  obtain ⟨W1,hW1,hB1,hS1,hG1,hO1,hP1⟩:=boxedB w _ rfl #[.int .i64 s.kind,.int .i64 s.cap,.int .i64 s.words,.int .i64 s.ver] 50
  obtain ⟨W2,hW2,hB2,hS2,hG2,hO2,hP2⟩:=boxedB W1 _ hS1 #[.int .i64 0,.int .i64 0,.int .i64 0,.int .i64 0,.slice none 0 0,.int .u32 0] 53
  have hC1:=(hG1.below hB2 (Nat.lt_succ_self _)).cell
  have hb2:=hB1.trans (hB2.mono (Nat.le_succ _))
  clear hO1 hP1 hO2 hP2
  go_enter func54,ntmps54
  go_wp2_with fail
  refine (schMay_any _ _ _ _ _).mono ?_
  rintro e1 w3 ⟨rfl,hb3⟩
  rw [hS2] at hb3
  have hs3:=hb3.size
  have hG13:=(hG1.below hB2 (Nat.lt_succ_self _)).below hb3 (by omega)
  have hC13:=hG13.cell
  have hG23:=hG2.below hb3 (by omega)
  have hC23:=hG23.cell
  have hF23:=hG23.frozen
  have hb03:=hb2.trans (hb3.mono (by omega))
  rcases hm : Sch.may ⟨s.kind,s.cap,s.words,s.ver⟩ with _ | _
  · have hTv : T = (Tab.zero,1):=by
      rw [hT.out]
      unfold Tab.new
      rw [if_pos (by exact hm)]
    replace hTv:=Lib.hid hTv
    have hr7:=hG23.setBox [.int .i64 0,.int .i64 0,.int .i64 0,.int .i64 0,.slice none 0 0,.int .u32 0] rfl
    have ho7:=setAll_only (w.heap.size + 1) [.int .i64 0,.int .i64 0,.int .i64 0,.int .i64 0,.slice none 0 0,.int .u32 0] 0 w3
    have hb7:=Only.below hb03 ho7 (by omega) (by omega)
    go_wp2_with fail
    refine bodyPost_ret (results_ct results54 rfl hr7 underlying53 rfl (by kernel_rfl)) rfl ?_
    rw [hTv.out]
    exact ⟨none,0,0,[],rfl,OwnEs.nil_ _ _,hb7⟩
  have hsch:=Sch.may_bounds hm
  simp only at hsch
  obtain ⟨m,hmw⟩ : ∃ m : Nat,s.words = (m : Int):=⟨s.words.toNat,by omega⟩
  obtain ⟨cp,hcp⟩ : ∃ cp : Nat,s.cap = (cp : Int):=⟨s.cap.toNat,by omega⟩
  have hm4 : m ≤ 4:=by omega
  have hc16 : cp ≤ 16:=by omega
  have hTg : T = (⟨s,if s.kind = 0 then newEs cp m else [],0⟩,0):=by
    rw [hT.out]
    unfold Tab.new
    rw [if_neg (by rw [show s.may = true from hm]; simp),show s.cap.toNat = cp by omega,show s.words.toNat = m by omega]
  replace hTg:=Lib.hid hTg
  have hmk : ∀ W : World,(Instr.makeSlice 62 (.int .i64 s.words) (.int .i64 s.words)).run prog W = .ok (.slice (some ⟨W.heap.size,0,none⟩) m m) (W.alloc (.cells (madeCells #[.int .u32 0] m) 25)):=by
    intro W
    rw [hmw]
    have:=run_makeN (P:=prog) 62 25 _ 1 4 underlying62 info_u32 m (by omega) (by omega) W
    rw [Nat.mul_one] at this
    exact this
  obtain ⟨W4,hW4,hB4,hS4,hG4,hO4,hP4⟩:=boxedB w3 _ rfl #[.int .i64 s.kind,.int .i64 s.cap,.int .i64 s.words,.int .i64 s.ver,.slice none 0 0,.int .u32 0] 53
  obtain ⟨W5,hW5,ho5,hs5,hG5,hO5,hP5⟩:=storedB hG4 4 (.slice none 0 0)
  obtain ⟨W6,hW6,ho6,hs6,hG6,hO6,hP6⟩:=storedB hG5 5 (.int .u32 0)
  have hG6 : Blk W6 w3.heap.size 53 #[.int .i64 s.kind,.int .i64 s.cap,.int .i64 s.words,.int .i64 s.ver,.slice none 0 0,.int .u32 0]:=hG6
  have hb04:=Only.below (Only.below (hb03.trans (hB4.mono (by omega))) ho5 (by omega) (by omega)) ho6 (by omega) (by omega)
  have hG14:=((hG13.below hB4 (by omega)).grown ho5 (by simp; omega)).grown ho6 (by simp; omega)
  have hG24:=((hG23.below hB4 (by omega)).grown ho5 (by simp; omega)).grown ho6 (by simp; omega)
  have hC4:=hG4.cell
  have hF4:=hG4.frozen
  have hC5:=hG5.cell
  have hF5:=hG5.frozen
  have hC6:=hG6.cell
  have hF6:=hG6.frozen
  clear hO5 hP5 hO6 hP6
  replace hmw:=Lib.hid hmw
  replace hcp:=Lib.hid hcp
  clear hO4 hP4
  rcases hk0 : (s.kind == 0) with _ | _
  · have hTv : T = (⟨s,[],0⟩,0):=by
      rw [hTg.out,if_neg (by simpa using hk0)]
    replace hTv:=Lib.hid hTv
    have hC14:=hG14.cell
    have hC24:=hG24.cell
    have hF24:=hG24.frozen
    have hr7:=hG24.setBox [.int .i64 s.kind,.int .i64 s.cap,.int .i64 s.words,.int .i64 s.ver,.slice none 0 0,.int .u32 0] rfl
    have ho7:=setAll_only (w.heap.size + 1) [.int .i64 s.kind,.int .i64 s.cap,.int .i64 s.words,.int .i64 s.ver,.slice none 0 0,.int .u32 0] 0 W6
    have hb7:=Only.below hb04 ho7 (by omega) (by omega)
    go_wp2_with fail
    go_loopw [5] (fun i wr=>i = .int .i64 0 ∧ wr = W6) (fun i _=>0)
    case atStart=>exact ⟨rfl,rfl⟩
    case round=>
      obtain ⟨rfl,rfl⟩:=hrel
      go_wp2_with fail
      refine bodyPost_ret (results_ct results54 rfl hr7 underlying53 rfl (by kernel_rfl)) rfl ?_
      rw [hTv.out]
      exact ⟨none,0,0,[],rfl,OwnEs.nil_ _ _,hb7⟩
  have hTv : T = (⟨s,newEs cp m,0⟩,0):=by
    rw [hTg.out,if_pos (by simpa using hk0)]
  replace hTv:=Lib.hid hTv
  have hC14:=hG14.cell
  go_wp2_with fail
  go_loopw [5] (fun i wr=>∃ k : Nat,k ≤ cp ∧ i = .int .i64 k ∧ w3.heap.size < wr.heap.size ∧ ∃ A c us,NewRel s w.heap.size w3.heap.size m w k A c us wr) (fun i _=>cp - (intOf i).toNat)
  case atStart=>
    exact ⟨0,Nat.zero_le _,rfl,by omega,none,0,[],OwnEs.nil_ _ _,hG6,hG24,hG14,hb04⟩
  case round=>
    obtain ⟨k,hk,rfl,hsz,A,c,us,hrel⟩:=hrel
    have hb0r:=hrel.below
    have hown:=hrel.own
    have hboxr:=hrel.box
    have hresr:=hrel.res
    have hparr:=hrel.par
    have hCb:=hboxr.cell
    have hFb:=hboxr.frozen
    have hCp:=hparr.cell
    have hnl:=Lib.hid (newEs_length k m)
    clear hrel
    by_cases hlt : k < cp
    · have hki : (k : Int) < s.cap:=by rw [hcp.out]; omega
      have hk32 : IntKind.u32.wrap (k : Int) = (k : Int):=IntWalk.u32_in _ (by omega)
      obtain ⟨W7,hW7,hB7,hS7,hG7,hO7,hP7⟩:=boxedB wr _ rfl (madeCells #[.int .u32 0] m) 25
      obtain ⟨W8,hW8,hB8,hS8,hG8,hO8,hP8⟩:=boxedB W7 _ hS7 #[.int .u32 (k : Int),.slice (some ⟨wr.heap.size,0,none⟩) m m] 66
      have hB68:=hB7.trans (hB8.mono (Nat.le_succ _))
      have hown8:=hown.below hB68
      have hG78:=hG7.below hB8 (Nat.lt_succ_self _)
      have hs0 : w.heap.size + 1 + 1 ≤ wr.heap.size:=by omega
      have hu8:=OwnW.made (base:=w.heap.size + 1 + 1) hG78 hs0 (by simp only [maxLen]; omega)
      have hC8:=hG8.cell
      obtain ⟨v9,w9,hrun,hO9,hg9,hat9⟩:=run_appEnt (w:=W8.drew) (e:=⟨k,List.replicate m 0⟩) (hown8.below (below_drewN (Below.refl _ _) 1)) ⟨wr.heap.size + 1,0,none⟩ ((hC8 0).trans rfl) (by rw [add_lit0]; exact (hC8 1).trans rfl)
        (hu8.below (below_drewN (Below.refl _ _) 1)) (show k < 4294967296 by omega) (fun i u' b hu' hb hb'=>by
          have hil : i < (newEs k m).length:=by rw [← hown.len]; exact (List.getElem?_eq_some_iff.1 hu').1
          have:=((hown.val i _ u' (List.getElem?_eq_getElem hil) hu').1.row.lt b hb').2
          simp only [Value.ownBlock,Option.some.injEq] at hb
          omega) (by rw [hnl.out]; omega) (show w.heap.size + 1 + 1 ≤ W8.heap.size by omega)
      rw [← newEs_succ] at hO9
      have hE9:=hO9.reads
      obtain ⟨A9,c9,rfl,_⟩:=hE9
      have hln : (newEs (k + 1) m).length = k + 1:=newEs_length _ _
      rw [hln] at hrun hO9 hat9
      have hne9 : ∀ {b t cs},Blk wr b t cs → t ≠ 66 → some b ≠ (Value.slice A k c).ownBlock:=fun hb ht he=>row_ne_box hown.row hb ht he.symm
      have hG49 : Blk w9 w3.heap.size _ _:=((hboxr.below hB68 (by omega)).drew).grown hg9 (hne9 hboxr (by decide))
      have hG29 : Blk w9 (w.heap.size + 1) _ _:=((hresr.below hB68 (by omega)).drew).grown hg9 (hne9 hresr (by decide))
      have hG19 : Blk w9 w.heap.size _ _:=((hparr.below hB68 (by omega)).drew).grown hg9 (hne9 hparr (by decide))
      have hC49:=hG49.cell
      have hF49:=hG49.frozen
      have hb09 : Below w.heap.size w w9:=(Below.drew (hb0r.trans (hB68.mono (by omega)))).grown hg9 (show w.heap.size ≤ W8.heap.size by omega) (fun b hb=>by have:=(hown.row.lt b hb).1; omega)
      have hs9 : W8.heap.size ≤ w9.heap.size:=hg9.size
      obtain ⟨W10,hW10,ho10,hs10,hG10,hO10,hP10⟩:=storedB hG49 4 (.slice A9 (k + 1) c9)
      have hb010:=Only.below hb09 ho10 (by omega) (by omega)
      have hCbb:=(hboxr.below hB68 (by omega)).cell
      have hCba:=(hboxr.below hB7 (by omega)).cell
      have hCpb:=(hparr.below hB68 (by omega)).cell
      have hCpa:=(hparr.below hB7 (by omega)).cell
      have hfin : NewRel s w.heap.size w3.heap.size m w (k + 1) A9 c9 (us ++ [.slice (some ⟨wr.heap.size,0,none⟩) m m]) W10:=
        ⟨hO9.box hG49 ho10 (by decide) (by decide),hG10,hG29.grown ho10 (by simp; omega),hG19.grown ho10 (by simp; omega),hb010⟩
      replace hfin:=Lib.hid hfin
      clear hO10 hP10 hO7 hP7 hO8 hP8
      go_wp2_with fail
      go_region_law (refine step_runApp rfl _ _ _ _ rfl rfl rfl hrun ?_)
      all_goals
        go_wp2_with fail
        exact ⟨⟨k + 1,by omega,by go_num,by omega,A9,c9,_,hfin.out⟩,by simp [intOf]; omega⟩
    · obtain rfl : k = cp:=by omega
      have hki : ¬ (k : Int) < s.cap:=by rw [hcp.out]; omega
      have hC2r:=hresr.cell
      have hF2r:=hresr.frozen
      have hr7:=hresr.setBox [.int .i64 s.kind,.int .i64 s.cap,.int .i64 s.words,.int .i64 s.ver,.slice A k c,.int .u32 0] rfl
      have ho7:=setAll_only (w.heap.size + 1) [.int .i64 s.kind,.int .i64 s.cap,.int .i64 s.words,.int .i64 s.ver,.slice A k c,.int .u32 0] 0 wr
      have hb7:=Only.below hb0r ho7 (by omega) (by omega)
      have hO7:=(hown.far ho7 (by omega)).mono (show w.heap.size ≤ w.heap.size + 1 + 1 by omega)
      go_wp2_with fail
      refine bodyPost_ret (results_ct results54 rfl hr7 underlying53 rfl (by kernel_rfl)) rfl ?_
      rw [hTv.out]
      exact ⟨A,k,c,rfl,⟨us,hO7⟩,hb7⟩
section
variable {P : Program}
variable {w : World} {ops : Array Oper} {rest : List Oper} {o : Oper} {a : Act} {K : Act → World → Prop} {Q : Exit → Act → World → Prop}
end
def zeroE (l : List Ent) (i : Nat) : List Ent:=
  match l[i]? with
  | some e=>l.set i { e with v:=List.replicate e.v.length 0 }
  | none=>l
def Tab.del (t : Tab) (key : Nat) : Tab × Bool:=
  if t.has key 0 = false then (t,false)
  else if t.s.kind = 0 then ({ t with e:=zeroE t.e (t.idx key) },true)
  else ({ t with e:=t.e.eraseIdx (t.idx key) },true)
theorem kTab.get {w : World} {B : Nat} {A : Option Addr} {n c : Nat} {ts : List Tab} (h : kTab.At w B A n c ts) {i : Nat} (hi : i < n) :
    ∃ t ad A' n' c',ts[i]? = some t ∧ A = some ad ∧ ad.block < B ∧ w.cell? (ad.add (i * 6)) = some (.int .i64 t.s.kind) ∧
      w.cell? ⟨(ad.add (i * 6)).block,(ad.add (i * 6)).off + 1,none⟩ = some (.int .i64 t.s.cap) ∧
      w.cell? ⟨(ad.add (i * 6)).block,(ad.add (i * 6)).off + 2,none⟩ = some (.int .i64 t.s.words) ∧
      w.cell? ⟨(ad.add (i * 6)).block,(ad.add (i * 6)).off + 3,none⟩ = some (.int .i64 t.s.ver) ∧
      w.cell? ⟨(ad.add (i * 6)).block,(ad.add (i * 6)).off + 4,none⟩ = some (.slice A' n' c') ∧
      w.cell? ⟨(ad.add (i * 6)).block,(ad.add (i * 6)).off + 5,none⟩ = some (.int .u32 (t.next : Int)) ∧ t.s.Ok ∧ t.next < 4294967296 ∧ kEnt.At w B A' n' c' t.e:=by
  obtain ⟨x,ad,cs,hx,e,hB,hc,hk⟩:=h.get hi
  obtain ⟨A',n',c',rfl,hs,hlt,hv⟩:=hk
  refine ⟨x,ad,A',n',c',hx,e,hB,?_,?_,?_,?_,?_,?_,hs,hlt,hv⟩
  · simpa [kTab] using hc 0 _ rfl
  all_goals (rw [← add_fld]; exact hc _ _ rfl)
theorem new_ctr (s : Sch) : Ctr prog 54 [avSch s] [] (.tup [avTab false (Tab.new s).1,.raw (.int .i64 (Tab.new s).2)]) []:=by
  refine Ctr.old call54 fun w cx vals hH hsz ha=>?_
  have e0:=avSch_inv (ha 0 _ rfl)
  have hv : vals = #[.agg #[.int .i64 s.kind,.int .i64 s.cap,.int .i64 s.words,.int .i64 s.ver]]:=by
    refine arr_eq hsz fun i hi=>?_
    have hi : i < 1:=hi
    match i,hi with
    | 0,_=>exact e0
  subst hv
  refine Calls.mono (new_any s w) ?_
  rintro e w' ⟨A',n',c',us,rfl,hO,hb⟩
  refine ⟨_,rfl,hb,.tup _ _ rfl (fun i u hu=>?_)⟩
  match i,hu with
  | 0,hu=>cases hu; exact avTab_of (ownEs_dat hO fresh_ok)
  | 1,hu=>cases hu; exact .raw _
  | i + 2,hu=>simp at hu
theorem may_ctr (f : Bool) (t : Tab) (hx : t.next < 4294967296) (hl0 : okEs t.e) : Ctr prog 22 [avTab f t] [] (.raw (.bool t.may)) []:=by
  refine Ctr.old call22 fun w cx vals hH hsz ha=>?_
  obtain ⟨A0,c0,e0,hE0⟩:=avTab_inv hH.okb (ha 0 _ rfl) hl0
  have hv : vals = #[tabV t.s A0 t.e.length c0 t.next]:=by
    refine arr_eq hsz fun i hi=>?_
    have hi : i < 1:=hi
    match i,hi with
    | 0,_=>exact e0
  subst hv
  refine Calls.mono (tabMay_any t.s A0 _ c0 t.next t.e w hx hE0) ?_
  rintro e w' ⟨rfl,hb⟩
  exact ⟨_,rfl,hb,.raw _⟩
def keys (es : List Ent) : List Nat:=es.map Ent.key
theorem keys_inj {es : List Ent} (h : (keys es).Nodup) {i j : Nat} {a b : Ent} (ha : es[i]? = some a) (hb : es[j]? = some b) (hk : a.key = b.key) : i = j:=by
  have hi : i < (keys es).length:=by simp only [keys,List.length_map]; exact (List.getElem?_eq_some_iff.1 ha).1
  exact (List.getElem?_inj hi h).1 (by simp [keys,ha,hb,hk])
theorem fidx_eq {es : List Ent} (h : (keys es).Nodup) {i : Nat} {e : Ent} (he : es[i]? = some e) : fidx e.key es 0 = (i : Int):=by
  have:=fidx_found (j:=0) he rfl (fun j x hj hx hk=>by have:=keys_inj h hx he hk; omega)
  simpa using this
theorem nodup_of_fidx {es : List Ent} (h : ∀ (i : Nat) (e : Ent),es[i]? = some e → fidx e.key es 0 = (i : Int)) : (keys es).Nodup:=by
  unfold keys List.Nodup
  rw [List.pairwise_iff_getElem]
  intro i j hi hj hij he
  simp only [List.length_map] at hi hj
  simp only [List.getElem_map] at he
  have h1:=h i _ (List.getElem?_eq_getElem hi)
  have h2:=h j _ (List.getElem?_eq_getElem hj)
  rw [he,h2] at h1
  omega
theorem may_std {t : Tab} (h3 : t.s.kind ≠ 3) : t.may = true ↔ t.s.may = true ∧ (t.e.length : Int) ≤ t.s.cap ∧ t.next = 0 ∧ (t.s.kind = 0 → (t.e.length : Int) = t.s.cap ∧ ∀ (i : Nat) (e : Ent),t.e[i]? = some e → e.key = i) ∧
    (∀ e ∈ t.e,(e.v.length : Int) = t.s.words) ∧ (keys t.e).Nodup:=by
  rw [Tab.may_iff]
  simp only [Tab.headOk,Bool.and_eq_true,Bool.or_eq_true,Bool.not_eq_true',decide_eq_true_eq,decide_eq_false_iff_not]
  constructor
  · rintro ⟨⟨⟨⟨a,b⟩,c⟩,d⟩,e⟩
    refine ⟨a,b,c.resolve_left h3,fun hk=>⟨d.resolve_left (fun q=>q hk),fun i x hx=>((t.elOk_iff i x).1 (e i x hx)).2.2.1 hk⟩,fun x hx=>?_,nodup_of_fidx fun i x hx=>((t.elOk_iff i x).1 (e i x hx)).2.1⟩
    obtain ⟨i,hi⟩:=List.mem_iff_getElem?.1 hx
    exact ((t.elOk_iff i x).1 (e i x hi)).1
  · rintro ⟨a,b,c,d,e,g⟩
    refine ⟨⟨⟨⟨a,b⟩,.inr c⟩,?_⟩,fun i x hx=>(t.elOk_iff i x).2 ⟨e x (List.mem_of_getElem? hx),fidx_eq g hx,fun hk=>(d hk).2 i x hx,fun hk=>absurd hk h3⟩⟩
    by_cases hk : t.s.kind = 0
    · exact .inr (d hk).1
    · exact .inl hk
theorem okEs_nil : okEs []:=fun e he=>by cases he
theorem okEs_new {s : Sch} : okEs (Tab.new s).1.e ∨ 4294967296 < s.cap:=by
  unfold Tab.new
  split
  · exact .inl okEs_nil
  · split
    · by_cases hc : 4294967296 < s.cap
      · exact .inr hc
      · refine .inl fun e he=>?_
        simp [newEs] at he
        obtain ⟨i,hi,rfl⟩:=he
        refine ⟨by show i < 4294967296; omega,fun y hy=>?_⟩
        have:=(List.mem_replicate.1 hy).2
        omega
    · exact .inl okEs_nil
def Tab.push (t : Tab) (v : Nat) : Tab × Int:=
  if t.may = false ∨ t.s.kind ≠ 3 then (Tab.zero,1)
  else if (t.e.length : Int) = t.s.cap then (Tab.zero,4)
  else ({ t with e:=t.e ++ [⟨t.next,[v]⟩],next:=(t.next + 1) % 4294967296 },0)
def toS (s : Ar) : Sch:=⟨s.Kind,s.Cap,s.Words,s.Ver⟩
def ofS (s : Sch) : Ar:=⟨s.kind,s.cap,s.words,s.ver⟩
def toE (e : Bd) : Ent:=⟨e.Key.toNat,e.V.map UInt32.toNat⟩
def ofE (e : Ent) : Bd:=⟨UInt32.ofNat e.key,e.v.map UInt32.ofNat⟩
def toT (t : Ap) : Tab:=⟨toS t.S,t.E.map toE,t.Next.toNat⟩
def ofT (t : Tab) : Ap:=⟨ofS t.s,t.e.map ofE,UInt32.ofNat t.next⟩
theorem to_of32 {n : Nat} (h : n < 4294967296) : (UInt32.ofNat n).toNat = n:=by
  show n % 4294967296 = n
  exact Nat.mod_eq_of_lt h
theorem lt32_to (l : List UInt32) : lt32 (l.map UInt32.toNat):=fun x hx=>by
  obtain ⟨y,_,rfl⟩:=List.mem_map.1 hx
  exact y.toNat_lt
theorem toE_ofE {e : Ent} (h1 : e.key < 4294967296) (h2 : lt32 e.v) : toE (ofE e) = e:=by
  obtain ⟨k,v⟩:=e
  simp only [ofE,toE,to_of32 h1,List.map_map,Ent.mk.injEq,true_and]
  conv=>rhs; rw [← List.map_id v]
  exact List.map_congr_left fun x hx=>to_of32 (h2 x hx)
theorem toS_ofS (s : Sch) : toS (ofS s) = s:=rfl
theorem toT_ofT {t : Tab} (h1 : okEs t.e) (h2 : t.next < 4294967296) : toT (ofT t) = t:=by
  obtain ⟨s,e,n⟩:=t
  simp only [ofT,toT,toS_ofS,to_of32 h2,List.map_map,Tab.mk.injEq,true_and,and_true]
  conv=>rhs; rw [← List.map_id e]
  exact List.map_congr_left fun x hx=>toE_ofE (h1 x hx).1 (h1 x hx).2
theorem okEs_to (t : Ap) : okEs (toT t).e:=fun e he=>by
  obtain ⟨x,_,rfl⟩:=List.mem_map.1 he
  exact ⟨x.Key.toNat_lt,lt32_to _⟩
theorem next_to (t : Ap) : (toT t).next < 4294967296:=t.Next.toNat_lt
theorem Jk0 (e : Bd) : Lk (toE e) = Av e:=by
  simp only [Lk,toE,Av,List.map_map]
  rfl
theorem av_to (t : Ap) : avTab false (toT t) = .agg (Bb t):=by
  simp only [avTab,cellsTab,toT,toS,Bb,List.map_map]
  congr 3
  have : (Lk ∘ toE) = Av:=funext Jk0
  rw [this]
theorem av_of {t : Tab} (h1 : okEs t.e) (h2 : t.next < 4294967296) : avTab false t = .agg (Bb (ofT t)):=by rw [← av_to,toT_ofT h1 h2]
instance fitsDec (es : List Ent) : Decidable (fits es):=by
  unfold fits
  infer_instance
def Lw (t : Ap) : Option Bool:=some (toT t).may
theorem Yc (t : Ap) {r : Bool} (h : Lw t = some r) : Ctr prog 22 [.agg (Bb t)] [] (.raw (.bool r)) []:=by
  have hr:=Option.some.inj h
  subst hr
  have:=may_ctr false (toT t) (next_to t) (okEs_to t)
  rw [av_to] at this
  exact this
theorem okEs_new' {s : Sch} : okEs (Tab.new s).1.e:=by
  rcases okEs_new (s:=s) with h | h
  · exact h
  · have : s.may = false:=by
      simp [Sch.may,inB]
      omega
    unfold Tab.new
    rw [if_pos this]
    exact okEs_nil
theorem new_next {s : Sch} : (Tab.new s).1.next < 4294967296:=by
  unfold Tab.new
  split
  · exact (by decide)
  · show (0 : Nat) < 4294967296
    decide
def Od (s : Ar) : Option (Ap × Int):=some (ofT (Tab.new (toS s)).1,(Tab.new (toS s)).2)
theorem Cz0 (s : Ar) {r : Ap × Int} (h : Od s = some r) : Ctr prog 54 [.agg (Ai s)] [] (.tup [.agg (Bb r.1),.raw (.int .i64 r.2)]) []:=by
  have hr:=Option.some.inj h
  subst hr
  have:=new_ctr (toS s)
  rw [av_of okEs_new' new_next] at this
  exact this
section
variable {P : Program} {nid : Nat} {s : St} {K : AV → Wr → Prop} {K2 : List Ky → AV → Wr → Prop} {rs : List Ky} {c : Bool} {i : Nat} {r : List (Nat × Operand)} {k : List (Nat × AV) → Q}
theorem parts_nil : Ay c [] k = k []:=Eq.trans rfl rfl
theorem wpQ_partT (t : Nat) : wpQ P nid s (Ay c ((i,.tmp t) :: r) k) K = wpS (fun v=>wpQ P nid s (strip c v fun v=>Ay c r fun l=>k ((i,v) :: l)) K) (look s.tm t):=by
  simp only [Ay,opd,opd0,wpQ_slot]
theorem wpQ_partF (f : FuncId) : wpQ P nid s (Ay c ((i,.func f) :: r) k) K = wpQ P nid s (Ay c r fun l=>k ((i,.fn (.func f) [] []) :: l)) K:=Eq.trans rfl rfl
theorem wpQ_partC (v : Value) : wpQ P nid s (Ay c ((i,.const v) :: r) k) K = wpQ P nid s (strip c (ofV v) fun v=>Ay c r fun l=>k ((i,v) :: l)) K:=Eq.trans rfl rfl
theorem wpQD_partT (t : Nat) : wpQD P nid s (Ay c ((i,.tmp t) :: r) k) rs K2 = wpS (fun v=>wpQD P nid s (strip c v fun v=>Ay c r fun l=>k ((i,v) :: l)) (.t t :: rs) K2) (look s.tm t):=by
  simp only [Ay,opd,opd0,wpQD_slot]
theorem wpQD_partF (f : FuncId) : wpQD P nid s (Ay c ((i,.func f) :: r) k) rs K2 = wpQD P nid s (Ay c r fun l=>k ((i,.fn (.func f) [] []) :: l)) rs K2:=Eq.trans rfl rfl
theorem wpQD_partC (v : Value) : wpQD P nid s (Ay c ((i,.const v) :: r) k) rs K2 = wpQD P nid s (strip c (ofV v) fun v=>Ay c r fun l=>k ((i,v) :: l)) rs K2:=Eq.trans rfl rfl
attribute [push_cast] parts_nil wpQ_partT wpQ_partF wpQ_partC wpQD_partT wpQD_partF wpQD_partC
end
theorem wrap_u64_0 : IntKind.u64.wrap 0 = 0:=by decide
theorem wrap_u64_1 : IntKind.u64.wrap 1 = 1:=by decide
theorem wrap_u64_2 : IntKind.u64.wrap 2 = 2:=by decide
theorem wrap_u64_4 : IntKind.u64.wrap 4 = 4:=by decide
theorem wrap_u64_5 : IntKind.u64.wrap 5 = 5:=by decide
theorem wrap_u64_8 : IntKind.u64.wrap 8 = 8:=by decide
theorem wrap_u64_16 : IntKind.u64.wrap 16 = 16:=by decide
theorem wrap_u32_0 : IntKind.u32.wrap 0 = 0:=by decide
theorem wrap_u32_1 : IntKind.u32.wrap 1 = 1:=by decide
theorem wrap_u32_2 : IntKind.u32.wrap 2 = 2:=by decide
theorem wrap_u32_4 : IntKind.u32.wrap 4 = 4:=by decide
theorem wrap_u32_5 : IntKind.u32.wrap 5 = 5:=by decide
theorem wrap_u32_8 : IntKind.u32.wrap 8 = 8:=by decide
theorem wrap_u32_16 : IntKind.u32.wrap 16 = 16:=by decide
theorem wrap_i64_0 : IntKind.i64.wrap 0 = 0:=by decide
theorem wrap_i64_1 : IntKind.i64.wrap 1 = 1:=by decide
theorem wrap_i64_2 : IntKind.i64.wrap 2 = 2:=by decide
theorem wrap_i64_4 : IntKind.i64.wrap 4 = 4:=by decide
theorem wrap_i64_5 : IntKind.i64.wrap 5 = 5:=by decide
theorem wrap_i64_8 : IntKind.i64.wrap 8 = 8:=by decide
theorem wrap_i64_16 : IntKind.i64.wrap 16 = 16:=by decide
attribute [push_cast] wrap_u64_0 wrap_u64_1 wrap_u64_2 wrap_u64_4 wrap_u64_5 wrap_u64_8 wrap_u64_16 wrap_u32_0 wrap_u32_1 wrap_u32_2 wrap_u32_4 wrap_u32_5 wrap_u32_8 wrap_u32_16 wrap_i64_0 wrap_i64_1 wrap_i64_2 wrap_i64_4 wrap_i64_5 wrap_i64_8 wrap_i64_16
theorem at4_0 (a : A4 UInt32) (r : List AV) {n : Nat} (h : n < 4) : (.raw (.int .u32 (a.a0.toNat : Int)) :: .raw (.int .u32 (a.a1.toNat : Int)) :: .raw (.int .u32 (a.a2.toNat : Int)) :: .raw (.int .u32 (a.a3.toNat : Int)) :: r : List AV)[n]? = some (.raw (.int .u32 ((a.get n).toNat : Int))):=by
  rcases A4.cases h with rfl | rfl | rfl | rfl <;> rfl
theorem at4_1 (a : A4 UInt32) (c : AV) (r : List AV) {n : Nat} (h : n < 4) : (c :: .raw (.int .u32 (a.a0.toNat : Int)) :: .raw (.int .u32 (a.a1.toNat : Int)) :: .raw (.int .u32 (a.a2.toNat : Int)) :: .raw (.int .u32 (a.a3.toNat : Int)) :: r : List AV)[1 + n]? = some (.raw (.int .u32 ((a.get n).toNat : Int))):=by
  rcases A4.cases h with rfl | rfl | rfl | rfl <;> rfl
attribute [push_cast] at4_0 at4_1
def ri (n : Int) : AV:=.raw (.int .i64 n)
def ru (x : UInt32) : AV:=.raw (.int .u32 (x.toNat : Int))
def rb (b : Bool) : AV:=.raw (.bool b)
theorem ri_ (n : Int) : ri n = .raw (.int .i64 n):=Eq.trans rfl rfl
theorem ru_ (x : UInt32) : ru x = .raw (.int .u32 (x.toNat : Int)):=Eq.trans rfl rfl
theorem rb_ (b : Bool) : rb b = .raw (.bool b):=Eq.trans rfl rfl
attribute [push_cast] ri_ ru_ rb_
section
variable {B : Base} {Q : Exit → St → Prop} {s s' : St} {x y : Code} {id : Nat} {ops : List Oper}
theorem vs (l : List Nat) (h : ∀ K : St → Prop,(∀ s',VC prog B y Q s' → K s') → runOps evOperF prog tab (ops.map (·.dst)) ops 0 s fun s'=>K (s'.keep l)) (hd : dstOk ops.toArray s.nt = true:=by exact rfl) : VC prog B (.seq (.region id ops.toArray false) y) Q s:=VC.seqF Fb _ l rfl hd h
theorem vl (h : ∀ K : St → Prop,(∀ s',Q .normal s' → K s') → runOps evOperF prog tab (ops.map (·.dst)) ops 0 s fun s'=>K s') (hd : dstOk ops.toArray s.nt = true:=by exact rfl) : VC prog B (.region id ops.toArray false) Q s:=VC.lastF Fb _ rfl hd h
theorem vlG (ds : List (Option Nat)) (h : ∀ K : St → Prop,(∀ s',Q .normal s' → K s') → runOps evOperF prog tab ds ops 0 s fun s'=>K s') (hds : ops.map (·.dst) = ds:=by exact rfl) (hd : dstOk ops.toArray s.nt = true:=by exact rfl) : VC prog B (.region id ops.toArray false) Q s:=VC.lastF Fb _ hds hd h
theorem vsD (ds : List (Option Nat)) (l : List Nat) (h : ∀ K : St → Prop,(∀ s',VC prog B y Q s' → K s') → runD evOperF prog tab ds ops 0 s [] fun recs s'=>ordOk (befs ops []) recs = true ∧ K (s'.keep l)) (hds : ops.map (·.dst) = ds:=by exact rfl) (hd : dstOk ops.toArray s.nt = true:=by exact rfl) (hb : backOk ops.toArray = true:=by exact rfl) : VC prog B (.seq (.region id ops.toArray true) y) Q s:=VC.seqFD Fb hmixO ds l hds hd hb h
theorem vlD (ds : List (Option Nat)) (h : ∀ K : St → Prop,(∀ s',Q .normal s' → K s') → runD evOperF prog tab ds ops 0 s [] fun recs s'=>ordOk (befs ops []) recs = true ∧ K s') (hds : ops.map (·.dst) = ds:=by exact rfl) (hd : dstOk ops.toArray s.nt = true:=by exact rfl) (hb : backOk ops.toArray = true:=by exact rfl) : VC prog B (.region id ops.toArray true) Q s:=VC.lastFD Fb hmixO ds hds hd hb h
theorem vc {t : Nat} {b : Bool} {α : Type} {u v : Option α} {r : α} (h : cond b u v = some r) (ht : b = true → u = some r → VC prog B x Q s) (hf : b = false → v = some r → VC prog B y Q s) (hl : look s.tm t = some (.raw (.bool b)):=by exact rfl) : VC prog B (.cond (.tmp t) x y) Q s:=
  VC.cond rfl hl (fun hb=>ht hb (Ao hb h)) (fun hb=>hf hb (Au hb h))
theorem vj {X R : Type} {m : Option X} {k : X → Option R} {r : R} (h : po m k = some r) (S : X → St) (hx : ∀ v,m = some v → k v = some r → VC prog B x (thn (fun s'=>∃ v,k v = some r ∧ Sub s' (S v)) Q) s) (hy : ∀ v,k v = some r → VC prog B y Q (S v)) : VC prog B (.seq x y) Q s:=
  let ⟨v,h1,h2⟩:=Aa h
  VC.seqJ (fun v=>k v = some r) S (hx v h1 h2) hy
theorem vm {X R : Type} {m : Option (X ⊕ R)} {k : X → Option R} {r : R} (h : pm m k = some r) (S : X → St) (hx : ∀ v,m = some v → finM k r v → VC prog B x (thn (fun s'=>∃ v,k v = some r ∧ Sub s' (S v)) Q) s) (hy : ∀ v,k v = some r → VC prog B y Q (S v)) : VC prog B (.seq x y) Q s:=
  let ⟨v,h1,h2⟩:=Jh0 h
  VC.seqJ (fun v=>k v = some r) S (hx v h1 h2) hy
theorem ar {X R : Type} {k : X → Option R} {r : R} {a v : X} {P : X → Prop} (h : some a = some v) (hk : k v = some r) (hp : P a) : ∃ v,k v = some r ∧ P v:=⟨a,Option.some.inj h ▸ hk,hp⟩
theorem am {X R : Type} {k : X → Option R} {r : R} {a : X} {v : X ⊕ R} {P : X → Prop} (h : some (Sum.inl a) = some v) (hk : finM k r v) (hp : P a) : ∃ v,k v = some r ∧ P v:=⟨a,(by have:=Option.some.inj h; subst this; exact hk),hp⟩
theorem om {X R : Type} {k : X → Option R} {r a : R} {v : X ⊕ R} (h : some (Sum.inr a) = some v) (hk : finM k r v) : some a = some r:=by
  have:=Option.some.inj h
  subst this
  exact hk
theorem bk {X R : Type} {a : X} {b : X ⊕ R} {P : X → Prop} (h : some (Sum.inl a) = some b) (hp : P a) : ∃ v,b = .inl v ∧ P v:=⟨a,(Option.some.inj h).symm,hp⟩
theorem ol {X R : Type} {a v : R} {b : X ⊕ R} (h : some (Sum.inr a) = some b) (hf : ∀ p,b = .inr p → p = v) : some a = some v:=congrArg some (hf _ (Option.some.inj h).symm)
theorem so (h : (∀ p ∈ s'.tm,look s.tm p.1 = some p.2) ∧ ∀ p ∈ s'.hp,look s.hp p.1 = some p.2) (h3 : (s'.nt == s.nt && (s'.lo == s.lo && Nat.ble s'.lo s'.nx)) = true:=by exact rfl) (h4 : s'.wf = true:=by exact rfl) : Sub s s':=by
  simp only [Bool.and_eq_true,beq_iff_eq] at h3
  exact Sub.of h.1 h.2 ⟨h3.1,h3.2.1,Nat.le_of_ble_eq_true h3.2.2⟩ h4
theorem sl (h : (∀ p ∈ s'.tm,look s.lo_.tm p.1 = some p.2) ∧ ∀ p ∈ s'.hp,look s.lo_.hp p.1 = some p.2) (h3 : (s'.nt == s.lo_.nt && (s'.lo == s.lo_.lo && Nat.ble s'.lo s'.nx)) = true:=by exact rfl) (h4 : s'.wf = true:=by exact rfl) : Sub s s':=Sub.trans (Sub.lo s) (so h h3 h4)
theorem en {rs : List ResultVar} {r : AV} {H' : Hp} (h : (resL tab s.lo_ rs).map resAV = some r ∧ ∀ p ∈ H',look s.lo_.hp p.1 = some p.2) (h3 : (r.in3 H'.has && H'.all fun p=>p.2.inD H'.has) = true:=by exact rfl) : ∃ s'',Sub s s'' ∧ Post tab rs r H' .ret s'':=⟨_,Sub.lo s,Post.ret h.1 h.2 h3⟩
theorem eN {rs : List ResultVar} {r : AV} {H' : Hp} (h : (resL tab s.lo_ rs).map resAV = some r ∧ ∀ p ∈ H',look s.lo_.hp p.1 = some p.2) (h3 : (r.in3 H'.has && H'.all fun p=>p.2.inD H'.has) = true:=by exact rfl) : ∃ s'',Sub s s'' ∧ Post tab rs r H' .normal s'':=⟨_,Sub.lo s,Post.nrm h.1 h.2 h3⟩
variable {nid : Nat} {K : AV → Wr → Prop} {K2 : List Ky → AV → Wr → Prop} {rs : List Ky} {f : FuncId} {args : List AV} {r : AV}
theorem cp (hc : Ctr prog f (args.map AV.lo) [] r []) (h : K r []) (ha : (args.all (AV.in3 (Hp.has []))) = true:=by exact rfl) : wpQ prog nid s (.call none f args) K:=callP (Ctr.lo hc) ha h
theorem cpD (hc : Ctr prog f (args.map AV.lo) [] r []) (h : K2 rs r []) (ha : (args.all (AV.in3 (Hp.has []))) = true:=by exact rfl) : wpQD prog nid s (.call none f args) rs K2:=callPD (Ctr.lo hc) ha h
theorem ch {H H' : Hp} (hc : Ctr prog f args H r H') (hl : ∀ p ∈ H,look s.hp p.1 = some p.2) (h : K r (callW H H')) (ha : (args.all (AV.in3 H.has)) = true:=by exact rfl) (hi : (H.all fun p=>p.2.inD H.has) = true:=by exact rfl) (hh : (H'.all fun p=>H.has p.1 || p.1 == nid) = true:=by exact rfl) : wpQ prog nid s (.call none f args) K:=callH hc hl ha hi hh h
theorem chD {H H' : Hp} (hc : Ctr prog f args H r H') (hl : ∀ p ∈ H,look s.hp p.1 = some p.2) (h : K2 (H.map (fun p=>Ky.o p.1) ++ rs) r (callW H H')) (ha : (args.all (AV.in3 H.has)) = true:=by exact rfl) (hi : (H.all fun p=>p.2.inD H.has) = true:=by exact rfl) (hh : (H'.all fun p=>H.has p.1 || p.1 == nid) = true:=by exact rfl) : wpQD prog nid s (.call none f args) rs K2:=callHD hc hl ha hi hh h
theorem chR {H H' : Hp} (hc : Ctr prog f args H r H') (he : H' = H) (hl : ∀ p ∈ H,look s.hp p.1 = some p.2) (h : K r []) (ha : (args.all (AV.in3 H.has)) = true:=by exact rfl) (hi : (H.all fun p=>p.2.inD H.has) = true:=by exact rfl) : wpQ prog nid s (.call none f args) K:=callR hc he hl ha hi h
theorem chRD {H H' : Hp} (hc : Ctr prog f args H r H') (he : H' = H) (hl : ∀ p ∈ H,look s.hp p.1 = some p.2) (h : K2 (H.map (fun p=>Ky.o p.1) ++ rs) r []) (ha : (args.all (AV.in3 H.has)) = true:=by exact rfl) (hi : (H.all fun p=>p.2.inD H.has) = true:=by exact rfl) : wpQD prog nid s (.call none f args) rs K2:=callRD hc he hl ha hi h
end
theorem gL {α : Type} {l : List α} {n : Nat} {a : α} (h : l[n]? = some a) : l[n]? = some a ∧ n < l.length ∧ (n : Int) < (l.length : Int):=⟨h,get_lt h,get_ltI h⟩
def jmp (l : Nat) (G : St → Prop) (Q : Exit → St → Prop) : Exit → St → Prop
  | .goto l',s=>l' = l ∧ G s
  | e,s=>Q e s
section
variable {P : Program} {B : Base} {Q : Exit → St → Prop} {s : St} {c rest : Code}
theorem VC.wide (hB : B.rd = none) : VC P B c Q s ↔ ∀ a w,SRel B s a w → c.wp P (fun e a' w'=>∃ s',Q e s' ∧ SRel B s' a' w') a w:=by
  unfold VC
  rw [hB]
  exact forall_congr' fun a=>forall_congr' fun w=>forall_congr' fun _=>wpIn_wide
theorem VC.jumps (hB : B.rd = none) {l : Nat} {X : Type} (hf : findLabel c l = some rest) (S : X → St) (I : X → Prop) (μ : X → Nat) (first : VC P B c (jmp l (fun s'=>∃ x,I x ∧ Sub s' (S x)) Q) s)
    (pass : ∀ x,I x → VC P B rest (jmp l (fun s'=>∃ x',I x' ∧ μ x' < μ x ∧ Sub s' (S x')) Q) (S x)) : VC P B (.scope c) Q s:=(VC.wide hB).2 fun a w hs=>by
  let J : Nat → Act → World → Prop:=fun n a w=>∃ x,I x ∧ μ x = n ∧ SRel B (S x) a w
  have least : ∀ a w,(∃ n,J n a w) → ∃ n,J n a w ∧ ∀ m,J m a w → n ≤ m:=by
    intro a w ⟨n,hn⟩
    induction n using Nat.strongRecOn with
    | _ n ih=>
      by_cases h : ∃ m,m < n ∧ J m a w
      · obtain ⟨m,h1,h2⟩:=h
        exact ih m h1 h2
      · exact ⟨n,hn,fun m hm=>Nat.le_of_not_lt fun hlt=>h ⟨m,hlt,hm⟩⟩
  open Classical in
  refine wp_scope_jumps l (fun a w=>∃ n,J n a w) (fun a w=>if h : ∃ n,J n a w then Classical.choose (least a w h) else 0) hf ?_ ?_
  · refine wp_mono ((VC.wide hB).1 first a w hs) ?_
    rintro e a' w' ⟨s',h3,h4⟩
    cases e with
    | goto l'=>
      obtain ⟨rfl,x,h5,h6⟩:=h3
      exact ⟨rfl,_,x,h5,rfl,h6 B a' w' h4⟩
    | _=>exact ⟨s',h3,h4⟩
  · intro a w hJ
    obtain ⟨h1,h2⟩:=Classical.choose_spec (least a w hJ)
    obtain ⟨x,hx1,hx2,hx3⟩:=h1
    refine wp_mono ((VC.wide hB).1 (pass x hx1) a w hx3) ?_
    rintro e a' w' ⟨s',h3,h4⟩
    cases e with
    | goto l'=>
      obtain ⟨rfl,x',h5,h6,h7⟩:=h3
      have hJ' : J (μ x') a' w':=⟨x',h5,rfl,h7 B a' w' h4⟩
      refine ⟨rfl,⟨_,hJ'⟩,?_⟩
      show (if h : ∃ n,J n a' w' then Classical.choose (least a' w' h) else 0) < (if h : ∃ n,J n a w then Classical.choose (least a w h) else 0)
      rw [dif_pos ⟨_,hJ'⟩,dif_pos hJ]
      have h8:=(Classical.choose_spec (least a' w' ⟨_,hJ'⟩)).2 _ hJ'
      omega
    | _=>exact ⟨s',h3,h4⟩
theorem VC.goto {l : Nat} (h : Q (.goto l) s) : VC P B (.goto l) Q s:=fun a w hs=>wpIn_goto ⟨s,h,hs⟩
theorem VC.jumpsP (hB : B.rd = none) {l : Nat} {σ ρ : Type} {step : σ → Option (σ ⊕ ρ)} (hf : findLabel c l = some rest) (S : σ → St)
    (first : VC P B c (jmp l (fun s'=>∃ x v,lpU step x = some v ∧ Sub s' (S x) ∧ ∀ x b,step x = some b → (∀ p,b = .inr p → p = v) → VC P B rest (jmp l (fun s'=>∃ x',b = .inl x' ∧ Sub s' (S x')) Q) (S x)) Q) s) : VC P B (.scope c) Q s:=by
  refine VC.jumps hB (X:=σ × Nat × ρ) hf (fun q=>S q.1) (fun q=>iterU step q.2.1 q.1 = some q.2.2 ∧ ∀ x b,step x = some b → (∀ p,b = .inr p → p = q.2.2) → VC P B rest (jmp l (fun s'=>∃ x',b = .inl x' ∧ Sub s' (S x')) Q) (S x)) (fun q=>q.2.1) (VC.mono first fun e s' h=>?_) ?_
  · cases e with
    | goto l'=>
      obtain ⟨rfl,x,v,h1,h2,h3⟩:=h
      obtain ⟨n,hn⟩:=lpU_some.1 h1
      exact ⟨rfl,(x,n,v),⟨hn,h3⟩,h2⟩
    | _=>exact h
  · rintro ⟨x,n,v⟩ ⟨hn,round⟩
    simp only at hn round
    cases n with
    | zero=>cases hn
    | succ n=>
      simp only [iterU] at hn
      split at hn
      · cases hn
      · rename_i s' hst
        refine VC.mono (round x (.inl s') hst fun p hp=>by cases hp) fun e s'' h=>?_
        cases e with
        | goto l'=>
          obtain ⟨rfl,x',hx',hsub⟩:=h
          injection hx' with hx'
          subst hx'
          exact ⟨rfl,(s',n,v),⟨hn,round⟩,Nat.lt_succ_self n,hsub⟩
        | _=>exact h
      · rename_i r hst
        injection hn with hn
        subst hn
        refine VC.mono (round x (.inr r) hst fun p hp=>by injection hp with hp; exact hp.symm) fun e s'' h=>?_
        cases e with
        | goto l'=>
          obtain ⟨rfl,x',hx',hsub⟩:=h
          cases hx'
        | _=>exact h
theorem VC.labelP {l : Nat} {σ ρ : Type} {step : σ → Option (σ ⊕ ρ)} {x0 : σ} {v : ρ} (h : lpU step x0 = some v) (S : σ → St) (hs : Sub s (S x0))
    (round : ∀ x b,step x = some b → (∀ p,b = .inr p → p = v) → VC P B rest (jmp l (fun s'=>∃ x',b = .inl x' ∧ Sub s' (S x')) Q) (S x)) :
    VC P B (.seq (.label l) rest) (jmp l (fun s'=>∃ x v,lpU step x = some v ∧ Sub s' (S x) ∧ ∀ x b,step x = some b → (∀ p,b = .inr p → p = v) → VC P B (.seq .skip rest) (jmp l (fun s'=>∃ x',b = .inl x' ∧ Sub s' (S x')) Q) (S x)) Q) s:=by
  refine VC.seq (VC.label ?_)
  show VC P B rest _ s
  refine VC.sub hs ?_
  have rounds : ∀ x b,step x = some b → (∀ p,b = .inr p → p = v) → VC P B (.seq .skip rest) (jmp l (fun s'=>∃ x',b = .inl x' ∧ Sub s' (S x')) Q) (S x):=fun x b h1 h2=>VC.seq (VC.skip (round x b h1 h2))
  rw [lpU_eq] at h
  split at h
  · cases h
  · rename_i s' hst
    refine VC.mono (round x0 (.inl s') hst fun p hp=>by cases hp) fun e s'' h2=>?_
    cases e with
    | goto l'=>
      obtain ⟨rfl,x',hx',hsub⟩:=h2
      injection hx' with hx'
      subst hx'
      exact ⟨rfl,s',v,h,hsub,rounds⟩
    | _=>exact h2
  · rename_i r hst
    injection h with h
    subst h
    refine VC.mono (round x0 (.inr r) hst fun p hp=>by injection hp with hp; exact hp.symm) fun e s'' h2=>?_
    cases e with
    | goto l'=>
      obtain ⟨rfl,x',hx',hsub⟩:=h2
      cases hx'
    | _=>exact h2
end
theorem Ctr.ofN {P : Program} {T : Nat → TI} (hT : TabOk P T) {f : FuncId} {fn : Func} {c : Code} (hf : P.funcs[f]? = some fn) (hb : fn.body = some c) (hcall : ∀ vals w,(callFunc f vals).run P w = .ok (.enter f vals) w) {args : List AV} {H H' : Hp} {r : AV} (n nt : Nat) (hnt : fn.ntmps = nt) (rs : List ResultVar) (hrs : fn.results.toList = rs)
    (hn : decide (args.length ≤ nt) = true) (hids : (H.all fun p=>decide (p.1 < n)) = true) (h : ∀ B,B.rd = none → VC P B c (fun e s'=>∃ s'',Sub s' s'' ∧ Post T rs r H' e s'') ⟨enumA 0 args,H,n,nt,n⟩) : Ctr P f args H r H':=
  Ctr.of_ hT hf hb hcall n nt hnt rs hrs hn hids fun B hB a w hs=>wpIn_mono (h B hB a w hs) fun e a' w' ⟨s',⟨s'',hsub,hq⟩,hr⟩=>⟨s'',hq,hsub B a' w' hr⟩
structure Grows (w w' : World) : Prop where
  os : w'.os = w.os
  tape : w'.tape = w.tape
  output : w'.output = w.output
  size : w.heap.size ≤ w'.heap.size
  keep : ∀ b,b < w.heap.size → w'.heap[b]? = w.heap[b]?
theorem Grows.refl (w : World) : Grows w w:=⟨rfl,rfl,rfl,Nat.le_refl _,fun _ _=>rfl⟩
theorem Grows.trans {a b c : World} (h : Grows a b) (k : Grows b c) : Grows a c:=
  ⟨k.os.trans h.os,k.tape.trans h.tape,k.output.trans h.output,Nat.le_trans h.size k.size,fun q hq=>(k.keep q (Nat.lt_of_lt_of_le hq h.size)).trans (h.keep q hq)⟩
theorem Grows.alloc (w : World) (o : Obj) : Grows w (w.alloc o):=⟨rfl,rfl,rfl,by simp,fun b hb=>Below.heap_alloc _ _ _ hb⟩
theorem Grows.of_tr {w w' : World} {x x' : Cx} {hp' : Hp} (t : Tr w x [] w' x' hp') : Grows w w':=⟨t.os,t.tape,t.output,t.size,fun b hb=>t.keep b hb fun id o hl=>by simp [look] at hl⟩
section
variable {P : Program} {B : Base} {s : St} {a : Act} {w : World} {x : Cx} {hp : Hp}
theorem HRel.nob {l : Nat} {r : Loop} (h : HRel w x hp) (hl : w.heap[l]? = some (.loop r)) : ∀ id o,look hp id = some o → x.β id ≠ some l:=fun id o ho hb=>by
  have hob:=h.obj id o ho
  cases o with
  | box t cs=>
    obtain ⟨b,vs,e1,e2,_⟩:=hob
    rw [hb] at e1
    injection e1 with e1
    subst e1
    rw [hl] at e2
    cases e2
  | row t sz g els=>
    rcases hob.2 with e | ⟨b,vs,e1,e2,_⟩
    · rw [hb] at e
      cases e.1
    · rw [hb] at e1
      injection e1 with e1
      subst e1
      rw [hl] at e2
      cases e2
  | mp es n=>
    obtain ⟨b,ms,e1,e2,_⟩:=hob
    rw [hb] at e1
    injection e1 with e1
    subst e1
    rw [hl] at e2
    cases e2
theorem Mo.poke {l : Nat} (hok : ¬ x.ok l) (o : Obj) : Mo w x hp (w.putObj l o) x hp:=
  ⟨fun _ h=>h,fun _ _ h=>h,fun b hb=>World.putObj_heap_other (by rintro rfl; exact hok hb),fun _ _ h=>⟨h,rfl⟩,fun _ _ _ _ h=>⟨h,rfl,rfl⟩,fun _ _ h=>⟨h,rfl⟩⟩
theorem HRel.poke {l : Nat} {r : Loop} (h : HRel w x hp) (hl : w.heap[l]? = some (.loop r)) (hok : ¬ x.ok l) (o : Obj) : HRel (w.putObj l o) x hp:=
  ⟨fun b hb=>by rw [World.putObj_size]; exact h.okb b hb,h.dom,h.gen,h.gdm,fun id o b h1 h2=>by rw [World.putObj_size]; exact h.liv id o b h1 h2,h.inj,
    fun id o' ho=>(h.obj id o' ho).mono (Mo.poke hok o) rfl rfl fun b hb=>World.putObj_heap_other fun e=>by subst e; exact h.nob hl id o' ho hb⟩
theorem Core.poke {D : Nat → Prop} {l : Nat} {r : Loop} (hC : Core B D s a w x) (hl : w.heap[l]? = some (.loop r)) (hok : ¬ x.ok l) (hb : B.w.heap.size ≤ l) (o : Obj) : Core B D s a (w.putObj l o) x:=by
  refine ⟨hC.h.poke hl hok o,fun t u ht=>(hC.t t u ht).mono (Mo.poke hok o),hC.n,?_,?_,hC.mo.trans (Mo.poke hok o),hC.lo,hC.ln,hC.dom⟩
  · obtain ⟨Ds,h1,h2,h3,hrd⟩:=hC.d
    refine ⟨Ds,h1,h2,fun D hD=>?_,hrd⟩
    obtain ⟨h4,h5,h6⟩:=h3 D hD
    exact ⟨(World.putObj_heap_other (by rintro rfl; rw [hl] at h4; cases h4)).trans h4,h5,h6⟩
  · have t:=hC.tr
    exact ⟨t.os,t.tape,t.output,by rw [World.putObj_size]; exact t.size,fun b hb' hn=>(World.putObj_heap_other (by omega)).trans (t.keep b hb' hn),t.okx,t.newb⟩
theorem Core.grow {D : Nat → Prop} {w' : World} (hC : Core B D s a w x) (h : Grows w w') : Core B D s a w' x:=by
  have m : Mo w x s.hp w' x s.hp:=⟨fun _ h=>h,fun _ _ h=>h,fun b hb=>h.keep b (hC.h.okb b hb),fun _ _ h=>⟨h,rfl⟩,fun _ _ _ _ h=>⟨h,rfl,rfl⟩,fun _ _ h=>⟨h,rfl⟩⟩
  have t : Tr w x s.hp w' x s.hp:=⟨h.os,h.tape,h.output,h.size,fun b hb _=>h.keep b hb,fun _ h=>.inl h,fun id o _ h1 h2=>.inr ⟨id,o,h1,h2⟩⟩
  refine ⟨⟨fun b hb=>Nat.lt_of_lt_of_le (hC.h.okb b hb) h.size,hC.h.dom,hC.h.gen,hC.h.gdm,fun id o b h1 h2=>⟨Nat.lt_of_lt_of_le (hC.h.liv id o b h1 h2).1 h.size,(hC.h.liv id o b h1 h2).2⟩,hC.h.inj,
    fun id o ho=>(hC.h.obj id o ho).mono m rfl rfl fun b hb=>h.keep b (hC.h.liv id o b ho hb).1⟩,fun t u ht=>(hC.t t u ht).mono m,hC.n,hC.d.step hC.h t,hC.tr.trans t,hC.mo.trans m,hC.lo,hC.ln,hC.dom⟩
theorem Core.step {w' : World} {x' : Cx} {hp' : Hp} (hC : Core B (· < s.nx) s a w x) (st : Stp w x s.hp w' x' hp') (hd : ∀ id g,x'.dom id g → id < s.nx) : Core B (· < s.nx) { s with hp:=hp' } a w' x':=
  ⟨st.h,fun t u ht=>(hC.t t u ht).mono st.mo,hC.n,hC.d.step hC.h st.tr,hC.tr.trans st.tr,hC.mo.trans st.mo,hC.lo,hC.ln,hd⟩
end
def putAll : List Nat → List AV → List (Nat × AV) → List (Nat × AV)
  | p :: ps,u :: us,m=>putAll ps us ((p,u) :: m)
  | _,_,m=>m
def ItC (P : Program) (gf : Nat) (caps : List AV) (us : List (List AV)) : Prop:=
  ∀ (W0 : World) (x0 : Cx) (lb : Array Value),HRel W0 x0 [] → lb.size = caps.length → (∀ (i : Nat) (u : AV),caps[i]? = some u → VRel W0 x0 [] u (lb.getD i undef)) →
  ∀ (l : Nat) (J : Nat → World → (Nat → Prop) → Prop) (Jx : World → Prop),
    (∀ k A A' own,J k A own → Grows A A' → J k A' own) → (∀ A A',Jx A → Grows A A' → Jx A') →
    (∀ k W own,J k W own → (∀ b,own b → b < W.heap.size) ∧ ∀ b,x0.ok b → ¬ own b) →
    (∀ k (u : List AV) (vals : Array Value) W own,J k W own → us[k]? = some u → vals.size = u.length →
      (∀ (i : Nat) (u0 : AV),u[i]? = some u0 → ∀ (x' : Cx) (hp' : Hp),VRel W x' hp' u0 (vals.getD i undef)) →
      YieldAt Fence.wide 0 P l vals W fun e W'=>∃ c : Bool,e = .returned (.bool c) ∧ (∀ b,b < W.heap.size → ¬ own b → W'.heap[b]? = W.heap[b]?) ∧ W.heap.size ≤ W'.heap.size ∧
        (c = true → ∃ own',J (k + 1) W' own' ∧ ∀ b,own' b → own b ∨ W.heap.size ≤ b) ∧ (c = false → Jx W')) →
    ∀ own,J 0 W0 own → CallsIn Fence.wide 0 P gf (#[.func (.yield l) #[] #[]] ++ lb) W0 fun e W'=>(∃ v,e = .returned v) ∧ ((∃ own',J us.length W' own') ∨ Jx W')
def rnd (s : St) (J : Hp → Prop) (Jx : Hp → Prop) : Exit → St → Prop
  | .normal,s'=>∃ hp',J hp' ∧ Sub s' ⟨[],hp',s.nx,s.nt,s.nx⟩
  | .ret,s'=>∃ hp',Jx hp' ∧ Sub s' ⟨[],hp',s.nx,s.nt,s.nx⟩
  | _,_=>False
theorem putAll_rel {w : World} {x : Cx} {hp : Hp} : ∀ (ps : List Nat) (us : List AV) (m : List (Nat × AV)) (vals : List Value) (tm : Array Value),vals.length = us.length → ps.length = us.length → (∀ p ∈ ps,p < tm.size) →
    (∀ (i : Nat) (u : AV),us[i]? = some u → VRel w x hp u (vals.getD i undef)) → (∀ t u,look m t = some u → VRel w x hp u (tm.getD t undef)) →
    ((ps.zip vals).foldl (fun (t : Array Value) (q : Nat × Value)=>t.setIfInBounds q.1 q.2) tm).size = tm.size ∧
    ∀ t u,look (putAll ps us m) t = some u → VRel w x hp u (((ps.zip vals).foldl (fun (t : Array Value) (q : Nat × Value)=>t.setIfInBounds q.1 q.2) tm).getD t undef)
  | [],[],m,[],tm,_,_,_,_,h=>⟨rfl,h⟩
  | p :: ps,u :: us,m,v :: vals,tm,h1,h2,h3,h4,h=>by
    have hr:=putAll_rel (w:=w) (x:=x) (hp:=hp) ps us ((p,u) :: m) vals (tm.setIfInBounds p v) (by simpa using h1) (by simpa using h2) (fun q hq=>by simpa using h3 q (by simp [hq]))
      (fun i u0 hu=>by have:=h4 (i + 1) u0 (by simpa using hu); simpa using this) (fun t u0 ht=>by
        simp only [look] at ht
        split at ht
        · rename_i e
          subst e
          injection ht with ht
          subst ht
          have hlt:=h3 t (by simp)
          have : (tm.setIfInBounds t v).getD t undef = v:=by simp [hlt]
          rw [this]
          simpa using h4 0 u rfl
        · rename_i e
          have : (tm.setIfInBounds p v).getD t undef = tm.getD t undef:=by
            simp only [Array.getD_eq_getD_getElem?]
            rw [Array.getElem?_setIfInBounds_ne (Ne.symm e)]
          rw [this]
          exact h t u0 ht)
    exact ⟨by simpa using hr.1,by simpa [putAll] using hr.2⟩
  | [],_ :: _,_,_,_,_,h2,_,_,_=>by simp at h2
  | _ :: _,[],_,_,_,_,h2,_,_,_=>by simp at h2
  | [],[],_,_ :: _,_,h1,_,_,_,_=>by simp at h1
  | _ :: _,_ :: _,_,[],_,h1,_,_,_,_=>by simp at h1
section
variable {P : Program} {B : Base} {Q : Exit → St → Prop} {s : St}
theorem VC.rangeF (hB : B.rd = none) {g gf : Nat} {ps : Array Tmp} {assign body : Code} {caps : List AV} {us : List (List AV)} (hg : look s.tm g = some (.fn (.func gf) [] caps)) (eg : ∀ args w,(callFunc gf args).run P w = .ok (.enter gf args) w)
    (hin : (caps.all (AV.in3 (Hp.has []))) = true) (hps : (ps.toList.all fun p=>decide (p < s.nt)) = true) (hus : ∀ u ∈ us,u.length = ps.size) (hit : ItC P gf caps us)
    (J : Nat → Hp → Prop) (Jx : Hp → Prop) (h0 : J 0 s.hp)
    (round : ∀ (k : Nat) (u : List AV) (hp : Hp),J k hp → us[k]? = some u → ∀ B',VC P B' assign (thn (fun s1=>∃ tm2,Sub s1 ⟨tm2,hp,s.nx,s.nt,s.nx⟩ ∧ ∀ B'',VC P B'' body (rnd s (J (k + 1)) Jx) ⟨tm2,hp,s.nx,s.nt,s.nx⟩) (fun _ _=>False)) ⟨putAll ps.toList u s.tm,hp,s.nx,s.nt,s.nx⟩)
    (hdone : ∀ hp,J us.length hp → Q .normal { s with hp:=hp }) (hstop : ∀ hp,Jx hp → Q .ret { s with hp:=hp }) : VC P B (.rangeFunc (.tmp g) ps assign body) Q s:=fun a w hs=>by
  obtain ⟨x0,hC0⟩:=hs
  rw [hB]
  have hfn:=hC0.t g _ hg
  obtain ⟨lb,hlb,hlsz,hlrel⟩ : ∃ lb,a.tmps.getD g undef = .func (.func gf) #[] lb ∧ lb.size = caps.length ∧ ∀ (i : Nat) (u : AV),caps[i]? = some u → VRel w x0 s.hp u (lb.getD i undef):=by
    generalize a.tmps.getD g undef = v at hfn
    cases hfn with
    | dat h=>cases h
    | fn f first caps fs cs hl hl' h h'=>exact ⟨cs,by rw [show fs = #[] from Array.eq_empty_of_size_eq_zero hl],hl',h'⟩
  refine wpIn_rangeFunc (F:=Fence.wide) (n:=0) ?_
  intro fn _
  obtain ⟨rec,hrec⟩ : ∃ rec : LoopState → Option Code → Loop,rec = fun st pe=>{ state:=st,pending:=pe,fn,tmps:=a.tmps,params:=ps,assign,body,defers:=w.heap.size }:=⟨_,rfl⟩
  obtain ⟨l,hl⟩ : ∃ l,l = w.heap.size + 1:=⟨_,rfl⟩
  obtain ⟨W1,hW1⟩ : ∃ W1,(w.alloc (.deferred (some []))).alloc (.loop (rec .ready none)) = W1:=⟨_,rfl⟩
  have hL1 : W1.heap[l]? = some (.loop (rec .ready none)):=by
    rw [← hW1,hl]; have:=World.alloc_heap_new (w.alloc (.deferred (some []))) (.loop (rec .ready none)); rwa [World.size_alloc] at this
  have hK1 : W1.heap[w.heap.size]? = some (.deferred (some [])):=by
    rw [← hW1]; exact (Below.heap_alloc _ _ _ (by simp)).trans (World.alloc_heap_new w _)
  have hgr : Grows w W1:=by rw [← hW1]; exact (Grows.alloc _ _).trans (Grows.alloc _ _)
  obtain ⟨a',ha'⟩ : ∃ a' : Act,a' = { a with defers:=[{ target:=.collected w.heap.size,args:=#[] }] ++ a.defers }:=⟨_,rfl⟩
  have htm : a'.tmps = a.tmps:=by rw [ha']
  have hC1 : Core B (· < s.nx) s a' W1 x0:=by
    have hC:=hC0.grow hgr
    refine ⟨hC.h,fun t u ht=>by rw [htm]; exact hC.t t u ht,by rw [htm]; exact hC.n,?_,hC.tr,hC.mo,hC.lo,hC.ln,hC.dom⟩
    obtain ⟨Ds,h1,h2,h3,_⟩:=hC.d
    obtain ⟨Ds0,h10,h20,h30,_⟩:=hC0.d
    have hlt : ∀ D ∈ Ds0,D < w.heap.size:=fun D hD=>(Array.getElem?_eq_some_iff.1 (h30 D hD).1).1
    have hds : Ds = Ds0:=by
      have : Ds.map mark = Ds0.map mark:=h1.symm.trans h10
      have inj : ∀ a b,mark a = mark b → a = b:=fun a b h=>by simpa [mark] using h
      exact List.map_inj_right inj |>.1 this
    subst hds
    refine ⟨w.heap.size :: Ds,by rw [ha',h1]; rfl,List.nodup_cons.2 ⟨fun hm=>by have:=hlt _ hm; omega,h2⟩,fun D hD=>?_,fun h=>absurd hB h⟩
    rcases List.mem_cons.1 hD with rfl | hD
    · exact ⟨hK1,hC0.tr.size,fun h=>by have:=hC0.h.okb _ h; omega⟩
    · exact h3 D hD
  have hlB : B.w.heap.size ≤ l:=by have:=hC0.tr.size; omega
  have hlok : ¬ x0.ok l:=fun h=>by have:=hC0.h.okb _ h; omega
  refine ⟨l,[{ target:=.collected w.heap.size,args:=#[] }],W1,{ target:=.fn (.func gf) lb,args:=#[.func (.yield l) #[] #[]] },W1,gf,
    #[.func (.yield l) #[] #[]] ++ lb,W1,?_,?_,fun _ _=>trivial,?_,fun h=>by simp [Fence.wide] at h,?_⟩
  · rw [← hW1,hrec,hl]; exact run_enterLoop_outer _ _ _ _ _
  · have : a.eval (.tmp g) = .func (.func gf) #[] lb:=hlb
    simp only [resolve,this]
    simp [go_sem]
  · simp [invoke,go_sem,eg]
  rw [← ha']
  -- the invariant
  let own : Hp → Cx → Nat → Prop:=fun hp x b=>b = l ∨ ∃ id o,look hp id = some o ∧ x.β id = some b
  let JW : Nat → World → (Nat → Prop) → Prop:=fun k W ow=>∃ hp x,J k hp ∧ Core B (· < s.nx) { s with hp:=hp } a' W x ∧ (∀ b,x0.ok b → x.ok b) ∧ W.heap[l]? = some (.loop (rec .ready none)) ∧ ¬ x.ok l ∧ ow = own hp x
  let JxW : World → Prop:=fun W=>∃ hp x,Jx hp ∧ Core B (· < s.nx) { s with hp:=hp } a' W x ∧ W.heap[l]? = some (.loop (rec .done (some .ret))) ∧ ¬ x.ok l
  have hS0 : SubH [] s.hp:=fun id o h=>by simp [look] at h
  have hH0 : HRel W1 (x0.only (Hp.has [])) []:=hC1.h.sub hS0 (Hp.has []) fun id o h=>by simp [look] at h
  refine (hit W1 (x0.only (Hp.has [])) lb hH0 hlsz (fun i u hu=>?_) l JW JxW ?_ ?_ ?_ ?_ (own s.hp x0) ⟨s.hp,x0,h0,hC1,fun _ h=>h,hL1,hlok,rfl⟩).mono ?_
  · have hfn:=hC1.t g _ hg
    rw [htm,hlb] at hfn
    have hv : VRel W1 x0 s.hp u (lb.getD i undef):=by
      cases hfn with
      | dat h=>cases h
      | fn f first caps fs cs hl hl' h h'=>exact h' i u hu
    exact (hv.in3_ (all_at hin hu)).mono (Mo.sub hS0)
  · rintro k A A' ow ⟨hp,x1,h1,h2,h3,h4,h5,h6⟩ hg
    exact ⟨hp,x1,h1,h2.grow hg,h3,(hg.keep l (Array.getElem?_eq_some_iff.1 h4).1).trans h4,h5,h6⟩
  · rintro A A' ⟨hp,x1,h1,h2,h4,h5⟩ hg
    exact ⟨hp,x1,h1,h2.grow hg,(hg.keep l (Array.getElem?_eq_some_iff.1 h4).1).trans h4,h5⟩
  · rintro k W ow ⟨hp,x1,h1,h2,h3,h4,h5,rfl⟩
    refine ⟨?_,?_⟩
    · rintro b (rfl | ⟨id,o,e1,e2⟩)
      · exact (Array.getElem?_eq_some_iff.1 h4).1
      · exact (h2.h.liv id o b e1 e2).1
    · rintro b hb (rfl | ⟨id,o,e1,e2⟩)
      · exact h5 (h3 _ hb)
      · exact (h2.h.liv id o b e1 e2).2 (h3 _ hb)
  · rintro k u vals W ow ⟨hp,x1,h1,h2,h3,h4,h5,rfl⟩ hu hvs hvals
    have hupl : u.length = ps.size:=hus u (List.mem_of_getElem? hu)
    have hy:=run_yield (P:=P) (args:=vals) h4 (by rw [hrec]; exact hvs.trans hupl)
    rw [hrec] at hy
    refine ⟨fn,_,assign,body,hy,roundIn_of_wpIn (F:=Fence.wide) trivial ?_⟩
    have hfold : (ps.zip vals).foldl (fun (tmps : Array Value) (q : Nat × Value)=>tmps.setIfInBounds q.1 q.2) a.tmps = (ps.toList.zip vals.toList).foldl (fun (t : Array Value) (q : Nat × Value)=>t.setIfInBounds q.1 q.2) a.tmps:=by
      rw [← Array.foldl_toList,Array.toList_zip]
    have hpr:=putAll_rel (w:=W) (x:=x1) (hp:=hp) ps.toList u s.tm vals.toList a.tmps (by simpa using hvs) (by simpa using hupl.symm) (fun p hp=>by
        have:=(List.all_eq_true.1 hps) p hp
        have hn:=h2.n
        rw [htm] at hn
        show p < a.tmps.size
        rw [hn]
        simpa using this) (fun i u0 hu0=>by
          have:=hvals i u0 hu0 x1 hp
          simpa [List.getD_eq_getElem?_getD,Array.getD_eq_getD_getElem?] using this) (fun t u0 ht=>by have:=h2.t t u0 ht; rwa [htm] at this)
    rw [← hfold] at hpr
    have hn2:=h2.n
    rw [htm] at hn2
    have hCa : Core ⟨W,x1,hp,some (some l)⟩ (· < s.nx) ⟨putAll ps.toList u s.tm,hp,s.nx,s.nt,s.nx⟩ { tmps:=(ps.zip vals).foldl (fun (tmps : Array Value) (q : Nat × Value)=>tmps.setIfInBounds q.1 q.2) a.tmps,defers:=[] } W x1:=
      ⟨h2.h,hpr.2,hpr.1.trans hn2,Mk.nil _ _ _,Tr.refl _ _ _,Mo.refl _ _ _,h2.dom,Nat.le_refl _,h2.dom⟩
    have hlW : l < W.heap.size:=(Array.getElem?_eq_some_iff.1 h4).1
    refine wpIn_mono (round k u hp h1 hu ⟨W,x1,hp,some (some l)⟩ _ W ⟨x1,hCa⟩) ?_
    rintro e a1 W2 ⟨s1,hs1,hr1⟩
    cases e with
    | normal=>
      obtain ⟨tm2,hsub,hbody⟩:=hs1
      obtain ⟨x2,hC2⟩:=hsub _ _ _ hr1
      have hst2 : Stp W x1 hp W2 x2 hp:=⟨hC2.mo,hC2.tr,hC2.h⟩
      have hl2 : W2.heap[l]? = some (.loop (rec .ready none)):=(hC2.tr.keep l hlW (h2.h.nob h4)).trans h4
      have hok2 : ¬ x2.ok l:=fun h=>by
        rcases hC2.tr.okx l h with e | e | ⟨id,o,e1,e2⟩
        · exact h5 e
        · have : W.heap.size ≤ l:=e
          omega
        · exact h2.h.nob h4 id o e1 e2
      have hCo2:=h2.step (s:={ s with hp:=hp }) hst2 hC2.dom
      refine ⟨_,run_beginRound hl2 (by rw [hrec]),?_⟩
      obtain ⟨W3,hW3⟩ : ∃ W3,W2.putObj l (.loop { rec .ready none with state:=.busy }) = W3:=⟨_,rfl⟩
      rw [hW3]
      have hCo3 : Core B (· < s.nx) { s with hp:=hp } a' W3 x2:=by rw [← hW3]; exact hCo2.poke hl2 hok2 hlB _
      have hl2s : l < W2.heap.size:=(Array.getElem?_eq_some_iff.1 hl2).1
      have hl3 : W3.heap[l]? = some (.loop { rec .ready none with state:=.busy }):=by rw [← hW3]; exact World.putObj_heap_same hl2s
      have hm3 : Mo W2 x2 hp W3 x2 hp:=by rw [← hW3]; exact Mo.poke hok2 _
      have hCb : Core ⟨W3,x2,hp,some (some l)⟩ (· < s.nx) ⟨tm2,hp,s.nx,s.nt,s.nx⟩ a1 W3 x2:=
        ⟨hCo3.h,fun t u0 ht=>(hC2.t t u0 ht).mono hm3,hC2.n,by
          obtain ⟨Ds,e1,_,_,e4⟩:=hC2.d
          exact ⟨Ds,e1,by rw [e4 (by simp)]; exact .nil,(fun D hD=>by rw [e4 (by simp)] at hD; cases hD),fun _=>e4 (by simp)⟩,Tr.refl _ _ _,Mo.refl _ _ _,hC2.dom,Nat.le_refl _,hC2.dom⟩
      refine wpIn_mono (hbody ⟨W3,x2,hp,some (some l)⟩ a1 W3 ⟨x2,hCb⟩) ?_
      have hfin : ∀ (jump : Option Code) (hp' : Hp) (W4 : World) (a4 : Act) (s4 : St),Sub s4 ⟨[],hp',s.nx,s.nt,s.nx⟩ → SRel ⟨W3,x2,hp,some (some l)⟩ s4 a4 W4 →
          ∃ W5 x5,(Instr.endRound l jump).run P W4 = .ok (.bool jump.isNone) W5 ∧ Core B (· < s.nx) { s with hp:=hp' } a' W5 x5 ∧ W5.heap[l]? = some (.loop (rec (if jump.isNone then .ready else .done) jump)) ∧ ¬ x5.ok l ∧
            (∀ b,x1.ok b → x5.ok b) ∧ (∀ b,b < W.heap.size → ¬ own hp x1 b → W5.heap[b]? = W.heap[b]?) ∧ W.heap.size ≤ W5.heap.size ∧ ∀ b,own hp' x5 b → own hp x1 b ∨ W.heap.size ≤ b:=by
        intro jump hp' W4 a4 s4 hs4 hr4
        obtain ⟨x5,hC5⟩:=hs4 _ _ _ hr4
        have t5 : Tr W3 x2 hp W4 x5 hp':=hC5.tr
        have hst5 : Stp W3 x2 hp W4 x5 hp':=⟨hC5.mo,hC5.tr,hC5.h⟩
        have hl3s : l < W3.heap.size:=(Array.getElem?_eq_some_iff.1 hl3).1
        have hl4 : W4.heap[l]? = some (.loop { rec .ready none with state:=.busy }):=(t5.keep l hl3s (hCo3.h.nob hl3)).trans hl3
        have hok5 : ¬ x5.ok l:=fun h=>by
          rcases t5.okx l h with e | e | ⟨id,o,e1,e2⟩
          · exact hok2 e
          · omega
          · exact hCo3.h.nob hl3 id o e1 e2
        have hCo5:=hCo3.step (s:={ s with hp:=hp }) hst5 hC5.dom
        have hrun:=run_endRound (P:=P) jump hl4
        have hl4s : l < W4.heap.size:=(Array.getElem?_eq_some_iff.1 hl4).1
        refine ⟨_,x5,hrun,hCo5.poke hl4 hok5 hlB _,?_,hok5,fun b hb=>hC5.mo.ok b (hC2.mo.ok b hb),?_,?_,?_⟩
        · rw [World.putObj_heap_same hl4s,hrec]
        · intro b hb hn
          have hbl : b ≠ l:=fun e=>hn (.inl e)
          have n1 : ∀ id o,look hp id = some o → x1.β id ≠ some b:=fun id o e1 e2=>hn (.inr ⟨id,o,e1,e2⟩)
          have k1 : W2.heap[b]? = W.heap[b]?:=hC2.tr.keep b hb n1
          have k2 : W3.heap[b]? = W2.heap[b]?:=by rw [← hW3]; exact World.putObj_heap_other hbl
          have n2 : ∀ id o,look hp id = some o → x2.β id ≠ some b:=fun id o e1 e2=>by
            rcases hC2.tr.newb id o b e1 e2 with e | ⟨id0,o0,e3,e4⟩
            · have : W.heap.size ≤ b:=e
              omega
            · exact n1 id0 o0 e3 e4
          have s23 : W3.heap.size = W2.heap.size:=by rw [← hW3,World.putObj_size]
          have s12 : W.heap.size ≤ W2.heap.size:=hC2.tr.size
          have k3 : W4.heap[b]? = W3.heap[b]?:=t5.keep b (by omega) n2
          rw [World.putObj_heap_other hbl,k3,k2,k1]
        · have s23 : W3.heap.size = W2.heap.size:=by rw [← hW3,World.putObj_size]
          have s12 : W.heap.size ≤ W2.heap.size:=hC2.tr.size
          have s34 : W3.heap.size ≤ W4.heap.size:=t5.size
          rw [World.putObj_size]
          omega
        · rintro b (rfl | ⟨id,o,e1,e2⟩)
          · exact .inl (.inl rfl)
          · have s23 : W3.heap.size = W2.heap.size:=by rw [← hW3,World.putObj_size]
            have s12 : W.heap.size ≤ W2.heap.size:=hC2.tr.size
            rcases t5.newb id o b e1 e2 with e | ⟨id0,o0,e3,e4⟩
            · exact .inr (by omega)
            · rcases hC2.tr.newb id0 o0 b e3 e4 with e | ⟨id1,o1,e5,e6⟩
              · exact .inr e
              · exact .inl (.inr ⟨id1,o1,e5,e6⟩)
      rintro e a4 W4 ⟨s4,hq4,hr4⟩
      cases e with
      | normal=>
        obtain ⟨hp',hJ',hs4⟩:=hq4
        obtain ⟨W5,x5,r1,r2,r3,r4,r5,r6,r7,r8⟩:=hfin none hp' W4 a4 s4 hs4 hr4
        exact ⟨_,_,r1,true,rfl,r6,r7,fun _=>⟨own hp' x5,⟨hp',x5,hJ',r2,fun b hb=>r5 b (h3 b hb),r3,r4,rfl⟩,r8⟩,fun h=>by cases h⟩
      | ret=>
        obtain ⟨hp',hJ',hs4⟩:=hq4
        obtain ⟨W5,x5,r1,r2,r3,r4,r5,r6,r7,r8⟩:=hfin (some .ret) hp' W4 a4 s4 hs4 hr4
        exact ⟨_,_,r1,false,rfl,r6,r7,(fun h=>by cases h),fun _=>⟨hp',x5,hJ',r2,r3,r4⟩⟩
      | _=>exact hq4.elim
    | _=>exact hs1.elim
  · rintro e W2 ⟨⟨v,rfl⟩,(⟨ow,hp,x,h1,h2,h3,h4,h5,h6⟩ | ⟨hp,x,h1,h2,h4,h5⟩)⟩
    · refine ⟨none,_,by have:=run_endLoop (P:=P) h4 (by rw [hrec]; simp); rw [hrec] at this; exact this,?_⟩
      exact ⟨_,hdone hp h1,x,h2.poke h4 h5 hlB _⟩
    · refine ⟨some .ret,_,by have:=run_endLoop (P:=P) h4 (by rw [hrec]; simp); rw [hrec] at this; exact this,?_⟩
      exact wpIn_ret ⟨_,hstop hp h1,x,h2.poke h4 h5 hlB _⟩
def itU {α σ ρ : Type} (step : σ → α → Option (σ ⊕ ρ)) : List α → σ → Option (σ ⊕ ρ)
  | [],s=>some (.inl s)
  | u :: l,s=>match step s u with
    | none=>none
    | some (.inl s')=>itU step l s'
    | some (.inr r)=>some (.inr r)
def pq {α β γ : Type} (x : Option (α ⊕ β)) (k : α → Option γ) (kr : β → Option γ) : Option γ:=match x with
  | none=>none
  | some (.inl a)=>k a
  | some (.inr b)=>kr b
theorem pq_some {α β γ : Type} {x : Option (α ⊕ β)} {k : α → Option γ} {kr : β → Option γ} {r : γ} (h : pq x k kr = some r) : ∃ b,x = some b ∧ (∀ a,b = .inl a → k a = some r) ∧ ∀ y,b = .inr y → kr y = some r:=by
  unfold pq at h
  split at h
  · cases h
  · exact ⟨_,rfl,(fun a e=>by injection e with e; subst e; exact h),fun y e=>by cases e⟩
  · exact ⟨_,rfl,(fun a e=>by cases e),fun y e=>by injection e with e; subst e; exact h⟩
def rndP {σ ρ : Type} (s : St) (S : σ → Hp) (SR : ρ → Hp) (c : σ ⊕ ρ) : Exit → St → Prop
  | .normal,s'=>∃ x',c = .inl x' ∧ Sub s' ⟨[],S x',s.nx,s.nt,s.nx⟩
  | .ret,s'=>∃ y,c = .inr y ∧ Sub s' ⟨[],SR y,s.nx,s.nt,s.nx⟩
  | _,_=>False
theorem VC.rangeP (hB : B.rd = none) {α σ ρ : Type} {xs : List α} {enc : α → List AV} {step : σ → α → Option (σ ⊕ ρ)} {x0 : σ} {b : σ ⊕ ρ} (h : itU step xs x0 = some b) {g gf : Nat} {ps : Array Tmp} {assign body : Code} {caps : List AV}
    (hg : look s.tm g = some (.fn (.func gf) [] caps)) (eg : ∀ args w,(callFunc gf args).run P w = .ok (.enter gf args) w)
    (hin : (caps.all (AV.in3 (Hp.has []))) = true) (hps : (ps.toList.all fun p=>decide (p < s.nt)) = true) (hlen : ∀ u,(enc u).length = ps.size) (hit : ItC P gf caps (xs.map enc)) (S : σ → Hp) (SR : ρ → Hp) (h0 : s.hp = S x0)
    (round : ∀ x u c,step x u = some c → ∀ B',VC P B' assign (thn (fun s1=>∃ tm2,Sub s1 ⟨tm2,S x,s.nx,s.nt,s.nx⟩ ∧ ∀ B'',VC P B'' body (rndP s S SR c) ⟨tm2,S x,s.nx,s.nt,s.nx⟩) (fun _ _=>False)) ⟨putAll ps.toList (enc u) s.tm,S x,s.nx,s.nt,s.nx⟩)
    (hdone : ∀ x,b = .inl x → Q .normal { s with hp:=S x }) (hstop : ∀ y,b = .inr y → Q .ret { s with hp:=SR y }) : VC P B (.rangeFunc (.tmp g) ps assign body) Q s:=by
  refine VC.rangeF hB hg eg hin hps (fun u hu=>by obtain ⟨y,_,rfl⟩:=List.mem_map.1 hu; exact hlen y) hit (fun k hp=>∃ x,itU step (xs.drop k) x = some b ∧ hp = S x) (fun hp=>∃ y,b = .inr y ∧ hp = SR y) ⟨x0,by simpa using h,h0⟩ ?_ ?_ ?_
  · rintro k u hp ⟨x,h1,rfl⟩ hu B'
    rw [List.getElem?_map] at hu
    obtain ⟨y,hy,rfl⟩:=Option.map_eq_some_iff.1 hu
    have hk : k < xs.length:=(List.getElem?_eq_some_iff.1 hy).1
    have hd : xs.drop k = y :: xs.drop (k + 1):=by
      rw [List.drop_eq_getElem_cons hk]
      congr 1
      exact (List.getElem?_eq_some_iff.1 hy).2
    rw [hd] at h1
    simp only [itU] at h1
    have key : ∀ c,step x y = some c → (∀ x',c = .inl x' → itU step (xs.drop (k + 1)) x' = some b) → (∀ r,c = .inr r → b = .inr r) → VC P B' assign (thn (fun s1=>∃ tm2,Sub s1 ⟨tm2,S x,s.nx,s.nt,s.nx⟩ ∧ ∀ B'',VC P B'' body (rnd s (fun hp=>∃ x,itU step (xs.drop (k + 1)) x = some b ∧ hp = S x) (fun hp=>∃ y,b = .inr y ∧ hp = SR y)) ⟨tm2,S x,s.nx,s.nt,s.nx⟩) (fun _ _=>False)) ⟨putAll ps.toList (enc y) s.tm,S x,s.nx,s.nt,s.nx⟩:=by
      intro c hc k1 k2
      refine VC.mono (round x y c hc B') ?_
      rintro e s1 h3
      cases e with
      | normal=>
        obtain ⟨tm2,h4,h5⟩:=h3
        refine ⟨tm2,h4,fun B''=>VC.mono (h5 B'') ?_⟩
        rintro e s2 h6
        cases e with
        | normal=>
          obtain ⟨x',h7,h8⟩:=h6
          exact ⟨_,⟨x',k1 x' h7,rfl⟩,h8⟩
        | ret=>
          obtain ⟨y',h7,h8⟩:=h6
          exact ⟨_,⟨y',k2 y' h7,rfl⟩,h8⟩
        | _=>exact h6.elim
      | _=>exact h3.elim
    split at h1
    · cases h1
    · rename_i x' hst
      exact key _ hst (fun x'' e=>by injection e with e; subst e; exact h1) (fun r e=>by cases e)
    · rename_i r hst
      injection h1 with h1
      exact key _ hst (fun x'' e=>by cases e) (fun r' e=>by injection e with e; subst e; exact h1.symm)
  · rintro hp ⟨x,h1,rfl⟩
    rw [List.length_map,List.drop_length] at h1
    simp only [itU,Option.some.injEq] at h1
    exact hdone x h1.symm
  · rintro hp ⟨y,h1,rfl⟩
    exact hstop y h1
end
def AV.isDat : AV → Bool
  | .raw _=>true
  | .sl _ _=>true
  | _=>false
theorem VRel.toDat {w : World} {x : Cx} {hp : Hp} {u : AV} {v : Value} (hu : u.isDat = true) (h : VRel w x hp u v) : Dat w x.ok u v:=by
  cases h with
  | dat h=>exact h
  | _=>cases hu
theorem Sub.freezeP {s : St} {k b : Nat} {t : TypeId} {cs : List AV} (hk : look s.tm k = some (.ref b 0)) (hb : look s.hp b = some (.box t cs)) (hd : (cs.all AV.isDat) = true) :
    Sub s { s with tm:=Cb k (.dat cs.length [cs] 0 0) s.tm,hp:=delA b s.hp }:=fun B a w ⟨x,hC⟩=>by
  obtain ⟨bb,vs,h1,h2,h3,h4,h5⟩:=hC.h.obj b _ hb
  have st:=Stp.del hC.h hb
  have hp : VRel w (x.free b) (delA b s.hp) (.dat cs.length [cs] 0 0) (a.tmps.getD k undef):=by
    have hv:=hC.t k _ hk
    generalize a.tmps.getD k undef = v at hv
    cases hv with
    | dat h=>cases h
    | ref id off p hid h=>
      obtain ⟨b',e1,rfl⟩:=h ⟨t,cs,hb⟩
      rw [h1] at e1
      injection e1 with e1
      subst e1
      refine .datp [cs] 0 0 cs.length ⟨bb,0,none⟩ (fun j=>vs.getD j undef) (.inr h1) (fun cs' h=>by simp at h; rw [← h]) (fun j hj=>?_) (fun cs' j u h hj=>?_)
      · rw [Nat.zero_add,av_lit_add,Nat.zero_add]
        have e:=cell_getD (o:=0) (j:=j) h2 (by omega)
        rw [av_lit_add] at e
        exact ⟨by simpa using e,h4 _ (by omega)⟩
      · simp only [List.getElem?_cons_zero,Option.some.injEq] at h
        subst h
        exact ((h5 j u hj).toDat (all_at hd hj)).mono (fun b hb=>.inl hb) (fun _ _=>rfl)
  refine ⟨_,st.h,fun t u ht=>?_,hC.n,hC.d.step hC.h st.tr,hC.tr.trans st.tr,hC.mo.trans st.mo,hC.lo,hC.ln,hC.dom⟩
  rw [look_setA] at ht
  split at ht
  · rename_i e1
    subst e1
    injection ht with ht
    subst ht
    exact hp
  · exact (hC.t t u ht).mono st.mo
def GrowI (I : World → (Nat → Prop) → Prop) : Prop:=∀ A A' own,I A own → Grows A A' → I A' own
def IR (I : World → (Nat → Prop) → Prop) (s : St) (a : Act) (W : World) : Prop:=
  ∃ (own : Nat → Prop) (x : Cx),I W own ∧ (∀ b,own b → b < W.heap.size) ∧ Core ⟨W,x,[],some none⟩ (· < s.nx) ⟨s.tm,[],s.nx,s.nt,s.nx⟩ a W x ∧ ∀ b,x.ok b → ¬ own b
def YV (P : Program) (c : Code) (Q : Exit → St → (World → (Nat → Prop) → Prop) → Prop) (s : St) (I : World → (Nat → Prop) → Prop) : Prop:=
  ∀ a W,IR I s a W → c.wpIn Fence.wide 0 P (fun e a' W'=>∃ s' I',Q e s' I' ∧ IR I' s' a' W') a W
def thnY (next : St → (World → (Nat → Prop) → Prop) → Prop) (Q : Exit → St → (World → (Nat → Prop) → Prop) → Prop) : Exit → St → (World → (Nat → Prop) → Prop) → Prop
  | .normal,s,I=>next s I
  | e,s,I=>Q e s I
def inBkY (id : Nat) (Q : Exit → St → (World → (Nat → Prop) → Prop) → Prop) : Exit → St → (World → (Nat → Prop) → Prop) → Prop
  | .exit i,s,I=>if i = id then Q .normal s I else Q (.exit i) s I
  | e,s,I=>Q e s I
section
variable {P : Program} {T : Nat → TI} {Q : Exit → St → (World → (Nat → Prop) → Prop) → Prop} {s : St} {I : World → (Nat → Prop) → Prop}
theorem YV.skip (h : Q .normal s I) : YV P .skip Q s I:=fun a w hs=>wpIn_skip ⟨s,I,h,hs⟩
theorem YV.exit {id : Nat} (h : Q (.exit id) s I) : YV P (.exit id) Q s I:=fun a w hs=>wpIn_exit ⟨s,I,h,hs⟩
theorem YV.ret (h : Q .ret s I) : YV P .ret Q s I:=fun a w hs=>wpIn_ret ⟨s,I,h,hs⟩
theorem YV.mono {c : Code} {Q' : Exit → St → (World → (Nat → Prop) → Prop) → Prop} (h : YV P c Q s I) (hq : ∀ e s I,Q e s I → Q' e s I) : YV P c Q' s I:=
  fun a w hs=>wpIn_mono (h a w hs) fun e a' w' ⟨s',I',h1,h2⟩=>⟨s',I',hq _ _ _ h1,h2⟩
theorem YV.seq {x y : Code} (h : YV P x (thnY (fun s I=>YV P y Q s I) Q) s I) : YV P (.seq x y) Q s I:=fun a w hs=>by
  refine wpIn_seq (wpIn_mono (h a w hs) ?_)
  rintro e a' w' ⟨s',I',h1,h2⟩
  cases e <;> first | exact h1 a' w' h2 | exact ⟨s',I',h1,h2⟩
theorem YV.block {id : Nat} {c : Code} (h : YV P c (inBkY id Q) s I) : YV P (.block id c) Q s I:=fun a w hs=>by
  refine wpIn_block (wpIn_mono (h a w hs) ?_)
  rintro e a' w' ⟨s',I',h1,h2⟩
  cases e with
  | exit i=>
    simp only [inBkY] at h1
    simp only [Exit.inBlock]
    split
    · rename_i e
      rw [if_pos e] at h1
      exact ⟨s',I',h1,h2⟩
    · rename_i e
      rw [if_neg e] at h1
      exact ⟨s',I',h1,h2⟩
  | _=>exact ⟨s',I',h1,h2⟩
theorem YV.cond {c : Operand} {x y : Code} {t : Nat} {b : Bool} (hc : c = .tmp t) (hl : look s.tm t = some (.raw (.bool b))) (ht : b = true → YV P x Q s I) (hf : b = false → YV P y Q s I) : YV P (.cond c x y) Q s I:=fun a w hs=>by
  obtain ⟨own,x0,h1,h2,hC,h3⟩:=hs
  have:=(hC.t t _ hl).rawEq
  subst hc
  exact wpIn_cond_split (t:=b) this (fun h=>ht h a w ⟨own,x0,h1,h2,hC,h3⟩) (fun h=>hf h a w ⟨own,x0,h1,h2,hC,h3⟩)
theorem YV.loop {c : Code} {X : Type} (S : X → St) (IX : X → World → (Nat → Prop) → Prop) (ok : X → Prop) (μ : X → Nat) (x0 : X) (h0 : ok x0) (hs0 : s = S x0) (hI0 : I = IX x0)
    (round : ∀ x,ok x → YV P c (thnY (fun s' I'=>∃ x',ok x' ∧ μ x' < μ x ∧ s' = S x' ∧ I' = IX x') Q) (S x) (IX x)) : YV P (.loop c) Q s I:=fun a w hs=>by
  let J : Nat → Act → World → Prop:=fun n a w=>∃ x,ok x ∧ μ x = n ∧ IR (IX x) (S x) a w
  have least : ∀ a w,(∃ n,J n a w) → ∃ n,J n a w ∧ ∀ m,J m a w → n ≤ m:=by
    intro a w ⟨n,hn⟩
    induction n using Nat.strongRecOn with
    | _ n ih=>
      by_cases h : ∃ m,m < n ∧ J m a w
      · obtain ⟨m,h1,h2⟩:=h
        exact ih m h1 h2
      · exact ⟨n,hn,fun m hm=>Nat.le_of_not_lt fun hlt=>h ⟨m,hlt,hm⟩⟩
  open Classical in
  refine wpIn_loop (fun a w=>∃ n,J n a w) (fun a w=>if h : ∃ n,J n a w then Classical.choose (least a w h) else 0) ?_ ?_
  · exact ⟨_,x0,h0,rfl,by rw [← hs0,← hI0]; exact hs⟩
  · intro a w hJ
    obtain ⟨h1,h2⟩:=Classical.choose_spec (least a w hJ)
    obtain ⟨x,hx1,hx2,hx3⟩:=h1
    refine wpIn_mono (round x hx1 a w hx3) ?_
    rintro e a' w' ⟨s',I',h3,h4⟩
    cases e with
    | normal=>
      obtain ⟨x',h5,h6,rfl,rfl⟩:=h3
      have hJ' : J (μ x') a' w':=⟨x',h5,rfl,h4⟩
      refine ⟨⟨_,hJ'⟩,?_⟩
      show (if h : ∃ n,J n a' w' then Classical.choose (least a' w' h) else 0) < (if h : ∃ n,J n a w then Classical.choose (least a w h) else 0)
      rw [dif_pos ⟨_,hJ'⟩,dif_pos hJ]
      have h8:=(Classical.choose_spec (least a' w' ⟨_,hJ'⟩)).2 _ hJ'
      omega
    | _=>exact ⟨s',I',h3,h4⟩
theorem IR.next {own : Nat → Prop} {W W' : World} {x : Cx} {s'' : St} {a' : Act} (hg : GrowI I) (hI : I W own) (hb : ∀ b,own b → b < W.heap.size) (ho : ∀ b,x.ok b → ¬ own b) (hp : s''.hp = []) (h : SRel ⟨W,x,[],some none⟩ s'' a' W') : IR I s'' a' W':=by
  obtain ⟨x',hC'⟩:=h
  have t : Tr W x [] W' x' s''.hp:=hC'.tr
  obtain ⟨Ds,e1,e2,e3,e4⟩:=hC'.d
  have hd : a'.defers = []:=by rw [e1,e4 (by simp)]; rfl
  refine ⟨own,x',hg _ _ _ hI (Grows.of_tr t),fun b h=>Nat.lt_of_lt_of_le (hb b h) t.size,?_,fun b h=>?_⟩
  · have h1:=hC'.h
    have h2:=hC'.t
    rw [hp] at h1 h2
    exact ⟨h1,h2,hC'.n,by rw [hd]; exact Mk.nil _ _ _,Tr.refl _ _ _,Mo.refl _ _ _,hC'.dom,Nat.le_refl _,hC'.dom⟩
  · rcases t.okx b h with e | e | ⟨id,o,h1,_⟩
    · exact ho b e
    · exact fun h=>by have:=hb b h; omega
    · simp [look] at h1
theorem YV.seg {c : Code} (hg : GrowI I) (h : ∀ B,VC P B c (fun e s'=>∃ s'',Sub s' s'' ∧ s''.hp = [] ∧ Q e s'' I) ⟨s.tm,[],s.nx,s.nt,s.nx⟩) : YV P c Q s I:=fun a W ⟨own,x,hI,hb,hC,ho⟩=>by
  refine wpIn_mono (h ⟨W,x,[],some none⟩ a W ⟨x,hC⟩) ?_
  rintro e a' W' ⟨s',⟨s'',hsub,hp,hq⟩,hr⟩
  exact ⟨s'',I,hq,IR.next hg hI hb ho hp (hsub _ _ _ hr)⟩
def runPre (E : EvT) (P : Program) (T : Nat → TI) (dsts : List (Option Nat)) : List Oper → Nat → St → (St → Prop) → Prop
  | [],i,s,K=>K s
  | o :: r,i,s,K=>wpQ P (s.nx + i) s (E T (s.nx + i) dsts o) fun v wr=>runPre E P T dsts r (i + 1) ((s.wr wr).put o.dst v) K
theorem runPre_s {E : EvT} (hE : EvOk P T E) {B : Base} {ops : Array Oper} {Qx : Exit → Act → World → Prop} {nx nt q : Nat} {K : St → Prop} {rest : List Nat} (hd : (ops.all fun o=>match o.dst with | some k=>decide (k < nt) | none=>true) = true) {n : Nat}
    (hQ : ∀ s' a' w' x',K s' → s'.nx = nx → s'.nt = nt → Core B (· < nx + n) s' a' w' x' → wpOpsIn (wR B.rd) 0 P ops Qx rest a' w') :
    ∀ (l : List Oper) (i : Nat) (s' : St) (a : Act) (w : World) (x : Cx),i + l.length = n → (∀ j,(hj : j < l.length) → ops[q + i + j]? = some l[j]) → s'.nt = nt → s'.nx = nx → Core B (· < nx + i) s' a w x → runPre E P T (dstsOf ops) l i s' K → wpOpsIn (wR B.rd) 0 P ops Qx (List.range' (q + i) l.length ++ rest) a w
  | [],i,s',a,w,x,hn,_,hnt,hnx,hC,h=>by
    have : i = n:=by simpa using hn
    subst this
    exact hQ s' a w x h hnx hnt hC
  | o :: l,i,s',a,w,x,hn,hl,hnt,hnx,hC,h=>by
    have hi : ops[q + i]? = some o:=hl 0 (by simp)
    rw [List.length_cons,List.range'_succ,List.cons_append,wpOpsIn_cons]
    have hdst : ∀ k,o.dst = some k → k < s'.nt:=fun k hk=>by
      have h1:=(Array.all_eq_true_iff_forall_mem.1 hd) o (Array.mem_of_getElem? hi)
      rw [hk] at h1
      rw [hnt]
      simpa using h1
    unfold runPre at h
    rw [hnx] at h
    refine hE hC (nid:=nx + i) (by omega) hi hdst h ?_
    intro v wr a' w' x' hk hC'
    refine runPre_s hE hd hQ l (i + 1) _ a' w' x' ?_ ?_ ?_ ?_ ?_ hk
    · simp only [List.length_cons] at hn
      omega
    · intro j hj
      have:=hl (j + 1) (by simpa using hj)
      rw [show q + (i + 1) + j = q + i + (j + 1) by omega,this]
      rfl
    · rw [← hnt]
      cases o.dst <;> rfl
    · rw [← hnx]
      cases o.dst <;> rfl
    · refine ⟨hC'.h,hC'.t,hC'.n,hC'.d,hC'.tr,hC'.mo,hC'.lo,hC'.ln,fun id g hdm=>?_⟩
      rcases hC'.dom id g hdm with h1 | h1
      · have : id < nx + i:=h1
        omega
      · omega
def argOk (tm : List (Nat × AV)) : List Operand → List AV → Prop
  | [],[]=>True
  | .tmp t :: os,.raw v :: us=>look tm t = some (.raw v) ∧ argOk tm os us
  | _ :: os,.dead :: us=>argOk tm os us
  | _,_=>False
theorem argOk_rel {tm : List (Nat × AV)} {a : Act} (ht : ∀ t v,look tm t = some (.raw v) → a.tmps.getD t undef = v) : ∀ (os : List Operand) (us : List AV),argOk tm os us → os.length = us.length ∧ ∀ (i : Nat) (u0 : AV),us[i]? = some u0 → ∀ (w : World) (x' : Cx) (hp' : Hp),VRel w x' hp' u0 ((os.map a.eval).getD i undef)
  | [],[],_=>⟨rfl,fun i u h=>by simp at h⟩
  | o :: os,.raw v :: us,h=>by
    cases o with
    | tmp t=>
      obtain ⟨h1,h2⟩:=h
      obtain ⟨h3,h4⟩:=argOk_rel ht os us h2
      refine ⟨by simp [h3],fun i u0 hu w x' hp'=>?_⟩
      cases i with
      | zero=>
        simp only [List.getElem?_cons_zero,Option.some.injEq] at hu
        subst hu
        have : (((Operand.tmp t :: os).map a.eval).getD 0 undef) = v:=ht t v h1
        rw [this]
        exact .raw v
      | succ i=>exact h4 i u0 (by simpa using hu) w x' hp'
    | _=>exact h.elim
  | o :: os,.dead :: us,h=>by
    have h2 : argOk tm os us:=by
      cases o <;> exact h
    obtain ⟨h3,h4⟩:=argOk_rel ht os us h2
    refine ⟨by simp [h3],fun i u0 hu w x' hp'=>?_⟩
    cases i with
    | zero=>
      simp only [List.getElem?_cons_zero,Option.some.injEq] at hu
      subst hu
      exact .dead _
    | succ i=>exact h4 i u0 (by simpa using hu) w x' hp'
  | [],_ :: _,h=>h.elim
  | _ :: _,[],h=>by
    rename_i o os
    cases o <;> exact h.elim
  | o :: os,.agg _ :: us,h=>by cases o <;> exact h.elim
  | o :: os,.tup _ :: us,h=>by cases o <;> exact h.elim
  | o :: os,.ref _ _ :: us,h=>by cases o <;> exact h.elim
  | o :: os,.elt _ _ _ _ _ :: us,h=>by cases o <;> exact h.elim
  | o :: os,.dat _ _ _ _ :: us,h=>by cases o <;> exact h.elim
  | o :: os,.sl _ _ :: us,h=>by cases o <;> exact h.elim
  | o :: os,.row _ _ _ _ _ :: us,h=>by cases o <;> exact h.elim
  | o :: os,.bsl _ _ _ :: us,h=>by cases o <;> exact h.elim
  | o :: os,.rsl _ _ _ _ _ _ :: us,h=>by cases o <;> exact h.elim
  | o :: os,.fn _ _ _ :: us,h=>by cases o <;> exact h.elim
  | o :: os,.mp _ :: us,h=>by cases o <;> exact h.elim
  | o :: os,.ifb _ _ :: us,h=>by cases o <;> exact h.elim
def gdOk (tm : List (Nat × AV)) (ds : List (Option Nat)) : Option (Nat × Bool) → Prop
  | none=>True
  | some (j,want)=>∃ d,ds.getD j none = some d ∧ look tm d = some (.raw (.bool want))
def YieldOk (P : Program) (l : Nat) (J : Nat → World → (Nat → Prop) → Prop) (Jx : World → Prop) (us : List (List AV)) : Prop:=
  ∀ k (u : List AV) (vals : Array Value) W own,J k W own → us[k]? = some u → vals.size = u.length →
    (∀ (i : Nat) (u0 : AV),u[i]? = some u0 → ∀ (x' : Cx) (hp' : Hp),VRel W x' hp' u0 (vals.getD i undef)) →
    YieldAt Fence.wide 0 P l vals W fun e W'=>∃ c : Bool,e = .returned (.bool c) ∧ (∀ b,b < W.heap.size → ¬ own b → W'.heap[b]? = W.heap[b]?) ∧ W.heap.size ≤ W'.heap.size ∧
      (c = true → ∃ own',J (k + 1) W' own' ∧ ∀ b,own' b → own b ∨ W.heap.size ≤ b) ∧ (c = false → Jx W')
theorem YV.yield {E : EvT} (hE : EvOk P T E) {id l k g : Nat} {pre post : List Oper} {o : Oper} {c : Call} {J : Nat → World → (Nat → Prop) → Prop} {Jx : World → Prop} {us : List (List AV)} {u : List AV}
    (hJ : ∀ k,GrowI (J k)) (hJx : ∀ A A',Jx A → Grows A A' → Jx A') (hJb : ∀ k W own,J k W own → ∀ b,own b → b < W.heap.size) (hY : YieldOk P l J Jx us) (hu : us[k]? = some u)
    (ho : o.op = .call c) (hcal : c.callee = .value (.tmp g)) (hd : dstOk (pre ++ o :: post).toArray s.nt = true) {ds : List (Option Nat)} (hds : (pre ++ o :: post).map (·.dst) = ds)
    (h : runPre E P T ds pre 0 ⟨s.tm,[],s.nx,s.nt,s.nx⟩ fun s1=>s1.hp = [] ∧ look s1.tm g = some (.fn (.yield l) [] []) ∧ argOk s1.tm c.args.toList u ∧ gdOk s1.tm ds o.guard ∧
      ∀ b : Bool,runPre E P T ds post 0 (({ s1 with nx:=s.nx + pre.length,lo:=s.nx + pre.length } : St).put o.dst (.raw (.bool b))) fun s4=>∃ s5,Sub { s4 with nx:=s4.nx + post.length } s5 ∧ s5.hp = [] ∧ Q .normal s5 (bif b then J (k + 1) else fun W _=>Jx W)) :
    YV P (.region id (pre ++ o :: post).toArray false) Q s (J k):=fun a W ⟨own,x,hI,hb,hC,hok⟩=>by
  subst hds
  obtain ⟨ops,hops⟩ : ∃ ops,ops = (pre ++ o :: post).toArray:=⟨_,rfl⟩
  rw [← hops]
  refine wpIn_region ?_
  have hsz : ops.size = pre.length + (post.length + 1):=by rw [hops]; simp
  have hdsE : (pre ++ o :: post).map (·.dst) = dstsOf ops:=by rw [hops]; rfl
  rw [hdsE] at h
  have hd' : (ops.all fun o=>match o.dst with | some k=>decide (k < s.nt) | none=>true) = true:=by rw [hops,← Array.all_toList]; exact hd
  have hrng : List.range ops.size = List.range' (0 + 0) pre.length ++ pre.length :: List.range' (pre.length + 1) post.length:=by
    rw [hsz,List.range_eq_range',← List.range'_append_1,Nat.zero_add,List.range'_succ]
  rw [hrng]
  refine runPre_s (B:=⟨W,x,[],some none⟩) (nt:=s.nt) (nx:=s.nx) (q:=0) (n:=pre.length) hE hd' ?_ pre 0 ⟨s.tm,[],s.nx,s.nt,s.nx⟩ a W x (by simp) (fun j hj=>?_) rfl rfl (by simpa using hC) h
  · rintro s1 a1 W1 x1 ⟨h1,h2,h3,h4,h5⟩ hnx hnt hC1
    have t1 : Tr W x [] W1 x1 s1.hp:=hC1.tr
    have hJ1:=hJ k _ _ _ hI (Grows.of_tr t1)
    have hok1 : ∀ b,x1.ok b → ¬ own b:=fun b h=>by
      rcases t1.okx b h with e | e | ⟨id,o,h1,_⟩
      · exact hok b e
      · exact fun h=>by have:=hb b h; omega
      · simp [look] at h1
    have hi : ops[pre.length]? = some o:=by rw [hops]; simp
    rw [wpOpsIn_cons]
    unfold wpOpIn
    rw [hi]
    have hw : Region.wanted o (yielded ops a1.tmps) = true:=by
      cases hgd : o.guard with
      | none=>simp [Region.wanted,hgd]
      | some q=>
        obtain ⟨j,want⟩:=q
        rw [hgd] at h4
        obtain ⟨d,e1,e2⟩:=h4
        have:=yielded_of hC1 (dsts_at e1) (hC1.t d _ e2).rawEq
        simp [Region.wanted,hgd,this]
    simp only [hw,if_true]
    obtain ⟨r1,r2⟩:=argOk_rel (a:=a1) (fun t v ht=>(hC1.t t _ ht).rawEq) _ _ h3
    obtain ⟨fn,tmps,assign,body,hy,hR⟩:=hY k u (c.args.map a1.eval) W1 own hJ1 hu (by simpa using r1) (fun i u0 hu0 x' hp'=>by
      have:=r2 i u0 hu0 W1 x' hp'
      simpa [List.getD_eq_getElem?_getD,Array.getD_eq_getD_getElem?] using this)
    have hfn : a1.eval (.tmp g) = .func (.yield l) #[] #[]:=by
      have hv:=hC1.t g _ h2
      show a1.tmps.getD g undef = _
      generalize a1.tmps.getD g undef = v at hv
      cases hv with
      | dat h=>cases h
      | fn f first caps fs cs hl hl' h h'=>rw [show fs = #[] from Array.eq_empty_of_size_eq_zero hl,show cs = #[] from Array.eq_empty_of_size_eq_zero hl']
    refine ⟨fun _ _=>trivial,?_⟩
    have hrun : (Oper.semAt (wR (some none)).round a1.eval o).run P W1 = .ok (.round l fn tmps assign body) W1:=by
      show (execOp a1.eval o).run P W1 = _
      rw [← hy]
      simp [execOp,ho,resolve,hcal,hfn,invoke,Deferred.ofValue]
    rw [hrun]
    refine ⟨fun hd=>by simp [wR,Fence.wide] at hd,hR.mono ?_⟩
    rintro e W2 ⟨b,rfl,k1,k2,k3,k4⟩
    have hm : Mo W1 x1 s1.hp W2 x1 s1.hp:=⟨fun _ h=>h,fun _ _ h=>h,fun q hq=>k1 q (hC1.h.okb q hq) (hok1 q hq),fun _ _ h=>⟨h,rfl⟩,fun _ _ _ _ h=>⟨h,rfl,rfl⟩,fun _ _ h=>⟨h,rfl⟩⟩
    obtain ⟨own2,q1,q2,q3⟩ : ∃ own2,(bif b then J (k + 1) else fun W _=>Jx W) W2 own2 ∧ (∀ q,own2 q → q < W2.heap.size) ∧ ∀ q,x1.ok q → ¬ own2 q:=by
      cases b with
      | true=>
        obtain ⟨own',e1,e2⟩:=k3 rfl
        exact ⟨own',e1,hJb _ _ _ e1,fun q hq ho=>by
          rcases e2 q ho with e | e
          · exact hok1 q hq e
          · have:=hC1.h.okb q hq
            omega⟩
      | false=>exact ⟨fun _=>False,k4 rfl,fun _ h=>h.elim,fun _ _ h=>h⟩
    have hd1 : a1.defers = []:=by
      obtain ⟨Ds,e1,_,_,e4⟩:=hC1.d
      rw [e1,e4 (by simp)]
      rfl
    have hH2 : HRel W2 x1 s1.hp:=by
      rw [h1]
      exact ⟨fun q hq=>Nat.lt_of_lt_of_le (hC1.h.okb q hq) k2,fun id o hl=>by simp [look] at hl,fun id t sz g els g' hl=>by simp [look] at hl,fun id t sz g els hl=>by simp [look] at hl,fun id o b hl=>by simp [look] at hl,fun id id' o o' b hl=>by simp [look] at hl,fun id o hl=>by simp [look] at hl⟩
    have hC2 : Core ⟨W2,x1,s1.hp,some none⟩ (· < s.nx + pre.length) { s1 with nx:=s.nx + pre.length,lo:=s.nx + pre.length } a1 W2 x1:=
      ⟨hH2,fun t u0 ht=>(hC1.t t u0 ht).mono hm,hC1.n,by rw [hd1]; exact Mk.nil _ _ _,Tr.refl _ _ _,Mo.refl _ _ _,hC1.dom,Nat.le_refl _,hC1.dom⟩
    have hdst : ∀ k,o.dst = some k → k < s1.nt:=fun k hk=>by
      have h1:=(Array.all_eq_true_iff_forall_mem.1 hd') o (Array.mem_of_getElem? hi)
      rw [hk] at h1
      rw [hnt]
      simpa using h1
    have hN:=hC2.next (nid:=0) (wr:=[]) (v:=.raw (.bool b)) (val:=.bool b) (d:=o.dst) hdst (Stp.refl hC2.h) (.raw _) (fun _ _ h=>.inl h)
    have hC3 : Core ⟨W2,x1,s1.hp,some none⟩ (· < s.nx + pre.length) (({ s1 with nx:=s.nx + pre.length,lo:=s.nx + pre.length } : St).put o.dst (.raw (.bool b))) (a1.put o.dst (.bool b)) W2 x1:=
      ⟨hN.h,hN.t,hN.n,hN.d,hN.tr,hN.mo,hN.lo,hN.ln,hC2.dom⟩
    have hlast : wpOpsIn (wR (some none)) 0 P ops (fun e a' W'=>∃ s' I',Q e s' I' ∧ IR I' s' a' W') (List.range' (pre.length + 1 + 0) post.length ++ []) (a1.put o.dst (.bool b)) W2:=by
      refine runPre_s (B:=⟨W2,x1,s1.hp,some none⟩) (nt:=s.nt) (nx:=s.nx + pre.length) (q:=pre.length + 1) (n:=post.length) hE hd' ?_ post 0 _ (a1.put o.dst (.bool b)) W2 x1 (by simp) (fun j hj=>?_) (by rw [← hnt]; cases o.dst <;> rfl) (by cases o.dst <;> rfl) (by simpa using hC3) (h5 b)
      · rintro s4 a4 W4 x4 ⟨s5,e1,e2,e3⟩ hnx4 hnt4 hC4
        have hC5 : Core ⟨W2,x1,[],some none⟩ (· < s4.nx + post.length) { s4 with nx:=s4.nx + post.length } a4 W4 x4:=by
          rw [h1] at hC4
          exact ⟨hC4.h,hC4.t,hC4.n,hC4.d,hC4.tr,hC4.mo,hC4.lo,Nat.le_trans hC4.ln (Nat.le_add_right _ _),fun id g hd=>by have:=hC4.dom id g hd; rw [hnx4]; exact this⟩
        refine ⟨s5,_,e3,IR.next ?_ q1 q2 q3 e2 (e1 _ _ _ ⟨x4,hC5⟩)⟩
        cases b with
        | true=>exact hJ _
        | false=>exact fun A A' own h hg=>hJx A A' h hg
      · rw [hops,List.getElem?_toArray,List.getElem?_append_right (by omega),show pre.length + 1 + 0 + j - pre.length = j + 1 by omega]
        simp [hj]
    simpa using hlast
  · rw [hops]
    simp only [List.getElem?_toArray,Nat.zero_add]
    rw [List.getElem?_append_left hj]
    simp [hj]
theorem YV.yieldAt (n : Nat) {E : EvT} (hE : EvOk P T E) {id l k g : Nat} {ops : List Oper} {o : Oper} {c : Call} {J : Nat → World → (Nat → Prop) → Prop} {Jx : World → Prop} {us : List (List AV)} {u : List AV} (hn : ops[n]? = some o)
    (hJ : ∀ k,GrowI (J k)) (hJx : ∀ A A',Jx A → Grows A A' → Jx A') (hJb : ∀ k W own,J k W own → ∀ b,own b → b < W.heap.size) (hY : YieldOk P l J Jx us) (hu : us[k]? = some u)
    (ho : o.op = .call c) (hcal : c.callee = .value (.tmp g)) (hd : dstOk ops.toArray s.nt = true) {ds : List (Option Nat)} (hds : ops.map (·.dst) = ds)
    (h : ∀ K : Bool → St → Prop,(∀ b s',(∃ s5,Sub s' s5 ∧ s5.hp = [] ∧ Q .normal s5 (bif b then J (k + 1) else fun W _=>Jx W)) → K b s') → runPre E P T ds (ops.take n) 0 ⟨s.tm,[],s.nx,s.nt,s.nx⟩ fun s1=>s1.hp = [] ∧ look s1.tm g = some (.fn (.yield l) [] []) ∧ argOk s1.tm c.args.toList u ∧ gdOk s1.tm ds o.guard ∧
      ∀ b : Bool,runPre E P T ds (ops.drop (n + 1)) 0 (({ s1 with nx:=s.nx + (ops.take n).length,lo:=s.nx + (ops.take n).length } : St).put o.dst (.raw (.bool b))) fun s4=>K b { s4 with nx:=s4.nx + (ops.drop (n + 1)).length }) :
    YV P (.region id ops.toArray false) Q s (J k):=by
  have hlt : n < ops.length:=(List.getElem?_eq_some_iff.1 hn).1
  have hsp : ops = ops.take n ++ o :: ops.drop (n + 1):=by
    have h1 : ops.drop n = o :: ops.drop (n + 1):=by
      rw [List.drop_eq_getElem_cons hlt]
      congr 1
      exact (List.getElem?_eq_some_iff.1 hn).2
    rw [← h1,List.take_append_drop]
  have key:=YV.yield (id:=id) (pre:=ops.take n) (post:=ops.drop (n + 1)) (o:=o) (Q:=Q) (s:=s) (ds:=ds) hE hJ hJx hJb hY hu ho hcal (by rw [← hsp]; exact hd) (by rw [← hsp]; exact hds) (h (fun b s'=>∃ s5,Sub s' s5 ∧ s5.hp = [] ∧ Q .normal s5 (bif b then J (k + 1) else fun W _=>Jx W)) fun _ _ h=>h)
  rwa [← hsp] at key
theorem ItC.of {gf : FuncId} {fn : Func} {c : Code} (hf : P.funcs[gf]? = some fn) (hb : fn.body = some c) (nt : Nat) (hnt : fn.ntmps = nt) (hres : fn.results.toList = []) {caps : List AV} {us : List (List AV)} (hn : decide (caps.length + 1 ≤ nt) = true) (hin : (caps.all (AV.in3 (Hp.has []))) = true)
    (h : ∀ (l : Nat) (J : Nat → World → (Nat → Prop) → Prop) (Jx : World → Prop),(∀ k,GrowI (J k)) → (∀ A A',Jx A → Grows A A' → Jx A') → (∀ k W own,J k W own → ∀ b,own b → b < W.heap.size) → YieldOk P l J Jx us →
      YV P c (fun e _ I=>(e = .normal ∨ e = .ret) ∧ (I = J us.length ∨ I = fun W _=>Jx W)) ⟨(0,.fn (.yield l) [] []) :: enumA 1 caps,[],0,nt,0⟩ (J 0)) : ItC P gf caps us:=by
  subst hnt
  have hn:=of_decide_eq_true hn
  intro W0 x0 lb hH hsz hrel l J Jx hJ hJx hJo hY own h0
  have hres' : fn.results = #[]:=by
    apply Array.ext'
    rw [hres]
  refine callsIn_of_wp (F:=Fence.wide) (n:=0) hf hb trivial ?_
  have hS0 : SubH [] ([] : Hp):=fun id o h=>h
  have hx : HRel W0 (x0.only (Hp.has [])) []:=hH.sub hS0 (Hp.has []) fun id o h=>by simp [look] at h
  have hno : ∀ id g,¬ (x0.only (Hp.has [])).dom id g:=fun id g h=>by
    have:=h.2
    simp [Hp.has,look] at this
  have hIR : IR (J 0) ⟨(0,.fn (.yield l) [] []) :: enumA 1 caps,[],0,fn.ntmps,0⟩ { tmps:=(#[Value.func (.yield l) #[] #[]] ++ lb) ++ Array.replicate (fn.ntmps - (#[Value.func (.yield l) #[] #[]] ++ lb).size) undef,defers:=[] } W0:=by
    have hb0:=hJo 0 W0 own h0
    refine ⟨own,x0.only (Hp.has []),h0,hb0.1,⟨hx,fun t u ht=>?_,by simp; omega,Mk.nil _ _ _,Tr.refl _ _ _,Mo.refl _ _ _,fun id g h=>absurd h (hno id g),Nat.le_refl _,fun id g h=>absurd h (hno id g)⟩,hb0.2⟩
    simp only [look] at ht
    split at ht
    · rename_i e
      subst e
      injection ht with ht
      subst ht
      have e : ((#[Value.func (.yield l) #[] #[]] ++ lb) ++ Array.replicate (fn.ntmps - (#[Value.func (.yield l) #[] #[]] ++ lb).size) undef).getD 0 undef = .func (.yield l) #[] #[]:=by
        simp [Array.getD_eq_getD_getElem?,Array.getElem?_append]
      show VRel W0 _ [] _ (((#[Value.func (.yield l) #[] #[]] ++ lb) ++ Array.replicate (fn.ntmps - (#[Value.func (.yield l) #[] #[]] ++ lb).size) undef).getD 0 undef)
      rw [e]
      exact .fn _ [] [] #[] #[] rfl rfl (fun i u h=>by simp at h) (fun i u h=>by simp at h)
    · obtain ⟨h1,h2⟩:=look_enumA caps 1 t u ht
      have h4:=lt_of_get h2
      have e : ((#[Value.func (.yield l) #[] #[]] ++ lb) ++ Array.replicate (fn.ntmps - (#[Value.func (.yield l) #[] #[]] ++ lb).size) undef).getD t undef = lb.getD (t - 1) undef:=by
        simp only [Array.getD_eq_getD_getElem?]
        rw [Array.getElem?_append_left (by simp; omega),Array.getElem?_append_right (by simpa using h1)]
        simp
      show VRel W0 _ [] u (((#[Value.func (.yield l) #[] #[]] ++ lb) ++ Array.replicate (fn.ntmps - (#[Value.func (.yield l) #[] #[]] ++ lb).size) undef).getD t undef)
      rw [e]
      exact ((hrel (t - 1) u h2).in3_ (all_at hin h2)).mono (Mo.sub hS0)
  refine wpIn_mono (h l J Jx (fun k A A' own=>hJ k A A' own) hJx (fun k W own h=>(hJo k W own h).1) (fun k u vals W own a b c d=>hY k u vals W own a b c d) _ W0 hIR) ?_
  rintro e a' W' ⟨s',I',⟨he,hI⟩,own',x',q1,q2,hC',q3⟩
  have hd : a'.defers = []:=by
    obtain ⟨Ds,e1,_,_,e4⟩:=hC'.d
    rw [e1,e4 (by simp)]
    rfl
  have hfin : (∃ own',J us.length W' own') ∨ Jx W':=by
    rcases hI with rfl | rfl
    · exact .inl ⟨own',q1⟩
    · exact .inr q1
  have hr : ∃ v,(results fn a'.tmps).run P W' = .ok v W':=by
    refine ⟨.tuple #[],?_⟩
    rw [results_eq,hres']
    simp
  obtain ⟨v,hv⟩:=hr
  rcases he with rfl | rfl
  · exact ⟨hd,v,hv,⟨v,rfl⟩,hfin⟩
  · exact ⟨hd,v,hv,⟨v,rfl⟩,hfin⟩
end
structure AN (n : Nat) where
  l : List Int
  h : l.length = n
def AN.get {n : Nat} (a : AN n) (k : Nat) : Int:=a.l.getD k 0
def AN.set {n : Nat} (a : AN n) (k : Nat) (v : Int) : AN n:=⟨a.l.set k v,by simp [a.h]⟩
def AN.zero (n : Nat) : AN n:=⟨List.replicate n 0,by simp⟩
def Hf {n : Nat} (a : AN n) : List AV:=a.l.map fun x=>.raw (.int .i64 x)
theorem Is0 {n : Nat} (a : AN n) : (Hf a).length = n:=by simp [Hf,a.h]
theorem Iz0 {n : Nat} (a : AN n) {k : Nat} (hk : k < n) : (Hf a)[k]? = some (.raw (.int .i64 (a.get k))):=by
  have : k < a.l.length:=by rw [a.h]; exact hk
  simp [Hf,AN.get,this]
theorem Iy0 {n : Nat} (a : AN n) (k : Nat) (v : Int) : (Hf a).set k (.raw (.int .i64 v)) = Hf (a.set k v):=by
  simp [Hf,AN.set,List.map_set]
theorem Je0 {n : Nat} (a : AN n) : (Hf a).map AV.lo0 = Hf a:=by simp [Hf,AV.lo0]
theorem Ja0 {n : Nat} (a : AN n) (π : Nat → Nat) : (Hf a).map (AV.ren1 π) = Hf a:=by simp [Hf,AV.ren1,AV.ren0]
theorem Gh {n : Nat} (a : AN n) (d : Nat → Bool) : (Hf a).all (AV.in1 d) = true:=by simp [Hf,AV.in1,AV.in0]
theorem AN.un (n : Nat) (x : Int) : List.replicate (n + 1) x = x :: List.replicate n x:=Eq.trans rfl rfl
attribute [push_cast] Is0 Iz0 Iy0 Je0 Ja0 Gh
attribute [push_cast] putAll
theorem cast64_rem (x y : UInt64) : ((x % y).toNat : Int) = Int.tmod (x.toNat : Int) (y.toNat : Int):=by
  rw [UInt64.toNat_mod,Int.ofNat_tmod]
theorem cast64_quo (x y : UInt64) : ((x / y).toNat : Int) = IntKind.u64.wrap (Int.tdiv (x.toNat : Int) (y.toNat : Int)):=by
  have h1 : Int.tdiv (x.toNat : Int) (y.toNat : Int) = ((x.toNat / y.toNat : Nat) : Int):=(Int.ofNat_tdiv _ _).symm
  have h2:=x.toNat_lt
  have h3 : x.toNat / y.toNat ≤ x.toNat:=Nat.div_le_self _ _
  rw [h1,UInt64.toNat_div,IntKind.wrap_u64]
  have hq : x.toNat / y.toNat < 18446744073709551616:=by omega
  generalize x.toNat / y.toNat = q at hq
  omega
theorem cast64_sub (x y : UInt64) : ((x - y).toNat : Int) = IntKind.u64.wrap ((x.toNat : Int) - (y.toNat : Int)):=by
  have h1:=x.toNat_lt
  have h2:=y.toNat_lt
  rw [IntKind.wrap_u64,UInt64.toNat_sub]
  omega
theorem cast64_mul (x y : UInt64) : ((x * y).toNat : Int) = IntKind.u64.wrap ((x.toNat : Int) * (y.toNat : Int)):=by
  rw [IntKind.wrap_u64,UInt64.toNat_mul]
  simp
theorem cast_min32 (a b : UInt32) : ((min32 a b).toNat : Int) = if b.toNat < a.toNat then (b.toNat : Int) else (a.toNat : Int):=by
  rw [← min32_of]
  simp only [Int.ofNat_lt]
theorem cast_max32 (a b : UInt32) : ((max32 a b).toNat : Int) = if a.toNat < b.toNat then (b.toNat : Int) else (a.toNat : Int):=by
  rw [← max32_of]
  simp only [GT.gt,Int.ofNat_lt]
theorem cast_min64 (a b : UInt64) : ((min64 a b).toNat : Int) = if b.toNat < a.toNat then (b.toNat : Int) else (a.toNat : Int):=by
  rw [← min64_of]
  simp only [Int.ofNat_lt]
theorem cast_max64 (a b : UInt64) : ((max64 a b).toNat : Int) = if a.toNat < b.toNat then (b.toNat : Int) else (a.toNat : Int):=by
  rw [← max64_of]
  simp only [GT.gt,Int.ofNat_lt]
theorem cast32_64 (x : UInt64) : (x.toUInt32.toNat : Int) = IntKind.u32.wrap (x.toNat : Int):=by
  rw [IntKind.wrap_u32,UInt64.toNat_toUInt32]
  omega
theorem cast8_64 (x : UInt64) : (x.toUInt8.toNat : Int) = IntKind.u8.wrap (x.toNat : Int):=by
  rw [IntKind.wrap_u8,UInt64.toNat_toUInt8]
  omega
theorem cast8_32 (x : UInt32) : (x.toUInt8.toNat : Int) = IntKind.u8.wrap (x.toNat : Int):=by
  rw [IntKind.wrap_u8,UInt32.toNat_toUInt8]
  omega
attribute [push_cast] cast32_64 cast8_64 cast8_32
attribute [push_cast] cast64_rem cast64_quo cast64_sub cast64_mul cast_min32 cast_max32 cast_min64 cast_max64
end Go.Proofs.YtcffmheeofjifaaGreat
