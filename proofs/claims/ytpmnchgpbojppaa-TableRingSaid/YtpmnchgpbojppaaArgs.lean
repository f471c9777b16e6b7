/- The rows' arguments: data read as lists and tables; the row's frame. -/
import Derived.Test.YtpmnchgpbojppaaOwnLib
import Derived.ProofKit
import Derived.Deep.Slices
namespace Go.Proofs.Ytpmnchgpbojppaa
open Go Go.RowKit Go.Proofs.Try Go.WideShapes Go.ChangeShapes Go.Deep

set_option maxRecDepth 100000
section
variable {H : Type} {enc : TypeId × Value → H} {w : World} {base : Nat} {spare : Nat → Bool} {held : Bool}
theorem i64ok_of {n : Int} (h : (Lit.int .i64 n).wf = true) : i64ok n := by
  simp [Lit.wf, IntKind.min, IntKind.max, IntKind.bits, IntKind.signed] at h
  exact ⟨by omega, by omega⟩
theorem u32_of {n : Int} (h : (Lit.int .u32 n).wf = true) : ∃ m : Nat, n = (m : Int) ∧ m < 4294967296 := by
  simp [Lit.wf, IntKind.min, IntKind.max, IntKind.bits, IntKind.signed] at h
  exact ⟨n.toNat, by omega, by omega⟩
/-- A slice of whatever kind. -/
theorem Kd.of_trod {α : Type} (k : Kd α) {t e : TypeId} {fuel : Nat} {cs : List Value} {x : DataW H × List MemPlace} (ht : prog.underlying t = some (.slice e)) (hsz : prog.cellsOf e = k.sz) (hpos : 0 < k.sz)
    (hel : ∀ n cs' y, DataW.trod enc prog w base spare held n e cs' = some y → ∃ x, k.K w w.heap.size x cs') (h : DataW.trod enc prog w base spare held fuel t cs = some x) :
    ∃ A n c xs, cs = [.slice A n c] ∧ k.At w w.heap.size A n c xs := by
  rcases open_slice ht h with ⟨rfl, _⟩ | ⟨a, len, cap, m, n, D, Pl, rfl, hb, hl, hm, hmm, hx, hi⟩
  · exact ⟨none, 0, 0, [], rfl, Kd.At.nil _ _ _ _ _ (Nat.zero_le _)⟩
  · have hlm : len ≤ m := by rw [hmm]; split <;> omega
    obtain ⟨xs, hxl, hxs⟩ := choose_list (p := fun i v => ∃ cs', w.cells? base (a.add (i * prog.cellsOf e)) (prog.cellsOf e) = some cs' ∧ k.K w w.heap.size v cs') len (fun i hil => by
      obtain ⟨cs', hc, ht'⟩ := hi i (by omega)
      obtain ⟨x, hx⟩ := hel _ _ _ ht'
      exact ⟨x, cs', hc, hx⟩)
    refine ⟨some a, len, cap, xs, rfl, hxl, hl, hm, fun i v hv => ?_⟩
    obtain ⟨cs', hc, hk⟩ := hxs i v hv
    obtain ⟨_, hlen, hat⟩ := World.cells?_some hc
    have hcell : ∀ j u, cs'[j]? = some u → w.cell? (a.add (i * k.sz + j)) = some u := by
      intro j u hu
      have hj : j < prog.cellsOf e := by rw [← hlen]; exact (List.getElem?_eq_some_iff.1 hu).1
      have := hat j hj
      rw [hu, hsz, add_add] at this
      exact this
    have h0 : 0 < cs'.length := by rw [hlen, hsz]; exact hpos
    have := World.block_lt_of_cell? w _ (hcell 0 _ (List.getElem?_eq_getElem h0))
    rw [add_block] at this
    exact ⟨a, cs', rfl, this, hcell, hk⟩

theorem kW.of_trod {fuel : Nat} {cs : List Value} {x : DataW H × List MemPlace} (h : DataW.trod enc prog w base spare held fuel 36 cs = some x) : ∃ A n c xs, cs = [.slice A n c] ∧ kW.At w w.heap.size A n c xs := by
  refine Kd.of_trod kW underlying36 (by kernel_rfl) (by decide) (fun n cs' y hy => ?_) h
  obtain ⟨z, rfl, _, hw⟩ := DataW.trod_int underlying25 hy
  obtain ⟨m, rfl, hm⟩ := u32_of hw
  exact ⟨m, rfl, hm⟩

theorem kEnt.of_trod {fuel : Nat} {cs : List Value} {x : DataW H × List MemPlace} (h : DataW.trod enc prog w base spare held fuel 24 cs = some x) : ∃ A n c xs, cs = [.slice A n c] ∧ kEnt.At w w.heap.size A n c xs := by
  refine Kd.of_trod kEnt underlying24 (by kernel_rfl) (by decide) (fun n cs' y hy => ?_) h
  obtain ⟨xs, m, _, _, hl, hxl, hg⟩ := DataW.trod_struct underlying39 hy
  have h0 : DataW.trod enc prog w base spare held m 25 ((cs'.drop 0).take (prog.cellsOf 25)) = xs[0]? := hg 0 _ rfl
  have h1 : DataW.trod enc prog w base spare held m 36 ((cs'.drop 1).take (prog.cellsOf 36)) = xs[1]? := hg 1 _ rfl
  have e0 : prog.cellsOf 25 = 1 := by kernel_rfl
  have e1 : prog.cellsOf 36 = 1 := by kernel_rfl
  have e2 : prog.cellsOf 39 = 2 := by kernel_rfl
  rw [e2] at hl
  simp only [e0, e1] at h0 h1
  match cs', hl, xs, hxl with
  | [c0, c1], _, [y0, y1], _ =>
    simp at h0 h1
    obtain ⟨z, hz, _, hw⟩ := DataW.trod_int underlying25 h0
    obtain ⟨q, rfl, hq⟩ := u32_of hw
    obtain ⟨A, n, c, ws, hc, hat⟩ := kW.of_trod h1
    cases hz
    cases hc
    exact ⟨⟨q, ws⟩, A, n, c, rfl, hq, hat⟩

theorem kSch.of_trod {fuel : Nat} {cs : List Value} {x : DataW H × List MemPlace} (h : DataW.trod enc prog w base spare held fuel 23 cs = some x) : ∃ s : Sch, cs = s.cells ∧ s.Ok := by
  obtain ⟨xs, m, _, _, hl, hxl, hg⟩ := DataW.trod_struct underlying23 h
  have h0 : DataW.trod enc prog w base spare held m 3 ((cs.drop 0).take (prog.cellsOf 3)) = xs[0]? := hg 0 _ rfl
  have h1 : DataW.trod enc prog w base spare held m 3 ((cs.drop 1).take (prog.cellsOf 3)) = xs[1]? := hg 1 _ rfl
  have h2 : DataW.trod enc prog w base spare held m 3 ((cs.drop 2).take (prog.cellsOf 3)) = xs[2]? := hg 2 _ rfl
  have h3 : DataW.trod enc prog w base spare held m 3 ((cs.drop 3).take (prog.cellsOf 3)) = xs[3]? := hg 3 _ rfl
  have e0 : prog.cellsOf 3 = 1 := by kernel_rfl
  have e2 : prog.cellsOf 23 = 4 := by kernel_rfl
  rw [e2] at hl
  simp only [e0] at h0 h1 h2 h3
  match cs, hl, xs, hxl with
  | [c0, c1, c2, c3], _, [y0, y1, y2, y3], _ =>
    simp at h0 h1 h2 h3
    obtain ⟨z0, a0, _, w0⟩ := DataW.trod_int underlying3 h0
    obtain ⟨z1, a1, _, w1⟩ := DataW.trod_int underlying3 h1
    obtain ⟨z2, a2, _, w2⟩ := DataW.trod_int underlying3 h2
    obtain ⟨z3, a3, _, w3⟩ := DataW.trod_int underlying3 h3
    cases a0
    cases a1
    cases a2
    cases a3
    exact ⟨⟨z0, z1, z2, z3⟩, rfl, i64ok_of w0, i64ok_of w1, i64ok_of w2, i64ok_of w3⟩

theorem kTab.of_trod {fuel : Nat} {cs : List Value} {x : DataW H × List MemPlace} (h : DataW.trod enc prog w base spare held fuel 27 cs = some x) : ∃ t : Tab, kTab.K w w.heap.size t cs := by
  obtain ⟨xs, m, _, _, hl, hxl, hg⟩ := DataW.trod_struct underlying27 h
  have h0 : DataW.trod enc prog w base spare held m 23 ((cs.drop 0).take (prog.cellsOf 23)) = xs[0]? := hg 0 _ rfl
  have h1 : DataW.trod enc prog w base spare held m 24 ((cs.drop 4).take (prog.cellsOf 24)) = xs[1]? := hg 1 _ rfl
  have h2 : DataW.trod enc prog w base spare held m 25 ((cs.drop 5).take (prog.cellsOf 25)) = xs[2]? := hg 2 _ rfl
  have e0 : prog.cellsOf 23 = 4 := by kernel_rfl
  have e1 : prog.cellsOf 24 = 1 := by kernel_rfl
  have e3 : prog.cellsOf 25 = 1 := by kernel_rfl
  have e2 : prog.cellsOf 27 = 6 := by kernel_rfl
  rw [e2] at hl
  simp only [e0, e1, e3] at h0 h1 h2
  match cs, hl, xs, hxl with
  | [c0, c1, c2, c3, c4, c5], _, [y0, y1, y2], _ =>
    simp at h0 h1 h2
    obtain ⟨s, hs, hok⟩ := kSch.of_trod h0
    obtain ⟨A, n, c, es, he, hat⟩ := kEnt.of_trod h1
    obtain ⟨z, hz, _, hw⟩ := DataW.trod_int underlying25 h2
    obtain ⟨q, rfl, hq⟩ := u32_of hw
    cases hs
    cases he
    cases hz
    exact ⟨⟨s, es, q⟩, A, n, c, rfl, hok, hq, hat⟩

/-- A table by value. -/
theorem open_tab {v : Value} {d : DataW H} {p : List MemPlace} {r : Reach} {b0 : Nat} (hv : Value.okWide prog w r b0 27 v) (h : DataW.Trod enc prog w base spare held 27 v d p) :
    ∃ (s : Sch) (A : Option Addr) (n c nx : Nat) (es : List Ent), v = tabV s A n c nx ∧ s.Ok ∧ nx < 4294967296 ∧ kEnt.At w w.heap.size A n c es := by
  obtain ⟨cs, rfl, hsz⟩ := okWide_struct underlying27 hv
  obtain ⟨fuel, hf⟩ := h
  obtain ⟨t, A, n, c, hc, hok, hn, hat⟩ := kTab.of_trod hf
  refine ⟨t.s, A, n, c, t.next, t.e, ?_, hok, hn, hat⟩
  obtain ⟨l⟩ := cs
  simp only [Value.cells] at hc
  subst hc
  rfl
theorem open_u32 {v : Value} {d : DataW H} {p : List MemPlace} {r : Reach} {b0 : Nat} (hv : Value.okWide prog w r b0 25 v) (h : DataW.Trod enc prog w base spare held 25 v d p) : ∃ x : Nat, v = .int .u32 (x : Int) ∧ x < 4294967296 := by
  obtain ⟨z, rfl, _, _, hw⟩ := open_int underlying25 hv h
  obtain ⟨q, rfl, hq⟩ := u32_of hw
  exact ⟨q, rfl, hq⟩

theorem trodAll_cons {P : Program} {t : TypeId} {ts : List TypeId} {l : List Value} {ds : List (DataW H)} {ps : List MemPlace} (h : DataW.TrodAll enc P w base spare held (t :: ts) l ds ps) :
    ∃ v vs d ds' p q, l = v :: vs ∧ ds = d :: ds' ∧ ps = p ++ q ∧ DataW.Trod enc P w base spare held t v d p ∧ DataW.TrodAll enc P w base spare held ts vs ds' q := by
  cases l with
  | nil => exact h.elim
  | cons v vs =>
    cases ds with
    | nil => exact h.elim
    | cons d ds =>
      obtain ⟨p, q, h1, h2, rfl⟩ := h
      exact ⟨v, vs, d, ds, p, q, rfl, rfl, rfl, h1, h2⟩
theorem trodAll_nil {P : Program} {l : List Value} {ds : List (DataW H)} {ps : List MemPlace} (h : DataW.TrodAll enc P w base spare held [] l ds ps) : l = [] ∧ ds = [] ∧ ps = [] := by
  cases l with
  | nil =>
    cases ds with
    | nil => exact ⟨rfl, rfl, h⟩
    | cons d ds => exact h.elim
  | cons v vs => exact h.elim

theorem trodAll_stays {P : Program} (hl : laidOutB P = true) {W W' : World} {sp : Nat → Bool} (ts : List TypeId) : ∀ {vs : List Value} {ds : List (DataW H)} {ps : List MemPlace}, (∀ t ∈ ts, P.readableRec t = true ∧ t < P.types.size) →
    DataW.TrodAll enc P W 0 (fun _ => true) true ts vs ds ps → (∀ p ∈ ps, W.sameAt W' p) → (∀ p ∈ ps, sp p.block = true) → DataW.TrodAll enc P W' 0 sp true ts vs ds ps := by
  induction ts with
  | nil =>
    intro vs ds ps _ h _ _
    obtain ⟨rfl, rfl, rfl⟩ := trodAll_nil h
    exact rfl
  | cons t ts ih =>
    intro vs ds ps ha h hsame hs
    obtain ⟨v, vs, d, ds', p, q, rfl, rfl, rfl, h1, h2⟩ := trodAll_cons h
    have ht := ha t (List.mem_cons_self ..)
    exact ⟨p, q, WideElems.Trod_stays hl ht.1 ht.2 h1 (fun x hx => hsame x (List.mem_append_left _ hx)) (fun x hx => hs x (List.mem_append_left _ hx)),
      ih (fun u hu => ha u (List.mem_cons_of_mem _ hu)) h2 (fun x hx => hsame x (List.mem_append_right _ hx)) (fun x hx => hs x (List.mem_append_right _ hx)), rfl⟩
theorem all_fine {P : Program} {ts : List TypeId} (h : (ts.all fun t => P.readableRec t && decide (t < P.types.size)) = true) : ∀ t ∈ ts, P.readableRec t = true ∧ t < P.types.size := by
  intro t ht
  have := List.all_eq_true.1 h t ht
  simp only [Bool.and_eq_true, decide_eq_true_eq] at this
  exact this

/-- The row's last step: the law is true, and nothing that was there has changed. -/
theorem post_law {f : Func} {s : ChangeSpec} {apart fresh handsOn again : Bool} {W W' : World} {args : Array Value} {ds gs : List (DataW H)} {before : List MemPlace} (hl : laidOutB prog = true)
    (hW : DataW.Whole enc prog f.params.toList s.vars apart W args.toList ds gs before) (hvars : s.vars = []) (hr : f.resultTypes = #[4]) (hp : (f.params.toList.all fun t => prog.readableRec t && decide (t < prog.types.size)) = true)
    (hfn : (s.fn H (ds ++ gs)).results = [.lit (.bool true)]) (hfa : (s.fn H (ds ++ gs)).args = ds) (hfv : (s.fn H (ds ++ gs)).vars = []) (hb : Below W.heap.size W W') : s.post enc prog f apart fresh handsOn again W args (.bool true) W' := by
  have hlt : ∀ p ∈ before, p.block < W.heap.size := fun p hp => hW.lt p hp
  have hold : ∀ p ∈ before, (fun b => decide (b < W.heap.size)) p.block = true := fun p hp => by simpa using hlt p hp
  have hW0 := hW
  obtain ⟨p, q, hA, hV, hpq, hz, hn⟩ := hW0
  rw [hvars] at hV
  obtain ⟨rfl, rfl⟩ := trodVars_none hV
  have hpq' : before = p := by simpa using hpq
  subst hpq'
  have hres : ∀ (b : Nat) (sp : Nat → Bool) (hd : Bool), DataW.TrodAll enc prog W' b sp hd f.resultTypes.toList ((Value.bool true).resultList f.resultTypes.size) (s.fn H (ds ++ [])).results [] := by
    intro b sp hd
    rw [hr, hfn]
    exact trodAll_mk1 (shut_bool underlying4 true)
  have hargs : ∀ sp : Nat → Bool, (∀ p ∈ before, sp p.block = true) → DataW.TrodAll enc prog W' 0 sp true f.params.toList args.toList (s.fn H (ds ++ [])).args before := by
    intro sp hsp
    rw [hfa]
    exact trodAll_stays hl _ (all_fine hp) hA (fun x hx => hb.same (hlt x hx)) hsp
  have hvs : ∀ sp : Nat → Bool, DataW.TrodVars enc prog W' sp s.vars (s.fn H (ds ++ [])).vars [] := by
    intro sp
    rw [hvars, hfv]
    rfl
  refine ⟨ds, [], before, [], before, [], hW, hres _ _ _, hargs _ hold, hvs _, World.keptBut_mono (fun p hp => ⟨hp, ?_⟩) (hb.frame (· ∈ before)), fun _ => ?_⟩
  · exact Or.inr (Or.inl hp)
  · refine ⟨ok_one hr rfl (okWide_bool_mk underlying4 true), _, _, ([] ++ before) ++ [], ⟨[] ++ before, [], trodAll_append (hargs _ (fun _ _ => rfl)) (hres _ _ _), hvs _, rfl, ?_, ?_⟩, ?_⟩
    · intro b off hp
      have hin : MemPlace.cell b off ∈ before := by simpa using hp
      rw [hb.frozen (hlt _ hin)]
      exact hz b off hin
    · intro ha
      simpa using hn ha
    · intro p hp _
      simpa using hp
end
end Go.Proofs.Ytpmnchgpbojppaa
