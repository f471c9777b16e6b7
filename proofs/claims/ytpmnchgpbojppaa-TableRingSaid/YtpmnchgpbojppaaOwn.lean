/- table.own. -/
import Derived.Test.YtpmnchgpbojppaaOwnLib
import Derived.StillTailTactics
namespace Go.Proofs.Ytpmnchgpbojppaa
open Go Go.RowKit Go.Proofs.Try

/-- The loop's relation: behind k rounds. -/
structure OwnRel (g b0 : Nat) (es : List Ent) (vs : List Value) (k : Nat) (us : List Value) (wr : World) : Prop where
  len : us.length = es.length
  rest : ∀ i, k ≤ i → us[i]? = vs[i]?
  blk : Blk wr g 39 (entCells es us).toArray
  own : ∀ (i : Nat) (e : Ent) (u : Value), i < k → es[i]? = some e → us[i]? = some u → OwnW wr b0 u e.v
  lone : ∀ (i j : Nat) (u v : Value) (b : Nat), i < k → j < k → i ≠ j → us[i]? = some u → us[j]? = some v → u.ownBlock = some b → v.ownBlock ≠ some b

theorem OwnRel.step {g b0 gv : Nat} {es : List Ent} {vs us : List Value} {k : Nat} {e : Ent} {wr w' : World} (h : OwnRel g b0 es vs k us wr) (he : es[k]? = some e) (hw : ∀ i, i < wr.heap.size → i ≠ g → w'.heap[i]? = wr.heap[i]?)
    (hos : w'.os = wr.os) (htape : w'.tape = wr.tape) (hout : w'.output = wr.output) (hsize : wr.heap.size ≤ w'.heap.size) (hgv : gv = wr.heap.size) (hb0 : b0 ≤ gv)
    (hg : Blk w' g 39 ((entCells es us).set (k * 2 + 1) (.slice (some ⟨gv, 0, none⟩) e.v.length e.v.length)).toArray) (hv : Blk w' gv 25 (u32s e.v).toArray) (hlt : lt32 e.v) (hm : e.v.length ≤ maxLen) :
    OwnRel g b0 es vs (k + 1) (us.set k (.slice (some ⟨gv, 0, none⟩) e.v.length e.v.length)) w' := by
  have hgr : wr.grownBy w' (some g) := ⟨hos, htape, hout, hsize, fun i hi hn => hw i hi (fun e => hn (by rw [e]))⟩
  have hku : k < us.length := by rw [h.len]; exact (List.getElem?_eq_some_iff.1 he).1
  refine ⟨by simp [h.len], fun i hi => ?_, by rw [entCells_set] at hg; exact hg, fun i e' u hi he' hu => ?_, fun i j u v b hi hj hij hu hv' hb => ?_⟩
  · rw [List.getElem?_set_ne (by omega)]
    exact h.rest i (by omega)
  · rcases Nat.lt_or_ge i k with hik | hik
    · rw [List.getElem?_set_ne (by omega)] at hu
      have ho := h.own i e' u hik he' hu
      refine ho.only hgr ?_
      intro hb
      rcases ho.row.2 with ⟨rfl, _⟩ | ⟨g', cap, cur, rfl, _, hg', _⟩
      · simp [Value.ownBlock] at hb
      · simp only [Value.ownBlock, Option.some.injEq] at hb
        subst hb
        have := h.blk
        unfold Blk at this
        rw [hg'] at this
        simp at this
    · obtain rfl : i = k := by omega
      rw [he] at he'
      cases he'
      rw [List.getElem?_set_self hku] at hu
      cases hu
      refine ⟨⟨by simp [u32s_length], .inr ⟨gv, _, _, rfl, hb0, hv, Nat.le_refl _, hm, by simp [u32s_length], ?_⟩⟩, hlt⟩
      rw [List.toList_toArray, List.take_of_length_le (by simp [u32s_length])]
  · have old : ∀ (i : Nat) (u : Value) (b : Nat), i < k → us[i]? = some u → u.ownBlock = some b → b < gv := by
      intro i u b hi hu hb
      have hil : i < es.length := by rw [← h.len]; exact (List.getElem?_eq_some_iff.1 hu).1
      have := (h.own i _ u hi (List.getElem?_eq_getElem hil) hu).row.lt b hb
      omega
    rcases Nat.lt_or_ge i k with hik | hik
    · rw [List.getElem?_set_ne (by omega)] at hu
      rcases Nat.lt_or_ge j k with hjk | hjk
      · rw [List.getElem?_set_ne (by omega)] at hv'
        exact h.lone i j u v b hik hjk hij hu hv' hb
      · obtain rfl : j = k := by omega
        rw [List.getElem?_set_self hku] at hv'
        cases hv'
        have := old i u b hik hu hb
        simp only [Value.ownBlock, ne_eq, Option.some.injEq]
        omega
    · obtain rfl : i = k := by omega
      rw [List.getElem?_set_self hku] at hu
      cases hu
      simp only [Value.ownBlock, Option.some.injEq] at hb
      subst hb
      rw [List.getElem?_set_ne (by omega)] at hv'
      intro hvb
      have := old j v _ (by omega) hv' hvb
      omega

set_option maxRecDepth 100000 in
set_option maxHeartbeats 2000000 in
theorem own_any (s : Sch) (A : Option Addr) (n c nx : Nat) (es : List Ent) (w : World) (hf : fits es) (hE : kEnt.At w w.heap.size A n c es) :
    Calls prog 54 #[tabV s A n c nx] w fun e w' => ∃ A' us, e = .returned (tabV s A' n n nx) ∧ OwnEs w' w.heap.size (.slice A' n n) es us ∧ Below w.heap.size w w' := by
  have hn := hE.nle
  have hl := Lib.hid hE.len
  have hn2 : n ≤ 1048576 := by have := hf.1; rw [hE.len] at this; exact this
  obtain ⟨vs, hvl, hvs, hsrc⟩ := kEnt.cells hE
  replace hvl := Lib.hid hvl
  replace hvs := Lib.hid hvs
  replace hsrc := Lib.hid hsrc
  unfold tabV
  obtain ⟨W1, hW1, hB1, hS1, hG1, hO1, hP1⟩ := boxedB w _ rfl #[.int .i64 s.kind, .int .i64 s.cap, .int .i64 s.words, .int .i64 s.ver, .slice A n c, .int .u32 (nx : Int)] 27
  obtain ⟨W2, hW2, hB2, hS2, hG2, hO2, hP2⟩ := boxedB W1 _ hS1 #[.int .i64 0, .int .i64 0, .int .i64 0, .int .i64 0, .slice none 0 0, .int .u32 0] 27
  have hmk := run_makeN (P := prog) 24 39 _ 2 32 underlying24 info_ent n (by omega) (by omega)
  obtain ⟨W3, hW3, hB3, hS3, hG3, hO3, hP3⟩ := boxedB W2 _ hS2 (madeCells #[.int .u32 0, .slice none 0 0] (n * 2)) 39
  have hC1 := hG1.cell
  have hC1' := boxAt (hB2.trans (hB3.mono (Nat.le_succ _))) (Nat.lt_succ_self _) hC1
  have hB := hB1.trans ((hB2.trans (hB3.mono (Nat.le_succ _))).mono (Nat.le_succ _))
  obtain ⟨ie, hie, _, hsz, _⟩ := info_parts info_ent
  obtain ⟨iw, hiw, _, hsw, _⟩ := info_parts info_u32
  have hcl : (entCells es vs).length = n * 2 := by rw [entCells_length (by rw [hvl.out, hl.out]), hl.out]
  replace hcl := Lib.hid hcl
  have hG3' : Blk W3 (w.heap.size + 1 + 1) 39 (madeCells #[.int .u32 0, .slice none 0 0] (n * 2)).toList.toArray := by simpa using hG3
  have hone : ∀ v ∈ entCells es vs, v.oneCell' = true := entCells_one (fun u hu => by
    obtain ⟨i, hi⟩ := List.mem_iff_getElem?.1 hu
    have hil : i < es.length := by rw [hl.out, ← hvl.out]; exact (List.getElem?_eq_some_iff.1 hi).1
    obtain ⟨_, A', m, d, rfl, _⟩ := hvs.out i _ u (List.getElem?_eq_getElem hil) hi
    rfl)
  replace hone := Lib.hid hone
  have hcn : (entCells es vs).length = Nat.min n n * 2 := by rw [hcl.out]; simp
  replace hcn := Lib.hid hcn
  have hpos : 0 < (entCells es vs).length → some (⟨w.heap.size + 1 + 1, 0, none⟩ : Addr) = some ⟨w.heap.size + 1 + 1, 0, none⟩ ∧ ∃ ad, A = some ad ∧ ∀ (j : Nat) (u : Value), (entCells es vs)[j]? = some u → W3.cell? (ad.add j) = some u := by
    intro hp
    obtain ⟨ad, rfl, hadB, hcs⟩ := hsrc.out (by rw [hcl.out] at hp; omega)
    exact ⟨rfl, ad, rfl, fun j u hu => (hB.cell (by rw [add_block]; exact hadB)).trans (hcs j u hu)⟩
  replace hpos := Lib.hid hpos
  have hfit : 0 + (entCells es vs).length ≤ (madeCells #[.int .u32 0, .slice none 0 0] (n * 2)).toList.length := by rw [hcl.out]; simp [size_madeCells]
  replace hfit := Lib.hid hfit
  have hspl : splice (madeCells #[.int .u32 0, .slice none 0 0] (n * 2)).toList 0 (entCells es vs) = entCells es vs := by
    unfold splice
    rw [List.take_zero, List.nil_append, List.drop_eq_nil_of_le (by rw [Nat.zero_add, hcl.out]; simp [size_madeCells]), List.append_nil]
  replace hspl := Lib.hid hspl
  go_enter func54, ntmps54
  go_wp2_with (refine wpList_copyS (o := ⟨some 12, _, _, _, _, _⟩) rfl _ _ _ _ rfl 39 ie 2 underlying24 hie hsz (by omega) _ _ _ _ _ _ rfl rfl (w.heap.size + 1 + 1) 0 _ 39 hG3' (entCells es vs) hcn.out hpos.out hfit.out hone.out ?_)
  intro w4 hG4 ho4 hs4
  rw [hspl.out] at hG4
  have hs4 : w4.heap.size = w.heap.size + 1 + 1 + 1 := by first | exact hs4 | exact hs4.trans hS3
  have hB4 : Below (w.heap.size + 1 + 1) W2 w4 := Only.below hB3 ho4 (Nat.le_refl _) (by omega)
  have hC4 := boxAt hB4 (by omega) (boxAt hB2 (Nat.lt_succ_self _) hC1)
  have hb4 := hB1.trans ((hB2.trans (hB4.mono (Nat.le_succ _))).mono (Nat.le_succ _))
  clear hpos hfit hcn hmk hW3
  go_wp2_with fail
  go_loopw [15] (fun i wr => ∃ k : Nat, k ≤ n ∧ i = .int .i64 k ∧ Below (w.heap.size + 1 + 1) W2 wr ∧ w.heap.size + 1 + 1 < wr.heap.size ∧ ∃ us, OwnRel (w.heap.size + 1 + 1) (w.heap.size + 1 + 1) es vs k us wr) (fun i _ => n - (intOf i).toNat)
  case atStart =>
    refine ⟨0, Nat.zero_le _, rfl, hB4, by omega, vs, by rw [hvl.out, hl.out], fun _ _ => rfl, hG4, fun i e u h => absurd h (by omega), fun i j u v b h => absurd h (by omega)⟩
  case round =>
    obtain ⟨k, hk, rfl, hbr, hgr, us, hrel⟩ := hrel
    have hul := Lib.hid hrel.len
    have hCr := boxAt hbr (by omega) (boxAt hB2 (Nat.lt_succ_self _) hC1)
    have hwr := hB1.trans ((hB2.trans (hbr.mono (Nat.le_succ _))).mono (Nat.le_succ _))
    replace hrel := Lib.hid hrel
    by_cases hlt : k < n
    · obtain ⟨e, ad, D, m, d, he, rfl, hadB, hk0, hk1, hkey, hv⟩ := kEnt.get (hE.below hwr) hlt
      have hm2 : m ≤ 1048576 := by have := hf.2 e (List.mem_of_getElem? he); rw [hv.len] at this; exact this
      replace he := Lib.hid he
      have hki : (k : Int) < (n : Int) := by omega
      have hmk := run_makeN (P := prog) 36 25 _ 1 4 underlying36 info_u32 m (by omega) (by omega)
      have hvl2 := Lib.hid hv.len
      have hvn : (u32s e.v).length = Nat.min m m * 1 := by rw [u32s_length, hv.len]; simp
      replace hvn := Lib.hid hvn
      have hvfit : 0 + (u32s e.v).length ≤ (madeCells #[.int .u32 0] m).toList.length := by rw [u32s_length, hv.len]; simp [size_madeCells]
      replace hvfit := Lib.hid hvfit
      have hvspl : splice (madeCells #[.int .u32 0] m).toList 0 (u32s e.v) = u32s e.v := by
        unfold splice
        rw [List.take_zero, List.nil_append, List.drop_eq_nil_of_le (by rw [Nat.zero_add, u32s_length, hv.len]; simp [size_madeCells]), List.append_nil]
      replace hvspl := Lib.hid hvspl
      have hlt32 : lt32 e.v := fun x hx => by
        obtain ⟨i, hi⟩ := List.mem_iff_getElem?.1 hx
        obtain ⟨_, _, _, _, _, hk⟩ := hv.el i x hi
        exact hk.2
      have hgr2 : ¬ wr.heap.size = w.heap.size + 1 + 1 := by omega
      obtain ⟨vk, hvk⟩ : ∃ vk, us[k]? = some vk := ⟨_, List.getElem?_eq_getElem (by rw [hul.out, hl.out]; exact hlt)⟩
      have hgc : wr.cell? ⟨w.heap.size + 1 + 1, k * 2 + 1, none⟩ = some vk := by rw [hrel.out.blk.cell]; simpa using (entCells_get he.out hvk).2
      clear hvk
      have hgf : ∀ i, wr.frozen? ⟨w.heap.size + 1 + 1, i, none⟩ = false := hrel.out.blk.frozen
      obtain ⟨W5, hW5, hB5, hS5, hG5, hO5, hP5⟩ := boxedB wr _ rfl (madeCells #[.int .u32 0] m) 25
      have hG5g := hrel.out.blk.below hB5 hgr
      obtain ⟨W6, hW6, ho6, hs6, hG6, hO6, hP6⟩ := storedB hG5g (k * 2 + 1) (.slice (some ⟨wr.heap.size, 0, none⟩) m m)
      have hgc5 : W5.cell? ⟨w.heap.size + 1 + 1, k * 2 + 1, none⟩ = some vk := (hO5 _ _ hgr).trans hgc
      have hgf5 : ∀ i, W5.frozen? ⟨w.heap.size + 1 + 1, i, none⟩ = false := fun i => (hP5 _ i hgr).trans (hgf i)
      have hwlt : w.heap.size < wr.heap.size := by omega
      have hk16 : W6.cell? ⟨(ad.add (k * 2)).block, (ad.add (k * 2)).off + 1, none⟩ = some (.slice D m d) := ho6.cell ((hB5.cell (by show (ad.add (k * 2)).block < _; rw [add_block]; omega)).trans hk1) (by show (ad.add (k * 2)).block ≠ _; rw [add_block]; omega)
      have hgc6 : W6.cell? ⟨w.heap.size + 1 + 1, k * 2 + 1, none⟩ = some (.slice (some ⟨wr.heap.size, 0, none⟩) m m) := by
        rw [hG6.cell]
        have : k * 2 + 1 < (entCells es us).length := by rw [entCells_length (by rw [hul.out]), hl.out]; omega
        simp [this]
      have hGv : Blk W6 wr.heap.size 25 (madeCells #[.int .u32 0] m).toList.toArray := by simpa using hG5.grown ho6 (by simp; omega)
      have hC6 : ∀ i, W6.cell? ⟨w.heap.size, i, none⟩ = #[.int .i64 s.kind, .int .i64 s.cap, .int .i64 s.words, .int .i64 s.ver, .slice (some ad) n c, .int .u32 (nx : Int)][i]? := fun i => ((hO6 _ i (by omega)).trans (hO5 _ i hwlt)).trans (hCr i)
      clear hO6 hO5
      have hvpos : 0 < (u32s e.v).length → some (⟨wr.heap.size, 0, none⟩ : Addr) = some ⟨wr.heap.size, 0, none⟩ ∧ ∃ ad, D = some ad ∧ ∀ (j : Nat) (u : Value), (u32s e.v)[j]? = some u → W6.drew.cell? (ad.add j) = some u := by
        intro hp
        rw [u32s_length, hv.len] at hp
        obtain ⟨x0, ad2, _, rfl, hb2, _⟩ := kW.get hv hp
        refine ⟨rfl, ad2, rfl, fun j u hu => ?_⟩
        have hj : j < m := by rw [← hv.len, ← u32s_length]; exact (List.getElem?_eq_some_iff.1 hu).1
        obtain ⟨x, ad3, hx, had, hb3, hc3, _⟩ := kW.get hv hj
        injection had with had
        subst had
        rw [u32s_get hx] at hu
        cases hu
        exact ho6.cell ((hB5.cell (by rw [add_block]; omega)).trans hc3) (by rw [add_block]; omega)
      replace hvpos := Lib.hid hvpos
      go_wp2_with fail
      go_still_tail 11, (by kernel_rfl)
      change wpList _ _ _ _ _ W6.drew
      refine wpList_copyS rfl _ _ _ _ rfl 25 iw 1 underlying36 hiw hsw (by omega) _ _ _ _ _ _ rfl rfl wr.heap.size 0 _ 25 (show Blk W6.drew _ _ _ from hGv) (u32s e.v) hvn.out (fun hp => ⟨rfl, (hvpos.out hp).2⟩) hvfit.out (u32s_one _) ?_
      intro w7 hG7 ho7 hs7
      rw [hvspl.out] at hG7
      have hob : ∀ i, i < wr.heap.size → i ≠ w.heap.size + 1 + 1 → w7.heap[i]? = wr.heap[i]? := by
        intro i hi hne
        have a1 := ho7.block i (by show i < W6.heap.size; omega) (by simp; omega)
        have a2 := ho6.block i (by omega) (by simp; omega)
        exact a1.trans (a2.trans (hB5.block i hi))
      have hG7g : Blk w7 (w.heap.size + 1 + 1) 39 ((entCells es us).set (k * 2 + 1) (.slice (some ⟨wr.heap.size, 0, none⟩) m m)).toArray := by
        have := Blk.grown (w := W6.drew) (show Blk W6.drew _ _ _ from hG6) ho7 (by simp; omega)
        simpa using this
      have hs76 : W6.drew.heap.size = W6.heap.size := rfl
      have hBr7 : Below (w.heap.size + 1 + 1) W2 w7 := Only.below (w := W6.drew) (Below.drew (Only.below (hbr.trans (hB5.mono (by omega))) ho6 (Nat.le_refl _) (by omega))) ho7 (by omega) (by omega)
      go_wp2_with fail
      refine ⟨⟨k + 1, by omega, by go_num, hBr7, by omega, _, hvl2.out ▸ hrel.out.step he.out hob (ho7.os.trans (ho6.os.trans hB5.os)) (ho7.tape.trans (ho6.tape.trans hB5.tape)) (ho7.output.trans (ho6.output.trans hB5.output)) (by omega) rfl (by omega) (by rw [hvl2.out]; exact hG7g) hG7 hlt32 (by rw [hvl2.out]; simp only [maxLen]; omega)⟩, by simp [intOf]; omega⟩
    · obtain rfl : k = n := by omega
      have hG1r := (hG1.below hB2 (Nat.lt_succ_self _)).below hbr (by omega)
      have hG2r := hG2.below hbr (Nat.lt_succ_self _)
      have hF1r := hG1r.frozen
      obtain ⟨W8, hW8, ho8, hs8, hG8, hO8, hP8⟩ := storedB hG1r 4 (.slice (some ⟨w.heap.size + 1 + 1, 0, none⟩) k k)
      have hG28 := hG2r.grown ho8 (by simp)
      have hC2r := hG28.cell
      have hF2r := hG28.frozen
      have hC18 := hG8.cell
      have hres := Lib.hid (hG28.setBox [.int .i64 s.kind, .int .i64 s.cap, .int .i64 s.words, .int .i64 s.ver, .slice (some ⟨w.heap.size + 1 + 1, 0, none⟩) k k, .int .u32 (nx : Int)] rfl)
      have ho9 := setAll_only (w.heap.size + 1) [.int .i64 s.kind, .int .i64 s.cap, .int .i64 s.words, .int .i64 s.ver, .slice (some ⟨w.heap.size + 1 + 1, 0, none⟩) k k, .int .u32 (nx : Int)] 0 W8
      have hb8 := Only.below hwr ho8 (Nat.le_refl _) (by omega)
      have hb9 := Only.below hb8 ho9 (by omega) (by omega)
      clear hO8 hP8
      go_wp2_with fail
      refine bodyPost_ret (results_c results54 rfl hres.out underlying27 rfl (by kernel_rfl)) rfl ?_
      refine ⟨some ⟨w.heap.size + 1 + 1, 0, none⟩, us, rfl, ?_, hb9⟩
      have hRel := hrel.out
      have hfar : ∀ g, g ≠ w.heap.size → g ≠ w.heap.size + 1 → g < wr.heap.size → (setAll W8 (w.heap.size + 1) 0 [.int .i64 s.kind, .int .i64 s.cap, .int .i64 s.words, .int .i64 s.ver, .slice (some ⟨w.heap.size + 1 + 1, 0, none⟩) k k, .int .u32 (nx : Int)]).heap[g]? = wr.heap[g]? := by
        intro g h1 h2 h3
        exact (ho9.block g (by omega) (by simp; omega)).trans (ho8.block g h3 (by simp; omega))
      have hgr9 := fun (g : Nat) (h1 : w.heap.size + 1 + 1 ≤ g) (h2 : g < wr.heap.size) => hfar g (by omega) (by omega) h2
      refine ⟨hRel.len, ⟨by rw [entCells_length hRel.len], .inr ⟨w.heap.size + 1 + 1, k, _, by rw [hl.out], by omega, (hgr9 _ (Nat.le_refl _) hgr).trans hRel.blk, by rw [hl.out]; exact Nat.le_refl _, by simp only [maxLen]; omega, by simp [entCells_length hRel.len, hl.out], ?_⟩⟩, fun i e u he hu => ?_, fun i j u v b hij hu hv hb => ?_⟩
      · rw [List.toList_toArray, List.take_of_length_le (by rw [entCells_length hRel.len]; exact Nat.le_refl _)]
      · have hi : i < k := by rw [← hl.out]; exact (List.getElem?_eq_some_iff.1 he).1
        refine ⟨?_, ?_⟩
        · have ho := hRel.own i e u hi he hu
          have hlt' := ho.row.lt
          refine OwnW.mono ⟨?_, ho.lt⟩ (show w.heap.size ≤ w.heap.size + 1 + 1 by omega)
          refine ⟨ho.row.1, ?_⟩
          rcases ho.row.2 with h1 | ⟨g, cap, cur, rfl, h2, h3, h4⟩
          · exact .inl h1
          · exact .inr ⟨g, cap, cur, rfl, h2, (hgr9 g h2 (Array.getElem?_eq_some_iff.1 h3).1).trans h3, h4⟩
        · obtain ⟨e', _, _, _, _, he', _, _, _, _, hk', _⟩ := kEnt.get hE hi
          rw [he] at he'
          cases he'
          exact hk'
      · have hi : i < k := by rw [← hl.out, ← hRel.len]; exact (List.getElem?_eq_some_iff.1 hu).1
        have hj : j < k := by rw [← hl.out, ← hRel.len]; exact (List.getElem?_eq_some_iff.1 hv).1
        exact hRel.lone i j u v b hi hj hij hu hv hb
end Go.Proofs.Ytpmnchgpbojppaa
