/- table.last. -/
import Derived.Test.YtpmnchgpbojppaaOwnLib
import Derived.StillTailTactics
namespace Go.Proofs.Ytpmnchgpbojppaa
open Go Go.RowKit Go.Proofs.Try

/-- The i-th goes last. -/
def toLast {α : Type} (l : List α) (i : Nat) : List α := l.eraseIdx i ++ (l[i]?).toList
theorem toLast_length {α : Type} {l : List α} {i : Nat} (h : i < l.length) : (toLast l i).length = l.length := by
  unfold toLast
  rw [List.length_append, List.length_eraseIdx, if_pos h, List.getElem?_eq_getElem h]
  simp
  omega
theorem toLast_get {α : Type} {l : List α} {i : Nat} (h : i < l.length) (j : Nat) : (toLast l i)[j]? = if j < i then l[j]? else if j + 1 < l.length then l[j + 1]? else if j + 1 = l.length then l[i]? else none := by
  unfold toLast
  have hl : (l.eraseIdx i).length = l.length - 1 := by rw [List.length_eraseIdx, if_pos h]
  by_cases h1 : j < i
  · rw [if_pos h1, List.getElem?_append_left (by omega), List.getElem?_eraseIdx_of_lt h1]
  · rw [if_neg h1]
    by_cases h2 : j + 1 < l.length
    · rw [if_pos h2, List.getElem?_append_left (by omega), List.getElem?_eraseIdx_of_ge (by omega)]
    · rw [if_neg h2, List.getElem?_append_right (by omega), hl]
      by_cases h3 : j + 1 = l.length
      · rw [if_pos h3, show j - (l.length - 1) = 0 by omega, List.getElem?_eq_getElem h]
        rfl
      · rw [if_neg h3, List.getElem?_eq_getElem h]
        simp
        omega
theorem toLast_at {α : Type} {l : List α} {i j : Nat} {x : α} (h : i < l.length) (hx : (toLast l i)[j]? = some x) : ∃ m, l[m]? = some x ∧ m = (if j < i then j else if j + 1 < l.length then j + 1 else i) := by
  rw [toLast_get h] at hx
  split at hx
  · rename_i h1; exact ⟨j, hx, by rw [if_pos h1]⟩
  · rename_i h1
    split at hx
    · rename_i h2; exact ⟨j + 1, hx, by rw [if_neg h1, if_pos h2]⟩
    · rename_i h2
      split at hx
      · exact ⟨i, hx, by rw [if_neg h1, if_neg h2]⟩
      · cases hx
theorem toLast_lone {us : List Value} {i : Nat} (hi : i < us.length) (h : Lone us) : Lone (toLast us i) := by
  intro p q u v b hpq hu hv hb
  have hp := (List.getElem?_eq_some_iff.1 hu).1
  have hq := (List.getElem?_eq_some_iff.1 hv).1
  rw [toLast_length hi] at hp hq
  obtain ⟨m, hm, em⟩ := toLast_at hi hu
  obtain ⟨m', hm', em'⟩ := toLast_at hi hv
  refine h m m' u v b ?_ hm hm' hb
  split at em <;> (try split at em) <;> split at em' <;> (try split at em') <;> omega

/-- The list behind a key's being met: of an Lru it goes last. -/
def touch {α : Type} (kind : Int) (l : List α) (i : Nat) : List α := if kind = 2 then toLast l i else l
theorem touch_length {α : Type} {kind : Int} {l : List α} {i : Nat} (h : i < l.length) : (touch kind l i).length = l.length := by
  unfold touch
  split
  · exact toLast_length h
  · rfl
def tpos (kind : Int) (n i : Nat) : Nat := if kind = 2 then n - 1 else i
theorem tpos_lt {kind : Int} {n i : Nat} (h : i < n) : tpos kind n i < n := by unfold tpos; split <;> omega
theorem touch_get {α : Type} {kind : Int} {l : List α} {i : Nat} (h : i < l.length) : (touch kind l i)[tpos kind l.length i]? = l[i]? := by
  unfold touch tpos
  split
  · rw [toLast_get h, if_neg (by omega), if_neg (by omega), if_pos (by omega)]
  · rfl
theorem touch_set {α : Type} {kind : Int} {l : List α} {i : Nat} (h : i < l.length) (x : α) : (touch kind l i).set (tpos kind l.length i) x = touch kind (l.set i x) i := by
  unfold touch tpos
  split
  · unfold toLast
    have hl : (l.eraseIdx i).length = l.length - 1 := by rw [List.length_eraseIdx, if_pos h]
    rw [List.getElem?_eq_getElem h, List.getElem?_set_self h, List.eraseIdx_set_eq, ← hl]
    simp
  · rfl
/-- What the copy and the store make of a row's cells. -/
theorem entCells_toLast {L : List Value} {es : List Ent} {us : List Value} {i n : Nat} {e : Ent} {u : Value} (hn : es.length = n) (hu : us.length = n) (hi : i < n) (hL : L.take (n * 2) = entCells es us) (hLl : n * 2 ≤ L.length) (he : es[i]? = some e) (hui : us[i]? = some u) :
    (((splice L (i * 2) ((L.take (n * 2)).drop ((i + 1) * 2))).set ((n - 1) * 2) (.int .u32 (e.key : Int))).set ((n - 1) * 2 + 1) u).take (n * 2) = entCells (toLast es i) (toLast us i) := by
  have hlen : ((L.take (n * 2)).drop ((i + 1) * 2)).length = (n - 1 - i) * 2 := by
    rw [List.length_drop, List.length_take, Nat.min_eq_left hLl]; omega
  have hsl : (splice L (i * 2) ((L.take (n * 2)).drop ((i + 1) * 2))).length = L.length := length_splice _ _ _ (by rw [hlen]; omega)
  have hel : ∀ j, j < n * 2 → (((splice L (i * 2) ((L.take (n * 2)).drop ((i + 1) * 2))).set ((n - 1) * 2) (.int .u32 (e.key : Int))).set ((n - 1) * 2 + 1) u)[j]? =
      if j = (n - 1) * 2 + 1 then some u else if j = (n - 1) * 2 then some (.int .u32 (e.key : Int)) else if j < i * 2 then (entCells es us)[j]? else (entCells es us)[j + 2]? := by
    intro j hj
    rw [List.getElem?_set]
    by_cases h1 : (n - 1) * 2 + 1 = j
    · rw [if_pos h1, if_pos (by simp [hsl]; omega), if_pos h1.symm]
    · rw [if_neg h1, if_neg (Ne.symm h1), List.getElem?_set]
      by_cases h2 : (n - 1) * 2 = j
      · rw [if_pos h2, if_pos (by rw [hsl]; omega), if_pos h2.symm]
      · rw [if_neg h2, if_neg (Ne.symm h2), ← hL]
        unfold splice
        by_cases h3 : j < i * 2
        · rw [if_pos h3, List.getElem?_append_left (by rw [List.length_take]; omega), List.getElem?_take, if_pos h3, List.getElem?_take, if_pos hj]
        · rw [if_neg h3, List.getElem?_append_right (by rw [List.length_take]; omega), List.length_take, Nat.min_eq_left (by omega),
            List.getElem?_append_left (by rw [hlen]; omega), List.getElem?_drop, show (i + 1) * 2 + (j - i * 2) = j + 2 by omega]
  have hne : (toLast es i).length = n := by rw [toLast_length (by omega), hn]
  have hnu : (toLast us i).length = n := by rw [toLast_length (by omega), hu]
  apply List.ext_getElem?
  intro j
  by_cases hj : j < n * 2
  · rw [List.getElem?_take, if_pos hj, hel j hj]
    obtain ⟨m, hm⟩ : ∃ m, j = m * 2 ∨ j = m * 2 + 1 := ⟨j / 2, by omega⟩
    have hmn : m < n := by omega
    have hem : (toLast es i)[m]? = some ((toLast es i)[m]'(by omega)) := List.getElem?_eq_getElem (by omega)
    have hum : (toLast us i)[m]? = some ((toLast us i)[m]'(by omega)) := List.getElem?_eq_getElem (by omega)
    obtain ⟨g0, g1⟩ := entCells_get hem hum
    obtain ⟨p, hp, ep⟩ := toLast_at (by omega) hem
    obtain ⟨q, hq, eq⟩ := toLast_at (by omega) hum
    rw [hn] at ep
    rw [hu] at eq
    obtain rfl : p = q := by rw [ep, eq]
    obtain ⟨k0, k1⟩ := entCells_get hp hq
    rcases hm with rfl | rfl
    · rw [g0, ← k0]
      by_cases h1 : m < i
      · rw [if_pos h1] at ep
        subst ep
        rw [if_neg (by omega), if_neg (by omega), if_pos (by omega)]
      · rw [if_neg h1] at ep
        by_cases h2 : m + 1 < n
        · rw [if_pos h2] at ep
          subst ep
          rw [if_neg (by omega), if_neg (by omega), if_neg (by omega), show m * 2 + 2 = (m + 1) * 2 by omega]
        · rw [if_neg h2] at ep
          subst ep
          rw [he] at hp
          cases hp
          rw [if_neg (by omega), if_pos (by omega), k0]
    · rw [g1, ← k1]
      by_cases h1 : m < i
      · rw [if_pos h1] at ep
        subst ep
        rw [if_neg (by omega), if_neg (by omega), if_pos (by omega)]
      · rw [if_neg h1] at ep
        by_cases h2 : m + 1 < n
        · rw [if_pos h2] at ep
          subst ep
          rw [if_neg (by omega), if_neg (by omega), if_neg (by omega), show m * 2 + 1 + 2 = (m + 1) * 2 + 1 by omega]
        · rw [if_neg h2] at ep
          subst ep
          rw [hui] at hq
          rw [if_pos (by omega), k1, hq]
  · rw [List.getElem?_eq_none (by rw [List.length_take]; omega), List.getElem?_eq_none (by rw [entCells_length (by omega)]; omega)]

set_option maxHeartbeats 1000000 in
theorem last_other (s : Sch) (hk : (s.kind != 2) = true) (A : Option Addr) (n c nx i : Nat) (w : World) :
    Calls prog 57 #[tabV s A n c nx, .int .i64 (i : Int)] w fun e w' => e = .returned (.int .i64 (i : Int)) ∧ Below w.heap.size w w' := by
  unfold tabV
  obtain ⟨W1, hW1, hB1, hS1, hG1, hO1, hP1⟩ := boxedB w _ rfl #[.int .i64 s.kind, .int .i64 s.cap, .int .i64 s.words, .int .i64 s.ver, .slice A n c, .int .u32 (nx : Int)] 27
  have hC1 := hG1.cell
  go_enter func57, ntmps57
  go_wp2_with fail
  go_ret
  exact ⟨rfl, hB1⟩

set_option maxRecDepth 100000 in
set_option maxHeartbeats 2000000 in
theorem last_lru (s : Sch) (hk : (s.kind != 2) = false) (g n c nx i : Nat) (es : List Ent) (us : List Value) (w : World) (base : Nat) (hO : OwnEs w base (.slice (some ⟨g, 0, none⟩) n c) es us) (hn : es.length = n) (hi : i < n) :
    Calls prog 57 #[tabV s (some ⟨g, 0, none⟩) n c nx, .int .i64 (i : Int)] w fun e w' => e = .returned (.int .i64 ((n : Int) - 1)) ∧ Only g w w' ∧ OwnEs w' base (.slice (some ⟨g, 0, none⟩) n c) (toLast es i) (toLast us i) := by
  obtain ⟨cur, hbg, hG, hnc, hcm, hcs, htake⟩ : ∃ cur, base ≤ g ∧ Blk w g 39 cur ∧ n ≤ c ∧ c ≤ maxLen ∧ cur.size = c * 2 ∧ cur.toList.take (n * 2) = entCells es us := by
    have hr := hO.row
    rw [hn] at hr
    rcases hr.2 with ⟨h', _⟩ | ⟨g', cap', cur, h', h2, h3, h4, h5, h6, h7⟩
    · cases h'
    · simp only [Value.slice.injEq, Option.some.injEq, Addr.mk.injEq, and_true, true_and] at h'
      obtain ⟨rfl, rfl⟩ := h'
      exact ⟨cur, h2, h3, h4, h5, h6, h7⟩
  have hnm : n ≤ 9223372036854775807 := by simp only [maxLen] at hcm; omega
  have hcm' : c ≤ 9223372036854775807 := by simp only [maxLen] at hcm; omega
  have hgl := hG.lt
  have hus := hO.len
  rw [hn] at hus
  obtain ⟨e, he⟩ : ∃ e, es[i]? = some e := ⟨_, List.getElem?_eq_getElem (by omega)⟩
  obtain ⟨u, hu⟩ : ∃ u, us[i]? = some u := ⟨_, List.getElem?_eq_getElem (by omega)⟩
  obtain ⟨hval, hkey⟩ := hO.val i e u he hu
  obtain ⟨Au, cu, hus', _⟩ := hval.reads
  obtain ⟨e0, e1⟩ := entCells_get he hu
  rw [← htake, List.getElem?_take, if_pos (by omega)] at e0 e1
  have hk0 : w.cell? ⟨g, i * 2, none⟩ = some (.int .u32 (e.key : Int)) := by rw [hG.cell]; simpa using e0
  have hk1 : w.cell? ⟨g, i * 2 + 1, none⟩ = some u := by rw [hG.cell]; simpa using e1
  subst hus'
  have hfin := entCells_toLast (L := cur.toList) hn hus hi htake (by simp; omega) he hu
  replace hfin := Lib.hid hfin
  replace htake := Lib.hid htake
  replace hn := Lib.hid hn
  replace hus := Lib.hid hus
  clear e0 e1 he hu
  unfold tabV
  obtain ⟨W1, hW1, hB1, hS1, hG1, hO1, hP1⟩ := boxedB w _ rfl #[.int .i64 s.kind, .int .i64 s.cap, .int .i64 s.words, .int .i64 s.ver, .slice (some ⟨g, 0, none⟩) n c, .int .u32 (nx : Int)] 27
  have hC1 := hG1.cell
  have hk01 : W1.cell? ⟨g, i * 2, none⟩ = some (.int .u32 (e.key : Int)) := (hO1 _ _ hgl).trans hk0
  have hk11 : W1.cell? ⟨g, i * 2 + 1, none⟩ = some (.slice Au e.v.length cu) := (hO1 _ _ hgl).trans hk1
  obtain ⟨W2, hW2, hB2, hS2, hG2, hO2, hP2⟩ := boxedB W1 _ hS1 #[.int .u32 (e.key : Int), .slice Au e.v.length cu] 39
  have hC2 := hG2.cell
  have hC12 := (hG1.below hB2 (Nat.lt_succ_self _)).cell
  obtain ⟨ie, hie, _, hsz, _⟩ := info_parts info_ent
  have hG2g := (hG.below hB1 hgl).below hB2 (by omega)
  have hcl : ((cur.toList.take (n * 2)).drop ((i + 1) * 2)).length = (n - 1 - i) * 2 := by rw [List.length_drop, List.length_take, Array.length_toList]; omega
  have hcn : ((cur.toList.take (n * 2)).drop ((i + 1) * 2)).length = Nat.min (n - (i + 1)) (n - i) * 2 := by
    have hmin : Nat.min (n - (i + 1)) (n - i) = n - (i + 1) := Nat.min_eq_left (by omega)
    rw [hcl, hmin]; omega
  replace hcn := Lib.hid hcn
  have hfit : i * 2 + ((cur.toList.take (n * 2)).drop ((i + 1) * 2)).length ≤ cur.toList.length := by rw [hcl]; simp; omega
  replace hfit := Lib.hid hfit
  have hone : ∀ v ∈ (cur.toList.take (n * 2)).drop ((i + 1) * 2), v.oneCell' = true := fun v hv => by
    rw [htake.out] at hv
    refine entCells_one (es := es) (us := us) (fun u hu => ?_) v (List.mem_of_mem_drop hv)
    obtain ⟨j, hj⟩ := List.mem_iff_getElem?.1 hu
    have hjl : j < es.length := by rw [hn.out, ← hus.out]; exact (List.getElem?_eq_some_iff.1 hj).1
    obtain ⟨A, c', rfl, _⟩ := (hO.val j _ u (List.getElem?_eq_getElem hjl) hj).1.reads
    rfl
  replace hone := Lib.hid hone
  have hpos : 0 < ((cur.toList.take (n * 2)).drop ((i + 1) * 2)).length → cutA (some ⟨g, 0, none⟩) c i 2 = some ⟨g, i * 2, none⟩ ∧ ∃ ad, cutA (some ⟨g, 0, none⟩) c (i + 1) 2 = some ad ∧ ∀ (j : Nat) (v : Value), ((cur.toList.take (n * 2)).drop ((i + 1) * 2))[j]? = some v → W2.drew.cell? (ad.add j) = some v := by
    intro hp
    rw [hcl] at hp
    refine ⟨by rw [cutA_lt (by omega), add_lit0], _, cutA_lt (by omega), fun j v hv => ?_⟩
    rw [add_add, add_lit0]
    rw [List.getElem?_drop, List.getElem?_take] at hv
    split at hv
    · exact (hG2g.cell _).trans (by simpa using hv)
    · cases hv
  replace hpos := Lib.hid hpos
  have hi1 : ((i : Int) + 1) = ((i + 1 : Nat) : Int) := by omega
  have hsl1 := run_cut (P := prog) 24 39 2 underlying24 (by kernel_rfl) (some ⟨g, 0, none⟩) n c i (i : Int) rfl (by omega)
  have hsl2 := run_cut (P := prog) 24 39 2 underlying24 (by kernel_rfl) (some ⟨g, 0, none⟩) n c (i + 1) ((i : Int) + 1) hi1 (by omega)
  replace hi1 := Lib.hid hi1
  have hic : (i : Int) < (n : Int) := by omega
  have hnn : ((n : Int) - 1).toNat = n - 1 := by omega
  have hn1 : (1 : Int) ≤ (n : Int) := by omega
  have hwr : IntKind.i64.wrap ((i : Int) + 1) = (i : Int) + 1 := IntWalk.i64_in _ (by omega)
  go_enter func57, ntmps57
  go_wp2_with fail
  go_still_tail 9, (by kernel_rfl)
  change wpList _ _ _ _ _ W2.drew
  refine wpList_copyS rfl _ _ _ _ rfl 39 ie 2 underlying24 hie hsz (by omega) _ _ _ _ _ _ rfl rfl g (i * 2) cur.toList 39 (show Blk W2.drew _ _ _ from hG2g) ((cur.toList.take (n * 2)).drop ((i + 1) * 2)) hcn.out hpos.out hfit.out hone.out ?_
  intro w3 hG3 ho3 hs3
  replace ho3 := ho3.of_drew
  have hs3' : w3.heap.size = w.heap.size + 1 + 1 := hs3.trans hS2
  have hC13 := ((hG1.below hB2 (Nat.lt_succ_self _)).grown ho3 (by simp; omega)).cell
  have hC23 := (hG2.grown ho3 (by simp; omega)).cell
  have hlen3 : (splice cur.toList (i * 2) ((cur.toList.take (n * 2)).drop ((i + 1) * 2))).length = cur.size := by rw [length_splice _ _ _ hfit.out]; simp
  obtain ⟨va, hva⟩ : ∃ va, w3.cell? ⟨g, (n - 1) * 2, none⟩ = some va := ⟨_, by rw [hG3.cell]; exact Array.getElem?_eq_getElem (by simp only [List.size_toArray, hlen3]; omega)⟩
  obtain ⟨vb, hvb⟩ : ∃ vb, w3.cell? ⟨g, (n - 1) * 2 + 1, none⟩ = some vb := ⟨_, by rw [hG3.cell]; exact Array.getElem?_eq_getElem (by simp only [List.size_toArray, hlen3]; omega)⟩
  have hf3 := hG3.frozen
  obtain ⟨W4, hW4, ho4, hs4, hG4, hO4, hP4⟩ := storedB hG3 ((n - 1) * 2) (.int .u32 (e.key : Int))
  have hvb4 : W4.cell? ⟨g, (n - 1) * 2 + 1, none⟩ = some vb := by rw [← hW4, World.cell?_setCell_other _ _ _ _ (by simp)]; exact hvb
  obtain ⟨W5, hW5, ho5, hs5, hG5, hO5, hP5⟩ := storedB hG4 ((n - 1) * 2 + 1) (.slice Au e.v.length cu)
  have hC15 : ∀ j, W5.cell? ⟨w.heap.size, j, none⟩ = #[.int .i64 s.kind, .int .i64 s.cap, .int .i64 s.words, .int .i64 s.ver, .slice (some ⟨g, 0, none⟩) n c, .int .u32 (nx : Int)][j]? := fun j => ((hO5 _ j (by omega)).trans (hO4 _ j (by omega))).trans (hC13 j)
  clear hO4 hO5
  go_wp2_with fail
  go_ret
  have hO5 : Only g w W5 := (Only.of_below (hB1.trans (hB2.mono (Nat.le_succ _)))).trans (ho3.trans (ho4.trans ho5))
  have hn' := hn.out
  have hus' := hus.out
  refine ⟨rfl, hO5, by rw [toLast_length (by omega), toLast_length (by omega)]; exact hO.len, ⟨?_, .inr ⟨g, c, _, by rw [toLast_length (by omega), hn'], hbg, hG5, by rw [toLast_length (by omega), hn']; exact hnc, hcm, by simp [hlen3, hcs], ?_⟩⟩, fun j e' u' he' hu' => ?_, toLast_lone (by omega) hO.lone⟩
  · rw [entCells_length (by rw [toLast_length (by omega), toLast_length (by omega)]; exact hO.len)]
  · rw [toLast_length (by omega), hn']
    simpa using hfin.out
  · obtain ⟨p, hp, ep⟩ := toLast_at (by omega) he'
    obtain ⟨q, hq, eq⟩ := toLast_at (by omega) hu'
    rw [hn'] at ep
    rw [hus'] at eq
    obtain rfl : p = q := by rw [ep, eq]
    obtain ⟨h1, h2⟩ := hO.val p e' u' hp hq
    exact ⟨h1.only hO5 (h1.blk_ne hO.row rfl), h2⟩

/-- Where the entry is then. -/
theorem last_any (s : Sch) (g n c nx i : Nat) (es : List Ent) (us : List Value) (w : World) (base : Nat) (hO : OwnEs w base (.slice (some ⟨g, 0, none⟩) n c) es us) (hn : es.length = n) (hi : i < n) :
    Calls prog 57 #[tabV s (some ⟨g, 0, none⟩) n c nx, .int .i64 (i : Int)] w fun e w' => e = .returned (.int .i64 ((tpos s.kind n i : Nat) : Int)) ∧ Only g w w' ∧ OwnEs w' base (.slice (some ⟨g, 0, none⟩) n c) (touch s.kind es i) (touch s.kind us i) := by
  rcases hk : (s.kind != 2) with _ | _
  · have hk2 : s.kind = 2 := by simpa using hk
    refine (last_lru s hk g n c nx i es us w base hO hn hi).mono ?_
    rintro e w' ⟨rfl, ho, hO'⟩
    unfold touch tpos
    rw [if_pos hk2, if_pos hk2, if_pos hk2]
    exact ⟨by rw [show ((n : Int) - 1) = ((n - 1 : Nat) : Int) by omega], ho, hO'⟩
  · have hk2 : s.kind ≠ 2 := by simpa using hk
    refine (last_other s hk _ n c nx i w).mono ?_
    rintro e w' ⟨rfl, hb⟩
    unfold touch tpos
    rw [if_neg hk2, if_neg hk2, if_neg hk2]
    exact ⟨rfl, Only.of_below hb, hO.below hb⟩
end Go.Proofs.Ytpmnchgpbojppaa
