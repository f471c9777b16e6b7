/- The contracts of table's functions, for the abstract machine. -/
import Derived.Test.YtpmnchgpbojppaaBr
import Derived.Test.YtpmnchgpbojppaaSet
import Derived.Test.YtpmnchgpbojppaaNew
import Derived.Test.YtpmnchgpbojppaaDel
import Derived.Test.YtpmnchgpbojppaaAwake
import Derived.Test.YtpmnchgpbojppaaFew
import Derived.Test.YtpmnchgpbojppaaSame
import Derived.Test.YtpmnchgpbojppaaSame2
import Derived.Test.YtpmnchgpbojppaaMay3
set_option linter.unusedVariables false
namespace Go.Proofs.Ytpmnchgpbojppaa
open Go Go.RowKit Go.Proofs.Try

theorem get_s (t : Tab) (key fl : Nat) : (t.get key fl).1.s = t.s ∧ (t.get key fl).1.next = t.next := by
  unfold Tab.get
  split <;> exact ⟨rfl, rfl⟩
theorem del_s (t : Tab) (key : Nat) : (t.del key).1.s = t.s ∧ (t.del key).1.next = t.next := by
  unfold Tab.del
  split
  · exact ⟨rfl, rfl⟩
  · split <;> exact ⟨rfl, rfl⟩
theorem avTab_ofs {w : World} {x : Cx} {hp : Hp} {f : Bool} {t : Tab} {s : Sch} {A : Option Addr} {n c nx : Nat} (h1 : t.s = s) (h2 : t.next = nx) (h : Dat w x.ok (.sl f (t.e.map encEnt)) (.slice A n c)) : VRel w x hp (avTab f t) (tabV s A n c nx) := by
  subst h1
  subst h2
  exact avTab_of h

theorem new_ctr (s : Sch) : Ctr prog 24 [avSch s] [] (.tup [avTab false (Tab.new s).1, .raw (.int .i64 (Tab.new s).2)]) [] := by
  refine Ctr.old call24 fun w cx vals hH hsz ha => ?_
  have e0 := avSch_inv (ha 0 _ rfl)
  have hv : vals = #[.agg #[.int .i64 s.kind, .int .i64 s.cap, .int .i64 s.words, .int .i64 s.ver]] := by
    refine arr_eq hsz fun i hi => ?_
    have hi : i < 1 := hi
    match i, hi with
    | 0, _ => exact e0
  subst hv
  refine Calls.mono (new_any s w) ?_
  rintro e w' ⟨A', n', c', us, rfl, hO, hb⟩
  refine ⟨_, rfl, hb, .tup _ _ rfl (fun i u hu => ?_)⟩
  match i, hu with
  | 0, hu => cases hu; exact avTab_of (ownEs_dat hO fresh_ok)
  | 1, hu => cases hu; exact .raw _
  | i + 2, hu => simp at hu

theorem own_ctr (f : Bool) (t : Tab) (hfit : fits t.e) (hl0 : okEs t.e) : Ctr prog 54 [avTab f t] [] (avTab false t) [] := by
  refine Ctr.old call54 fun w cx vals hH hsz ha => ?_
  obtain ⟨A0, c0, e0, hE0⟩ := avTab_inv hH.okb (ha 0 _ rfl) hl0
  have hv : vals = #[tabV t.s A0 t.e.length c0 t.next] := by
    refine arr_eq hsz fun i hi => ?_
    have hi : i < 1 := hi
    match i, hi with
    | 0, _ => exact e0
  subst hv
  refine Calls.mono (own_any t.s A0 _ c0 t.next t.e w hfit hE0) ?_
  rintro e w' ⟨A', us, rfl, hO, hb⟩
  exact ⟨_, rfl, hb, avTab_of (ownEs_dat hO fresh_ok)⟩

theorem get_ctr (f : Bool) (t : Tab) (key fl : Nat) (hx : t.next < 4294967296) (hf : fl < 4294967296) (hfit : fits t.e) (hl0 : okEs t.e) : Ctr prog 22 [avTab f t, .raw (.int .u32 (key : Int)), .raw (.int .u32 (fl : Int))] [] (.tup [avTab false (t.get key fl).1, .raw (.int .u32 ((t.get key fl).2.1 : Int)), .raw (.bool (t.get key fl).2.2)]) [] := by
  refine Ctr.old call22 fun w cx vals hH hsz ha => ?_
  obtain ⟨A0, c0, e0, hE0⟩ := avTab_inv hH.okb (ha 0 _ rfl) hl0
  have e1 := (ha 1 _ rfl).rawEq
  have e2 := (ha 2 _ rfl).rawEq
  have hv : vals = #[tabV t.s A0 t.e.length c0 t.next, .int .u32 (key : Int), .int .u32 (fl : Int)] := by
    refine arr_eq hsz fun i hi => ?_
    have hi : i < 3 := hi
    match i, hi with
    | 0, _ => exact e0
    | 1, _ => exact e1
    | 2, _ => exact e2
  subst hv
  refine Calls.mono (get_any t.s A0 _ c0 t.next key fl t.e w hx hf hfit hE0) ?_
  rintro e w' ⟨A', c', us, rfl, hO, hb⟩
  refine ⟨_, rfl, hb, .tup _ _ rfl (fun i u hu => ?_)⟩
  match i, hu with
  | 0, hu => cases hu; exact avTab_ofs (get_s t key fl).1 (get_s t key fl).2 (ownEs_dat hO fresh_ok)
  | 1, hu => cases hu; exact .raw _
  | 2, hu => cases hu; exact .raw _
  | i + 3, hu => simp at hu

theorem set_ctr (f : Bool) (t : Tab) (key fl x : Nat) (hx : t.next < 4294967296) (hf : fl < 4294967296) (hk : key < 4294967296) (hxx : x < 4294967296) (hfit : fits t.e) (hl0 : okEs t.e) : Ctr prog 21 [avTab f t, .raw (.int .u32 (key : Int)), .raw (.int .u32 (fl : Int)), .raw (.int .u32 (x : Int))] [] (.tup [avTab false (t.set key fl x).1, .raw (.int .i64 (t.set key fl x).2)]) [] := by
  refine Ctr.old call21 fun w cx vals hH hsz ha => ?_
  obtain ⟨A0, c0, e0, hE0⟩ := avTab_inv hH.okb (ha 0 _ rfl) hl0
  have e1 := (ha 1 _ rfl).rawEq
  have e2 := (ha 2 _ rfl).rawEq
  have e3 := (ha 3 _ rfl).rawEq
  have hv : vals = #[tabV t.s A0 t.e.length c0 t.next, .int .u32 (key : Int), .int .u32 (fl : Int), .int .u32 (x : Int)] := by
    refine arr_eq hsz fun i hi => ?_
    have hi : i < 4 := hi
    match i, hi with
    | 0, _ => exact e0
    | 1, _ => exact e1
    | 2, _ => exact e2
    | 3, _ => exact e3
  subst hv
  refine Calls.mono (set_any t.s A0 _ c0 t.next key fl x t.e w hx hf hk hxx hfit hE0) ?_
  rintro e w' ⟨A', n', c', us, rfl, hO, hb⟩
  refine ⟨_, rfl, hb, .tup _ _ rfl (fun i u hu => ?_)⟩
  match i, hu with
  | 0, hu => cases hu; exact avTab_of (ownEs_dat hO fresh_ok)
  | 1, hu => cases hu; exact .raw _
  | i + 2, hu => simp at hu

theorem del_ctr (f : Bool) (t : Tab) (key : Nat) (hx : t.next < 4294967296) (hfit : fits t.e) (hl0 : okEs t.e) : Ctr prog 29 [avTab f t, .raw (.int .u32 (key : Int))] [] (.tup [avTab false (t.del key).1, .raw (.bool (t.del key).2)]) [] := by
  refine Ctr.old call29 fun w cx vals hH hsz ha => ?_
  obtain ⟨A0, c0, e0, hE0⟩ := avTab_inv hH.okb (ha 0 _ rfl) hl0
  have e1 := (ha 1 _ rfl).rawEq
  have hv : vals = #[tabV t.s A0 t.e.length c0 t.next, .int .u32 (key : Int)] := by
    refine arr_eq hsz fun i hi => ?_
    have hi : i < 2 := hi
    match i, hi with
    | 0, _ => exact e0
    | 1, _ => exact e1
  subst hv
  refine Calls.mono (del_any t.s A0 _ c0 t.next key t.e w hx hfit hE0) ?_
  rintro e w' ⟨A', n', c', us, rfl, hO, hb⟩
  refine ⟨_, rfl, hb, .tup _ _ rfl (fun i u hu => ?_)⟩
  match i, hu with
  | 0, hu => cases hu; exact avTab_ofs (del_s t key).1 (del_s t key).2 (ownEs_dat hO fresh_ok)
  | 1, hu => cases hu; exact .raw _
  | i + 2, hu => simp at hu

theorem may_ctr (f : Bool) (t : Tab) (hx : t.next < 4294967296) (hl0 : okEs t.e) : Ctr prog 23 [avTab f t] [] (.raw (.bool t.may)) [] := by
  refine Ctr.old call23 fun w cx vals hH hsz ha => ?_
  obtain ⟨A0, c0, e0, hE0⟩ := avTab_inv hH.okb (ha 0 _ rfl) hl0
  have hv : vals = #[tabV t.s A0 t.e.length c0 t.next] := by
    refine arr_eq hsz fun i hi => ?_
    have hi : i < 1 := hi
    match i, hi with
    | 0, _ => exact e0
  subst hv
  refine Calls.mono (tabMay_any t.s A0 _ c0 t.next t.e w hx hE0) ?_
  rintro e w' ⟨rfl, hb⟩
  exact ⟨_, rfl, hb, .raw _⟩

theorem rmay_ctr (f : Bool) (t : Tab) (hx : t.next < 4294967296) (hl0 : okEs t.e) : Ctr prog 38 [avTab f t] [] (.raw (.bool t.may)) [] := by
  refine Ctr.old call38 fun w cx vals hH hsz ha => ?_
  obtain ⟨A0, c0, e0, hE0⟩ := avTab_inv hH.okb (ha 0 _ rfl) hl0
  have hv : vals = #[tabV t.s A0 t.e.length c0 t.next] := by
    refine arr_eq hsz fun i hi => ?_
    have hi : i < 1 := hi
    match i, hi with
    | 0, _ => exact e0
  subst hv
  refine Calls.mono (refMay_any t.s A0 _ c0 t.next t.e w hx hE0) ?_
  rintro e w' ⟨rfl, hb⟩
  exact ⟨_, rfl, hb, .raw _⟩

theorem rsame_ctr (f f2 : Bool) (t t2 : Tab) (hl0 : okEs t.e) (hl1 : okEs t2.e) : Ctr prog 26 [avTab f t, avTab f2 t2] [] (.raw (.bool (sameB t t2))) [] := by
  refine Ctr.old call26 fun w cx vals hH hsz ha => ?_
  obtain ⟨A0, c0, e0, hE0⟩ := avTab_inv hH.okb (ha 0 _ rfl) hl0
  obtain ⟨A1, c1, e1, hE1⟩ := avTab_inv hH.okb (ha 1 _ rfl) hl1
  have hv : vals = #[tabV t.s A0 t.e.length c0 t.next, tabV t2.s A1 t2.e.length c1 t2.next] := by
    refine arr_eq hsz fun i hi => ?_
    have hi : i < 2 := hi
    match i, hi with
    | 0, _ => exact e0
    | 1, _ => exact e1
  subst hv
  refine Calls.mono (refSame_any t.s t2.s A0 A1 _ _ c0 c1 t.next t2.next t.e t2.e w hE0 hE1) ?_
  rintro e w' ⟨rfl, hb⟩
  exact ⟨_, rfl, hb, .raw _⟩

theorem same_ctr (f f2 : Bool) (t t2 : Tab) (hl0 : okEs t.e) (hl1 : okEs t2.e) : Ctr prog 31 [avTab f t, avTab f2 t2] [] (.raw (.bool (sameB t t2))) [] := by
  refine Ctr.old call31 fun w cx vals hH hsz ha => ?_
  obtain ⟨A0, c0, e0, hE0⟩ := avTab_inv hH.okb (ha 0 _ rfl) hl0
  obtain ⟨A1, c1, e1, hE1⟩ := avTab_inv hH.okb (ha 1 _ rfl) hl1
  have hv : vals = #[tabV t.s A0 t.e.length c0 t.next, tabV t2.s A1 t2.e.length c1 t2.next] := by
    refine arr_eq hsz fun i hi => ?_
    have hi : i < 2 := hi
    match i, hi with
    | 0, _ => exact e0
    | 1, _ => exact e1
  subst hv
  refine Calls.mono (tabSame_any t.s t2.s A0 A1 _ _ c0 c1 t.next t2.next t.e t2.e w hE0 hE1) ?_
  rintro e w' ⟨rfl, hb⟩
  exact ⟨_, rfl, hb, .raw _⟩

theorem few_ctr (f : Bool) (t : Tab) (hs : t.s.Ok) (hx : t.next < 4294967296) (hl0 : okEs t.e) : Ctr prog 20 [avTab f t] [] (.raw (.bool t.small)) [] := by
  refine Ctr.old call20 fun w cx vals hH hsz ha => ?_
  obtain ⟨A0, c0, e0, hE0⟩ := avTab_inv hH.okb (ha 0 _ rfl) hl0
  have hv : vals = #[tabV t.s A0 t.e.length c0 t.next] := by
    refine arr_eq hsz fun i hi => ?_
    have hi : i < 1 := hi
    match i, hi with
    | 0, _ => exact e0
  subst hv
  refine Calls.mono (few1_any t.s A0 _ c0 t.next t.e w hs hx hE0) ?_
  rintro e w' ⟨rfl, hb⟩
  exact ⟨_, rfl, hb, .raw _⟩

theorem awake5_ctr  : Ctr prog 19 [] [] (.raw (.bool true)) [] := by
  refine Ctr.old call19 fun w cx vals hH hsz ha => ?_
  have hv : vals = #[] := by
    refine arr_eq hsz fun i hi => ?_
    exact absurd hi (by simp)
  subst hv
  refine Calls.mono (awake5_any w) ?_
  rintro e w' ⟨rfl, hb⟩
  exact ⟨_, rfl, hb, .raw _⟩

end Go.Proofs.Ytpmnchgpbojppaa
