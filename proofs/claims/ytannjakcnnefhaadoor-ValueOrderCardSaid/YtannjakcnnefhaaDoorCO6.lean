import Derived.Test.YtannjakcnnefhaaDoorCO0
import Derived.Test.YtannjakcnnefhaaDoorCO3
import Derived.Test.YtannjakcnnefhaaDoorCO4
import Derived.Test.YtannjakcnnefhaaDoorCO5
-- printed by wip/hp.py (the session's driver of the print, with hand-proved contracts)
namespace Go.Proofs.YtannjakcnnefhaaDoor.O
open Go.RowKit Go.Proofs.YtannjakcnnefhaaDoorW.PrintWords Go.Proofs.YtannjakcnnefhaaDoorW.PrintLast Go.Proofs.YtannjakcnnefhaaDoorW.PrintMore
attribute [local go_sem] max2_int min2_int max_two min_two max_three min_three max_four min_four   -- for this text's walks alone
set_option linter.unusedVariables false
set_option linter.unusedSimpArgs false

/-! ### flagstonelaw3_ValueOrder: function 4 -/
mutual
def flagstonelaw3_ValueOrder.j1 : Nat → List (S31) → Option (Bool)
 | 0,_=>none
 | k + 1,x12=>if 0 < (x12.length : Int) then (if 1 < (x12.length : Int) then ((value_Compare.f k ((rd_T31 x12 0).f0) ((rd_T31 x12 0).f1) ((rd_T31 x12 0).f2) ((rd_T31 x12 0).f3) ((rd_T31 x12 1).f0) ((rd_T31 x12 1).f1) ((rd_T31 x12 1).f2) ((rd_T31 x12 1).f3)).bind fun bt241=>(if 2 < (x12.length : Int) then ((value_Compare.f k ((rd_T31 x12 1).f0) ((rd_T31 x12 1).f1) ((rd_T31 x12 1).f2) ((rd_T31 x12 1).f3) ((rd_T31 x12 2).f0) ((rd_T31 x12 2).f1) ((rd_T31 x12 2).f2) ((rd_T31 x12 2).f3)).bind fun bt245=>((value_Compare.f k ((rd_T31 x12 0).f0) ((rd_T31 x12 0).f1) ((rd_T31 x12 0).f2) ((rd_T31 x12 0).f3) ((rd_T31 x12 2).f0) ((rd_T31 x12 2).f1) ((rd_T31 x12 2).f2) ((rd_T31 x12 2).f3)).bind fun bt249=>((value_Compare.f k ((rd_T31 x12 1).f0) ((rd_T31 x12 1).f1) ((rd_T31 x12 1).f2) ((rd_T31 x12 1).f3) ((rd_T31 x12 0).f0) ((rd_T31 x12 0).f1) ((rd_T31 x12 0).f2) ((rd_T31 x12 0).f3)).bind fun bt253=>(if bt241.2 = 0 then (if bt245.2 = 0 then (if bt249.2 = 0 then (if bt253.2 = 0 then (if bt253.1 = (wrap64 (-bt241.1)) then ((value_Equal.f k ((rd_T31 x12 0).f0) ((rd_T31 x12 0).f1) ((rd_T31 x12 0).f2) ((rd_T31 x12 0).f3) ((rd_T31 x12 1).f0) ((rd_T31 x12 1).f1) ((rd_T31 x12 1).f2) ((rd_T31 x12 1).f3)).bind fun t257=>(if ((bt241.1 == 0) != t257) = true then (some false) else (if bt241.1 ≤ 0 then (if bt245.1 ≤ 0 then (if bt249.1 ≤ 0 then (if bt249.1 < 0 then (some true) else (if bt241.1 = 0 then (some (bt245.1 == 0)) else (some false))) else (some false)) else (some true)) else (some true)))) else (some false)) else (some false)) else (some false)) else (some false)) else (some false))))) else (none))) else (none)) else (none)
def flagstonelaw3_ValueOrder.l0 : Nat → List (S31) → List Int → Int → Int → Option (Bool)
 | 0,_,_,_,_=>none
 | k + 1,x12,x45,x46,x47=>if x47 < x46 then (if 0 ≤ x47 then (if x47 < (x45.length : Int) then ((flagstonedraw_Mod.f (rd x45 x47) 1000000).bind fun t234=>((flagstoneref1_Number.f (Int.tmod t234 12)).bind fun t235=>(if t235.size + 1 ≤ 9223372036854775807 then ((flagstoneref1_Number.f (Int.tmod (wrap64 (Int.tdiv t234 12)) 11)).bind fun t236=>(if (t235 ++ (⟨#[46]⟩ : ByteArray)).size + t236.size ≤ 9223372036854775807 then (if ((t235 ++ (⟨#[46]⟩ : ByteArray)) ++ t236).size + 1 ≤ 9223372036854775807 then ((flagstoneref1_Number.f t234).bind fun t237=>(if (((t235 ++ (⟨#[46]⟩ : ByteArray)) ++ t236) ++ (⟨#[46]⟩ : ByteArray)).size + t237.size ≤ 9223372036854775807 then (if x47 < (x12.length : Int) then (flagstonelaw3_ValueOrder.l0 k (x12.set (x47 : Int).toNat (⟨(rd_T31 x12 x47).f0,(rd_T31 x12 x47).f1,(((t235 ++ (⟨#[46]⟩ : ByteArray)) ++ t236) ++ (⟨#[46]⟩ : ByteArray)) ++ t237,(rd_T31 x12 x47).f3⟩ : S31)) x45 x46 (wrap64 (x47 + 1))) else (none)) else (none))) else (none)) else (none))) else (none)))) else (none)) else (none)) else (flagstonelaw3_ValueOrder.j1 k x12)
end
def flagstonelaw3_ValueOrder.f (k : Nat) (a0 : Int) (l1 : List Int) (a2 : Int) (a3 : Int) (a4 : Int) : Option (Bool) := (flagstonelaw3_awake.f k).bind fun t201 => (if t201 = true then ((flagstonedraw_Mod.f a0 3).bind fun t202 => ((flagstonedraw_New.f l1 20).bind fun bt203 => ((flagstonedraw_Codes_Value.f bt203.1 bt203.2 (wrap64 (2 + t202))).bind fun bt206 => ((flagstonedraw_Codes_Value.f bt203.1 bt206.2.2.2.2 (wrap64 (2 + t202))).bind fun bt213 => ((flagstonedraw_Codes_Value.f bt203.1 bt213.2.2.2.2 (wrap64 (2 + t202))).bind fun bt220 => ((some (([(⟨bt206.1, bt206.2.1, bt206.2.2.1, bt206.2.2.2.1⟩ : S31), (⟨bt213.1, bt213.2.1, bt213.2.2.1, bt213.2.2.2.1⟩ : S31), (⟨bt220.1, bt220.2.1, bt220.2.2.1, bt220.2.2.2.1⟩ : S31)] : List (S31)) : List (S31))).bind fun y227 => (if (wrap64 (2 + t202)) = 4 then ((some (([a2, a3, a4] : List Int) : List Int)).bind fun y230 => (flagstonelaw3_ValueOrder.l0 k y227 y230 (y230.length : Int) 0)) else (flagstonelaw3_ValueOrder.j1 k y227)))))))) else (some false))
theorem flagstonelaw3_ValueOrder.mono_l : ∀ k, (∀ y0, LeO (flagstonelaw3_ValueOrder.j1 k y0) (flagstonelaw3_ValueOrder.j1 (k + 1) y0)) ∧ (∀ y0 y1 y2 y3, LeO (flagstonelaw3_ValueOrder.l0 k y0 y1 y2 y3) (flagstonelaw3_ValueOrder.l0 (k + 1) y0 y1 y2 y3))
 | 0=>⟨fun _ r h=>by simp [flagstonelaw3_ValueOrder.j1] at h,fun _ _ _ _ r h=>by simp [flagstonelaw3_ValueOrder.l0] at h⟩
 | k + 1=>by
  obtain ⟨ih0,ih1⟩ := flagstonelaw3_ValueOrder.mono_l k
  refine ⟨?_,?_⟩
  ·intro y0
   unfold flagstonelaw3_ValueOrder.j1
   repeat' first
   | (with_reducible exact ih0 _)
   | (with_reducible exact ih1 _ _ _ _)
   | (with_reducible exact flagstonelaw3_awake.mono _)
   | (with_reducible exact value_Compare.mono _ _ _ _ _ _ _ _ _)
   | (with_reducible exact value_Equal.mono _ _ _ _ _ _ _ _ _)
   | (with_reducible exact LeO.refl _)
   | (with_reducible exact LeO.none _)
   | (with_reducible refine LeO.ite ?_ ?_)
   | (with_reducible refine LeO.bind ?_ (fun _=>?_))
   | exact ih0 _
   | exact ih1 _ _ _ _
   | exact flagstonelaw3_awake.mono _
   | exact value_Compare.mono _ _ _ _ _ _ _ _ _
   | exact value_Equal.mono _ _ _ _ _ _ _ _ _
   | exact LeO.none _
   | refine LeO.ite ?_ ?_
   | refine LeO.bind ?_ (fun _=>?_)
  ·intro y0 y1 y2 y3
   unfold flagstonelaw3_ValueOrder.l0
   repeat' first
   | (with_reducible exact ih0 _)
   | (with_reducible exact ih1 _ _ _ _)
   | (with_reducible exact flagstonelaw3_awake.mono _)
   | (with_reducible exact value_Compare.mono _ _ _ _ _ _ _ _ _)
   | (with_reducible exact value_Equal.mono _ _ _ _ _ _ _ _ _)
   | (with_reducible exact LeO.refl _)
   | (with_reducible exact LeO.none _)
   | (with_reducible refine LeO.ite ?_ ?_)
   | (with_reducible refine LeO.bind ?_ (fun _=>?_))
   | exact ih0 _
   | exact ih1 _ _ _ _
   | exact flagstonelaw3_awake.mono _
   | exact value_Compare.mono _ _ _ _ _ _ _ _ _
   | exact value_Equal.mono _ _ _ _ _ _ _ _ _
   | exact LeO.none _
   | refine LeO.ite ?_ ?_
   | refine LeO.bind ?_ (fun _=>?_)
theorem flagstonelaw3_ValueOrder.mono : ∀ a0 a1 a2 a3 a4 k, LeO (flagstonelaw3_ValueOrder.f k a0 a1 a2 a3 a4) (flagstonelaw3_ValueOrder.f (k + 1) a0 a1 a2 a3 a4) := by
 intro a0 a1 a2 a3 a4 k
 obtain ⟨ih0,ih1⟩ := flagstonelaw3_ValueOrder.mono_l k
 unfold flagstonelaw3_ValueOrder.f
 repeat' first
   | (with_reducible exact ih0 _)
   | (with_reducible exact ih1 _ _ _ _)
   | (with_reducible exact flagstonelaw3_awake.mono _)
   | (with_reducible exact value_Compare.mono _ _ _ _ _ _ _ _ _)
   | (with_reducible exact value_Equal.mono _ _ _ _ _ _ _ _ _)
   | (with_reducible exact LeO.refl _)
   | (with_reducible exact LeO.none _)
   | (with_reducible refine LeO.ite ?_ ?_)
   | (with_reducible refine LeO.bind ?_ (fun _=>?_))
   | exact ih0 _
   | exact ih1 _ _ _ _
   | exact flagstonelaw3_awake.mono _
   | exact value_Compare.mono _ _ _ _ _ _ _ _ _
   | exact value_Equal.mono _ _ _ _ _ _ _ _ _
   | exact LeO.none _
   | refine LeO.ite ?_ ?_
   | refine LeO.bind ?_ (fun _=>?_)
def flagstonelaw3_ValueOrder.T13 : Bool × List (List Nat × List Nat) := (true, [([], []), ([0], [0]), ([1], [1]), ([], []), ([3], [3]), ([4], [4]), ([2, 5], [2, 5]), ([6], [6]), ([7], [7]), ([7], [7]), ([8, 6, 0, 1, 2, 3, 4, 5, 6, 7, 8], [8]), ([9, 10, 0, 1, 2, 3, 4, 5, 6, 7, 8, 9, 10], [9])])
def flagstonelaw3_ValueOrder.B13 : List Nat := [0, 1, 3, 0, 8, 24, 63, 127, 255, 255, 511, 2047]
theorem flagstonelaw3_ValueOrder.tab13 : rtab .any (opsOf Tryd.f4 13) = flagstonelaw3_ValueOrder.T13 := by kernel_rfl
theorem flagstonelaw3_ValueOrder.bits13 : waitsOk flagstonelaw3_ValueOrder.T13.2 flagstonelaw3_ValueOrder.B13 = true := by kernel_rfl
def flagstonelaw3_ValueOrder.T14 : Bool × List (List Nat × List Nat) := (true, [([], []), ([0], [0]), ([1], [1]), ([], []), ([3], [3]), ([4], [4]), ([2, 5], [2, 5]), ([6], [6]), ([7], [7]), ([7], [7]), ([8, 6, 0, 1, 2, 3, 4, 5, 6, 7, 8], [8]), ([9, 10, 0, 1, 2, 3, 4, 5, 6, 7, 8, 9, 10], [9])])
def flagstonelaw3_ValueOrder.B14 : List Nat := [0, 1, 3, 0, 8, 24, 63, 127, 255, 255, 511, 2047]
theorem flagstonelaw3_ValueOrder.tab14 : rtab .any (opsOf Tryd.f4 14) = flagstonelaw3_ValueOrder.T14 := by kernel_rfl
theorem flagstonelaw3_ValueOrder.bits14 : waitsOk flagstonelaw3_ValueOrder.T14.2 flagstonelaw3_ValueOrder.B14 = true := by kernel_rfl
def flagstonelaw3_ValueOrder.T15 : Bool × List (List Nat × List Nat) := (true, [([], []), ([0], [0]), ([1], [1]), ([], []), ([3], [3]), ([4], [4]), ([2, 5], [2, 5]), ([6], [6]), ([7], [7]), ([7], [7]), ([8, 6, 0, 1, 2, 3, 4, 5, 6, 7, 8], [8]), ([9, 10, 0, 1, 2, 3, 4, 5, 6, 7, 8, 9, 10], [9])])
def flagstonelaw3_ValueOrder.B15 : List Nat := [0, 1, 3, 0, 8, 24, 63, 127, 255, 255, 511, 2047]
theorem flagstonelaw3_ValueOrder.tab15 : rtab .any (opsOf Tryd.f4 15) = flagstonelaw3_ValueOrder.T15 := by kernel_rfl
theorem flagstonelaw3_ValueOrder.bits15 : waitsOk flagstonelaw3_ValueOrder.T15.2 flagstonelaw3_ValueOrder.B15 = true := by kernel_rfl
def flagstonelaw3_ValueOrder.T16 : Bool × List (List Nat × List Nat) := (true, [([], []), ([0], [0]), ([1], [1]), ([], []), ([3], [3]), ([4], [4]), ([2, 5], [2, 5]), ([6], [6]), ([7], [7]), ([7], [7]), ([8, 6, 0, 1, 2, 3, 4, 5, 6, 7, 8], [8]), ([9, 10, 0, 1, 2, 3, 4, 5, 6, 7, 8, 9, 10], [9])])
def flagstonelaw3_ValueOrder.B16 : List Nat := [0, 1, 3, 0, 8, 24, 63, 127, 255, 255, 511, 2047]
theorem flagstonelaw3_ValueOrder.tab16 : rtab .any (opsOf Tryd.f4 16) = flagstonelaw3_ValueOrder.T16 := by kernel_rfl
theorem flagstonelaw3_ValueOrder.bits16 : waitsOk flagstonelaw3_ValueOrder.T16.2 flagstonelaw3_ValueOrder.B16 = true := by kernel_rfl
def flagstonelaw3_ValueOrder.T17 : Bool × List (List Nat × List Nat) := (true, [([], []), ([0], [0]), ([1], [1]), ([2], [2]), ([3, 2], [2, 3]), ([2, 4], [2, 4]), ([5, 2], [5]), ([6], [6]), ([7, 6], [6, 7]), ([6, 8], [6, 8]), ([9, 6], [9]), ([10], [10]), ([11, 10], [10, 11]), ([10, 12], [10, 12]), ([13, 10], [13]), ([14], [14]), ([14], [14]), ([16, 14], [14, 16]), ([15, 17, 14], [14, 15, 17]), ([14, 18], [14, 18]), ([19, 14], [19]), ([20], [20]), ([21, 20], [20, 21]), ([20], [20]), ([23, 20], [20, 23]), ([24, 20], [20, 24]), ([20], [20]), ([26, 20], [20, 26]), ([27, 20], [20, 27]), ([25, 28, 20, 20], [20, 25, 28]), ([22, 29, 20], [20, 22, 29]), ([20, 30], [20, 30])])
def flagstonelaw3_ValueOrder.B17 : List Nat := [0, 1, 3, 7, 15, 31, 63, 127, 255, 511, 1023, 2047, 4095, 8191, 16383, 32767, 32767, 98303, 262143, 524287, 1048575, 2097151, 4194303, 2097151, 10485759, 27262975, 2097151, 69206015, 203423743, 530579455, 1073741823, 2147483647]
theorem flagstonelaw3_ValueOrder.tab17 : rtab .any (opsOf Tryd.f4 17) = flagstonelaw3_ValueOrder.T17 := by kernel_rfl
theorem flagstonelaw3_ValueOrder.bits17 : waitsOk flagstonelaw3_ValueOrder.T17.2 flagstonelaw3_ValueOrder.B17 = true := by kernel_rfl
set_option maxHeartbeats 8000000 in
set_option maxRecDepth 100000 in
theorem flagstonelaw3_ValueOrder.calls (k : Nat) (a0 : Int) (A1 : Option Addr) (c1 : Nat) (l1 : List Int) (a2 : Int) (a3 : Int) (a4 : Int) (r : Bool) (w : World) (hr1 : Kd.C (Kd.int .u8) w A1 l1.length l1) (hc1 : l1.length ≤ c1) (hGL : GL w) (h : flagstonelaw3_ValueOrder.f k a0 l1 a2 a3 a4 = some r) (hrt : r = true) :
  Calls Tryd.prog 4 #[.int .i64 a0,.slice A1 l1.length c1,.int .i64 a2,.int .i64 a3,.int .i64 a4] w fun e w'=>e = .returned (.bool r) ∧ Below w.heap.size w w' := by
 have hu31 := Tryd.underlying31; have HR1 := Aside0.mk hr1; have HC1 := Aside0.mk hc1; clear hr1 hc1; have HGL := Aside0.mk hGL; clear hGL
 have HB := Aside0.mk (Below.refl w.heap.size w)
 have H : ((flagstonelaw3_awake.f k).bind fun t201=>(if t201 = true then ((flagstonedraw_Mod.f a0 3).bind fun t202=>((flagstonedraw_New.f l1 20).bind fun bt203=>((flagstonedraw_Codes_Value.f bt203.1 bt203.2 (wrap64 (2 + t202))).bind fun bt206=>((flagstonedraw_Codes_Value.f bt203.1 bt206.2.2.2.2 (wrap64 (2 + t202))).bind fun bt213=>((flagstonedraw_Codes_Value.f bt203.1 bt213.2.2.2.2 (wrap64 (2 + t202))).bind fun bt220=>((some (([(⟨bt206.1,bt206.2.1,bt206.2.2.1,bt206.2.2.2.1⟩ : S31),(⟨bt213.1,bt213.2.1,bt213.2.2.1,bt213.2.2.2.1⟩ : S31),(⟨bt220.1,bt220.2.1,bt220.2.2.1,bt220.2.2.2.1⟩ : S31)] : List (S31)) : List (S31))).bind fun y227=>(if (wrap64 (2 + t202)) = 4 then ((some (([a2,a3,a4] : List Int) : List Int)).bind fun y230=>(flagstonelaw3_ValueOrder.l0 k y227 y230 (y230.length : Int) 0)) else (flagstonelaw3_ValueOrder.j1 k y227)))))))) else (some false))) = some r := h
 clear h; replace H := Option.bind_eq_some_iff.mp H; obtain ⟨t201,A60,H⟩ := H
 replace H : (if t201 = true then ((flagstonedraw_Mod.f a0 3).bind fun t202=>((flagstonedraw_New.f l1 20).bind fun bt203=>((flagstonedraw_Codes_Value.f bt203.1 bt203.2 (wrap64 (2 + t202))).bind fun bt206=>((flagstonedraw_Codes_Value.f bt203.1 bt206.2.2.2.2 (wrap64 (2 + t202))).bind fun bt213=>((flagstonedraw_Codes_Value.f bt203.1 bt213.2.2.2.2 (wrap64 (2 + t202))).bind fun bt220=>((some (([(⟨bt206.1,bt206.2.1,bt206.2.2.1,bt206.2.2.2.1⟩ : S31),(⟨bt213.1,bt213.2.1,bt213.2.2.1,bt213.2.2.2.1⟩ : S31),(⟨bt220.1,bt220.2.1,bt220.2.2.1,bt220.2.2.2.1⟩ : S31)] : List (S31)) : List (S31))).bind fun y227=>(if (wrap64 (2 + t202)) = 4 then ((some (([a2,a3,a4] : List Int) : List Int)).bind fun y230=>(flagstonelaw3_ValueOrder.l0 k y227 y230 (y230.length : Int) 0)) else (flagstonelaw3_ValueOrder.j1 k y227)))))))) else (some false)) = some r := H
 have A6 := Aside0.mk A60; clear A60
 by_cases c7 : t201 = true
 ·subst c7
  have H1 : ((flagstonedraw_Mod.f a0 3).bind fun t202=>((flagstonedraw_New.f l1 20).bind fun bt203=>((flagstonedraw_Codes_Value.f bt203.1 bt203.2 (wrap64 (2 + t202))).bind fun bt206=>((flagstonedraw_Codes_Value.f bt203.1 bt206.2.2.2.2 (wrap64 (2 + t202))).bind fun bt213=>((flagstonedraw_Codes_Value.f bt203.1 bt213.2.2.2.2 (wrap64 (2 + t202))).bind fun bt220=>((some (([(⟨bt206.1,bt206.2.1,bt206.2.2.1,bt206.2.2.2.1⟩ : S31),(⟨bt213.1,bt213.2.1,bt213.2.2.1,bt213.2.2.2.1⟩ : S31),(⟨bt220.1,bt220.2.1,bt220.2.2.1,bt220.2.2.2.1⟩ : S31)] : List (S31)) : List (S31))).bind fun y227=>(if (wrap64 (2 + t202)) = 4 then ((some (([a2,a3,a4] : List Int) : List Int)).bind fun y230=>(flagstonelaw3_ValueOrder.l0 k y227 y230 (y230.length : Int) 0)) else (flagstonelaw3_ValueOrder.j1 k y227)))))))) = some r := by rw [if_pos rfl] at H; exact H
  clear H; have H := H1; clear H1; replace H := Option.bind_eq_some_iff.mp H; obtain ⟨t202,A80,H⟩ := H
  replace H : ((flagstonedraw_New.f l1 20).bind fun bt203=>((flagstonedraw_Codes_Value.f bt203.1 bt203.2 (wrap64 (2 + t202))).bind fun bt206=>((flagstonedraw_Codes_Value.f bt203.1 bt206.2.2.2.2 (wrap64 (2 + t202))).bind fun bt213=>((flagstonedraw_Codes_Value.f bt203.1 bt213.2.2.2.2 (wrap64 (2 + t202))).bind fun bt220=>((some (([(⟨bt206.1,bt206.2.1,bt206.2.2.1,bt206.2.2.2.1⟩ : S31),(⟨bt213.1,bt213.2.1,bt213.2.2.1,bt213.2.2.2.1⟩ : S31),(⟨bt220.1,bt220.2.1,bt220.2.2.1,bt220.2.2.2.1⟩ : S31)] : List (S31)) : List (S31))).bind fun y227=>(if (wrap64 (2 + t202)) = 4 then ((some (([a2,a3,a4] : List Int) : List Int)).bind fun y230=>(flagstonelaw3_ValueOrder.l0 k y227 y230 (y230.length : Int) 0)) else (flagstonelaw3_ValueOrder.j1 k y227))))))) = some r := H
  have A8 := Aside0.mk A80; clear A80; replace H := Option.bind_eq_some_iff.mp H
  obtain ⟨⟨t203,t204⟩,A90,H⟩ := H
  replace H : ((flagstonedraw_Codes_Value.f t203 t204 (wrap64 (2 + t202))).bind fun bt206=>((flagstonedraw_Codes_Value.f t203 bt206.2.2.2.2 (wrap64 (2 + t202))).bind fun bt213=>((flagstonedraw_Codes_Value.f t203 bt213.2.2.2.2 (wrap64 (2 + t202))).bind fun bt220=>((some (([(⟨bt206.1,bt206.2.1,bt206.2.2.1,bt206.2.2.2.1⟩ : S31),(⟨bt213.1,bt213.2.1,bt213.2.2.1,bt213.2.2.2.1⟩ : S31),(⟨bt220.1,bt220.2.1,bt220.2.2.1,bt220.2.2.2.1⟩ : S31)] : List (S31)) : List (S31))).bind fun y227=>(if (wrap64 (2 + t202)) = 4 then ((some (([a2,a3,a4] : List Int) : List Int)).bind fun y230=>(flagstonelaw3_ValueOrder.l0 k y227 y230 (y230.length : Int) 0)) else (flagstonelaw3_ValueOrder.j1 k y227)))))) = some r := H
  have A9 := Aside0.mk A90; clear A90; replace H := Option.bind_eq_some_iff.mp H
  obtain ⟨⟨t206,t207,t208,t209,t212⟩,A100,H⟩ := H
  replace H : ((flagstonedraw_Codes_Value.f t203 t212 (wrap64 (2 + t202))).bind fun bt213=>((flagstonedraw_Codes_Value.f t203 bt213.2.2.2.2 (wrap64 (2 + t202))).bind fun bt220=>((some (([(⟨t206,t207,t208,t209⟩ : S31),(⟨bt213.1,bt213.2.1,bt213.2.2.1,bt213.2.2.2.1⟩ : S31),(⟨bt220.1,bt220.2.1,bt220.2.2.1,bt220.2.2.2.1⟩ : S31)] : List (S31)) : List (S31))).bind fun y227=>(if (wrap64 (2 + t202)) = 4 then ((some (([a2,a3,a4] : List Int) : List Int)).bind fun y230=>(flagstonelaw3_ValueOrder.l0 k y227 y230 (y230.length : Int) 0)) else (flagstonelaw3_ValueOrder.j1 k y227))))) = some r := H
  have A10 := Aside0.mk A100; clear A100; replace H := Option.bind_eq_some_iff.mp H
  obtain ⟨⟨t213,t214,t215,t216,t219⟩,A110,H⟩ := H
  replace H : ((flagstonedraw_Codes_Value.f t203 t219 (wrap64 (2 + t202))).bind fun bt220=>((some (([(⟨t206,t207,t208,t209⟩ : S31),(⟨t213,t214,t215,t216⟩ : S31),(⟨bt220.1,bt220.2.1,bt220.2.2.1,bt220.2.2.2.1⟩ : S31)] : List (S31)) : List (S31))).bind fun y227=>(if (wrap64 (2 + t202)) = 4 then ((some (([a2,a3,a4] : List Int) : List Int)).bind fun y230=>(flagstonelaw3_ValueOrder.l0 k y227 y230 (y230.length : Int) 0)) else (flagstonelaw3_ValueOrder.j1 k y227)))) = some r := H
  have A11 := Aside0.mk A110; clear A110; replace H := Option.bind_eq_some_iff.mp H
  obtain ⟨⟨t220,t221,t222,t223,t226⟩,A120,H⟩ := H
  replace H : ((some (([(⟨t206,t207,t208,t209⟩ : S31),(⟨t213,t214,t215,t216⟩ : S31),(⟨t220,t221,t222,t223⟩ : S31)] : List (S31)) : List (S31))).bind fun y227=>(if (wrap64 (2 + t202)) = 4 then ((some (([a2,a3,a4] : List Int) : List Int)).bind fun y230=>(flagstonelaw3_ValueOrder.l0 k y227 y230 (y230.length : Int) 0)) else (flagstonelaw3_ValueOrder.j1 k y227))) = some r := H
  have A12 := Aside0.mk A120; clear A120
  obtain ⟨y227,hy227⟩ : ∃ y_ : List (S31),y_ = (([(⟨t206,t207,t208,t209⟩ : S31),(⟨t213,t214,t215,t216⟩ : S31),(⟨t220,t221,t222,t223⟩ : S31)] : List (S31))):=⟨_,rfl⟩
  replace H : (if (wrap64 (2 + t202)) = 4 then ((some (([a2,a3,a4] : List Int) : List Int)).bind fun y230=>(flagstonelaw3_ValueOrder.l0 k y227 y230 (y230.length : Int) 0)) else (flagstonelaw3_ValueOrder.j1 k y227)) = some r := by first|(rw [hy227]; with_reducible exact H)|(have H2_:=(Option.bind_some _ _).symm.trans H; rw [hy227]; with_reducible exact H2_)|(have H2_:=(Option.bind_some _ _).symm.trans H; with_reducible exact H2_)|with_reducible exact H|(rw [hy227]; exact H)|exact H
  have Ny227 := Aside0.mk hy227; clear hy227; have HC13 := Aside0.mk H; clear H
  go_enter Tryd.func4,Tryd.ntmps4
  go_upto_if 41 with (first|((with_reducible refine gate_callee (f := 6) rfl ?_); refine goesL_ (some 23) rfl rfl Tryd.func6 (by kernel_rfl) rfl #[] rfl (by (try simp only [List.map_toArray,List.map_cons,List.map_nil]); first|done|rfl|(simp only [List.length_drop,List.length_take]; rfl)) ?_;(with_reducible refine (flagstonelaw3_awake.calls k  true _ ?side1 A6.out).mono ?_);(case side1=>exact GL.below HGL.out (by repeat (first|(with_reducible first|exact HB.out|apply zE|apply zB|apply zC)|exact HB.out))); rintro e w14 ⟨rfl,hb⟩; refine ⟨_,rfl,?_⟩; have n0_ := Aside0.mk (below_step (by repeat (first|(with_reducible first|exact HB.out|apply zE|apply zB|apply zC)|exact HB.out)) hb); clear HB; have HB := n0_; clear n0_;(try clear hb);(try clear hb2);(try clear hk);(try clear hi);(try clear hge))|((with_reducible refine gate_callee (f := 7) rfl ?_); refine goesL_ (some 26) rfl rfl Tryd.func7 (by kernel_rfl) rfl #[.int .i64 a0,.int .i64 3] rfl (by (try simp only [List.map_toArray,List.map_cons,List.map_nil]); first|done|rfl|(simp only [List.length_drop,List.length_take]; rfl)) ?_;(with_reducible refine (flagstonedraw_Mod.calls a0 3 t202 _ A8.out).mono ?_); rintro e w' ⟨rfl,⟨nd,rfl⟩⟩; refine ⟨_,rfl,?_⟩)|((with_reducible refine gate_callee (f := 11) rfl ?_); refine goesL_ (some 29) rfl rfl Tryd.func11 (by kernel_rfl) rfl #[.slice A1 l1.length c1,.int .i64 20] rfl (by (try simp only [List.map_toArray,List.map_cons,List.map_nil]); first|done|rfl|(simp only [List.length_drop,List.length_take]; rfl)) ?_;(with_reducible refine (flagstonedraw_New.calls _ _ l1 20 t203 t204 w _ ?side1 ?side2 ?side3 A9.out).mono ?_);(case side1=>repeat (first|(with_reducible first|exact HB.out|apply zE|apply zB|apply zC)|exact HB.out));(case side2=>exact HR1.out);(case side3=>exact HC1.out); rintro e w15 ⟨g205,rfl,hi,hb,hb2,hge⟩; refine ⟨_,rfl,?_⟩; have n0_ := Aside0.mk (hb); have n1_ := Aside0.mk (hi); clear HB; have HB := n0_; have HI205 := n1_; clear n0_ n1_;(try clear hb);(try clear hb2);(try clear hk);(try clear hi);(try clear hge))|((with_reducible refine gate_callee (f := 12) rfl ?_); refine goesL_ (some 32) rfl rfl Tryd.func12 (by kernel_rfl) rfl #[.pointer (some ⟨g205,0,none⟩),.int .i64 (wrap64 (2 + t202))] rfl (by (try simp only [List.map_toArray,List.map_cons,List.map_nil]); first|done|rfl|(simp only [List.length_drop,List.length_take]; rfl)) ?_;(with_reducible refine (flagstonedraw_Codes_Value.calls g205 t203 t204 (wrap64 (2 + t202)) t206 t207 t208 t209 t212 w _ ?side1 ?side2 ?side3 A10.out).mono ?_);(case side1=>repeat (first|(with_reducible first|exact HI205.out|apply IsS54.alloc|apply IsS54.drewN|apply IsS54.drew|apply IsS54.set_1)|exact HI205.out));(case side2=>repeat (first|(with_reducible first|exact HB.out|apply zE|apply zB|apply zC|refine zJ ?_ (IsS54.ge HI205.out))|exact HB.out));(case side3=>exact HGL.out); rintro e w16 ⟨v210,rfl,ho0,hi,hb,hk⟩; refine ⟨_,rfl,?_⟩; have n0_ := Aside0.mk (Kd.R_lower ho0 (below_size (by repeat (first|(with_reducible first|exact HB.out|apply zE|apply zB|apply zC|refine zJ ?_ (IsS54.ge HI205.out))|exact HB.out)))); have n1_ := Aside0.mk (hb); have n2_ := Aside0.mk (hi); clear HB HI205; have HO211 := n0_; have HB := n1_; have HI205 := n2_; clear n0_ n1_ n2_;(try clear hb);(try clear hb2);(try clear hk);(try clear hi);(try clear hge);(try clear ho0))|((with_reducible refine gate_callee (f := 12) rfl ?_); refine goesL_ (some 35) rfl rfl Tryd.func12 (by kernel_rfl) rfl #[.pointer (some ⟨g205,0,none⟩),.int .i64 (wrap64 (2 + t202))] rfl (by (try simp only [List.map_toArray,List.map_cons,List.map_nil]); first|done|rfl|(simp only [List.length_drop,List.length_take]; rfl)) ?_;(with_reducible refine (flagstonedraw_Codes_Value.calls g205 t203 t212 (wrap64 (2 + t202)) t213 t214 t215 t216 t219 w _ ?side1 ?side2 ?side3 A11.out).mono ?_);(case side1=>repeat (first|(with_reducible first|exact HI205.out|apply IsS54.alloc|apply IsS54.drewN|apply IsS54.drew|apply IsS54.set_1)|exact HI205.out));(case side2=>repeat (first|(with_reducible first|exact HB.out|apply zE|apply zB|apply zC|refine zJ ?_ (IsS54.ge HI205.out))|exact HB.out));(case side3=>exact HGL.out); rintro e w17 ⟨v217,rfl,ho0,hi,hb,hk⟩; refine ⟨_,rfl,?_⟩; have n0_ := Aside0.mk (Kd.R_mono (Kd.R_told (Kd.R_oldK (IsS54.apart (show IsS54 w _ g205 t203 t212 from by repeat (first|(with_reducible first|exact HI205.out|apply IsS54.alloc|apply IsS54.drewN|apply IsS54.drew|apply IsS54.set_1)|exact HI205.out)) (by (with_reducible repeat (first|apply Kd.R_alloc|apply Kd.R_drewN|apply Kd.R_drew)); exact HO211.out) (by decide)) hk) (Kd.R_base ho0)) (fun _ h_=>h_.1)); have n1_ := Aside0.mk (Kd.R_lower (Kd.R_new' ho0 (Kd.R_lt (by (with_reducible repeat (first|apply Kd.R_alloc|apply Kd.R_drewN|apply Kd.R_drew)); exact HO211.out))) (below_size (by repeat (first|(with_reducible first|exact HB.out|apply zE|apply zB|apply zC|refine zJ ?_ (IsS54.ge HI205.out))|exact HB.out)))); have n2_ := Aside0.mk (hb); have n3_ := Aside0.mk (hi); clear HO211 HB HI205; have HO211 := n0_; have HO218 := n1_; have HB := n2_; have HI205 := n3_; clear n0_ n1_ n2_ n3_;(try clear hb);(try clear hb2);(try clear hk);(try clear hi);(try clear hge);(try clear ho0))|((with_reducible refine gate_callee (f := 12) rfl ?_); refine goesL_ (some 38) rfl rfl Tryd.func12 (by kernel_rfl) rfl #[.pointer (some ⟨g205,0,none⟩),.int .i64 (wrap64 (2 + t202))] rfl (by (try simp only [List.map_toArray,List.map_cons,List.map_nil]); first|done|rfl|(simp only [List.length_drop,List.length_take]; rfl)) ?_;(with_reducible refine (flagstonedraw_Codes_Value.calls g205 t203 t219 (wrap64 (2 + t202)) t220 t221 t222 t223 t226 w _ ?side1 ?side2 ?side3 A12.out).mono ?_);(case side1=>repeat (first|(with_reducible first|exact HI205.out|apply IsS54.alloc|apply IsS54.drewN|apply IsS54.drew|apply IsS54.set_1)|exact HI205.out));(case side2=>repeat (first|(with_reducible first|exact HB.out|apply zE|apply zB|apply zC|refine zJ ?_ (IsS54.ge HI205.out))|exact HB.out));(case side3=>exact HGL.out); rintro e w18 ⟨v224,rfl,ho0,hi,hb,hk⟩; refine ⟨_,rfl,?_⟩; have n0_ := Aside0.mk (Kd.R_mono (Kd.R_told (Kd.R_oldK (IsS54.apart (show IsS54 w _ g205 t203 t219 from by repeat (first|(with_reducible first|exact HI205.out|apply IsS54.alloc|apply IsS54.drewN|apply IsS54.drew|apply IsS54.set_1)|exact HI205.out)) (by (with_reducible repeat (first|apply Kd.R_alloc|apply Kd.R_drewN|apply Kd.R_drew)); exact HO211.out) (by decide)) hk) (Kd.R_base ho0)) (fun _ h_=>h_.1)); have n1_ := Aside0.mk (Kd.R_mono (Kd.R_told (Kd.R_oldK (IsS54.apart (show IsS54 w _ g205 t203 t219 from by repeat (first|(with_reducible first|exact HI205.out|apply IsS54.alloc|apply IsS54.drewN|apply IsS54.drew|apply IsS54.set_1)|exact HI205.out)) (by (with_reducible repeat (first|apply Kd.R_alloc|apply Kd.R_drewN|apply Kd.R_drew)); exact HO218.out) (by decide)) hk) (Kd.R_base ho0)) (fun _ h_=>h_.1)); have n2_ := Aside0.mk (Kd.R_lower (Kd.R_new' (Kd.R_new' ho0 (Kd.R_lt (by (with_reducible repeat (first|apply Kd.R_alloc|apply Kd.R_drewN|apply Kd.R_drew)); exact HO211.out))) (Kd.R_lt (by (with_reducible repeat (first|apply Kd.R_alloc|apply Kd.R_drewN|apply Kd.R_drew)); exact HO218.out))) (below_size (by repeat (first|(with_reducible first|exact HB.out|apply zE|apply zB|apply zC|refine zJ ?_ (IsS54.ge HI205.out))|exact HB.out)))); have n3_ := Aside0.mk (hb); have n4_ := Aside0.mk (hi); clear HO211 HO218 HB HI205; have HO211 := n0_; have HO218 := n1_; have HO225 := n2_; have HB := n3_; have HI205 := n4_; clear n0_ n1_ n2_ n3_ n4_;(try clear hb);(try clear hb2);(try clear hk);(try clear hi);(try clear hge);(try clear ho0); obtain ⟨Ao19,co19,eo19⟩ := Kd.R_slice HO211.out; subst eo19; obtain ⟨Ao20,co20,eo20⟩ := Kd.R_slice HO218.out; subst eo20; obtain ⟨Ao21,co21,eo21⟩ := Kd.R_slice HO225.out; subst eo21)|((with_reducible refine gate_dst (N := 39) rfl ?_); refine Kd.N_lit k31 _ 31 ?hg (N' := 39) ?hd (xs:=([(⟨t206,t207,t208,t209⟩ : S31),(⟨t213,t214,t215,t216⟩ : S31),(⟨t220,t221,t222,t223⟩ : S31)] : List (S31))) (inner := [.int .i64 t206,.int .i64 t207,.string t208,.slice Ao19 t209.length co19,.int .i64 t213,.int .i64 t214,.string t215,.slice Ao20 t216.length co20,.int .i64 t220,.int .i64 t221,.string t222,.slice Ao21 t223.length co21]) (ok:=(fun k_=>k_ ≠ g205)) (okp:=(fun k_=>k_ ≠ g205)) ?hr ?hp (fun _ hk=>hk) ((show ∀ k_,w18.heap.size ≤ k_ → (fun k_=>k_ ≠ g205) k_ from fun k_ hk=>IsS54.fresh (by repeat (first|(with_reducible first|exact HI205.out|apply IsS54.alloc|apply IsS54.drewN|apply IsS54.drew|apply IsS54.set_1)|exact HI205.out)) k_ hk) _ (Nat.le_refl _)) (Below.refl _ _) (Nat.le_refl _) (by simp) ?_;(case hd=>rfl);(case hg=>rfl);(case hr=>first|(go_simp; done)|(go_simp; rfl));(case hp=>exact (Reps.c4 (show Kd.FK k31 _ _ (⟨t206,t207,t208,t209⟩ : S31) [.int .i64 t206,.int .i64 t207,.string t208,.slice Ao19 t209.length co19] from (k31_mkF _ _ (⟨t206,t207,t208,t209⟩ : S31) (Kd.R_reads' (Kd.R_mono (ok':=(fun k_=>k_ ≠ g205)) (IsS54.apart HI205.out (HO211.out) (by decide)) (fun k_ hk=>hk.2))).2.1 (Kd.R_F (Kd.R_mono (ok':=(fun k_=>k_ ≠ g205)) (IsS54.apart HI205.out (HO211.out) (by decide)) (fun k_ hk=>hk.2))))) (Reps.c4 (show Kd.FK k31 _ _ (⟨t213,t214,t215,t216⟩ : S31) [.int .i64 t213,.int .i64 t214,.string t215,.slice Ao20 t216.length co20] from (k31_mkF _ _ (⟨t213,t214,t215,t216⟩ : S31) (Kd.R_reads' (Kd.R_mono (ok':=(fun k_=>k_ ≠ g205)) (IsS54.apart HI205.out (HO218.out) (by decide)) (fun k_ hk=>hk.2))).2.1 (Kd.R_F (Kd.R_mono (ok':=(fun k_=>k_ ≠ g205)) (IsS54.apart HI205.out (HO218.out) (by decide)) (fun k_ hk=>hk.2))))) (Reps.c4 (show Kd.FK k31 _ _ (⟨t220,t221,t222,t223⟩ : S31) [.int .i64 t220,.int .i64 t221,.string t222,.slice Ao21 t223.length co21] from (k31_mkF _ _ (⟨t220,t221,t222,t223⟩ : S31) (Kd.R_reads' (Kd.R_mono (ok':=(fun k_=>k_ ≠ g205)) (IsS54.apart HI205.out (HO225.out) (by decide)) (fun k_ hk=>hk.2))).2.1 (Kd.R_F (Kd.R_mono (ok':=(fun k_=>k_ ≠ g205)) (IsS54.apart HI205.out (HO225.out) (by decide)) (fun k_ hk=>hk.2))))) (Reps.none _ _))))); intro v228 w22 ho23 hb hg_ hnew_; clear hg_ hnew_;(first|rw [← Ny227.out] at ho23|(simp only [Int.reduceToNat] at ho23; rw [← Ny227.out] at ho23)); have n0_ := Aside0.mk (Kd.N_lower ho23 (below_size (by repeat (first|(with_reducible first|exact HB.out|apply zE|apply zB|apply zC|refine zJ ?_ (IsS54.ge HI205.out))|exact HB.out)))); have n1_ := Aside0.mk (IsS54.below (by repeat (first|(with_reducible first|exact HI205.out|apply IsS54.alloc|apply IsS54.drewN|apply IsS54.drew|apply IsS54.set_1)|exact HI205.out)) hb); have n2_ := Aside0.mk (below_step (by repeat (first|(with_reducible first|exact HB.out|apply zE|apply zB|apply zC|refine zJ ?_ (IsS54.ge HI205.out))|exact HB.out)) hb); clear HI205 HB HO211 HO218 HO225; have HO229 := n0_; have HI205 := n1_; have HB := n2_; clear n0_ n1_ n2_ hb ho23))
  (try simp only [Act.put,List.setIfInBounds_toArray,List.set_cons_zero,List.set_cons_succ])
  go_cut [] (fun wc=>∃ (kq : Nat) (x12_12 : List (S31)),Aside0 (flagstonelaw3_ValueOrder.j1 kq x12_12 = some r) ∧ Aside0 (kq ≤ k) ∧ Aside0 (Kd.N k31 31 wc w.heap.size (fun _=>True) v228 x12_12) ∧ Aside0 (Below w.heap.size w wc))
  case first =>
   have H := HC13.out; clear HC13
   by_cases c24 : (wrap64 (2 + t202)) = 4
   ·rw [if_pos c24] at H
    have c24b0 : ((wrap64 (2 + t202)) == 4) = true := beq_iff_eq.mpr c24
    have c24b1 : ((wrap64 (2 + t202)) != 4) = false := bne_eq_false_iff_eq.mpr c24
    clear c24
    (first|rw [c24b0]|(simp only [i64_w,i32_w]; rw [c24b0])|skip)
    obtain ⟨y230,hy230⟩ : ∃ y_ : List Int,y_ = (([a2,a3,a4] : List Int)):=⟨_,rfl⟩
    replace H : (flagstonelaw3_ValueOrder.l0 k y227 y230 (y230.length : Int) 0) = some r := by first|(rw [hy230]; with_reducible exact H)|(have H2_:=(Option.bind_some _ _).symm.trans H; rw [hy230]; with_reducible exact H2_)|(have H2_:=(Option.bind_some _ _).symm.trans H; with_reducible exact H2_)|with_reducible exact H|(rw [hy230]; exact H)|exact H
    have Ny230 := Aside0.mk hy230; clear hy230; have H' := Aside0.mk H; clear H
    go_wp2_with (first|((with_reducible refine gate_dst (N := 45) rfl ?_); refine Kd.R_lit (Kd.int .i64) _ 3 ?hg (N := 45) ?hd (xs:=([a2,a3,a4] : List Int)) (inner := [.int .i64 a2,.int .i64 a3,.int .i64 a4]) (ok := fun _=>True) (okp := fun _=>True) ?hr ?hp (fun _ hk=>hk) trivial (Below.refl _ _) (Nat.le_refl _) (by simp) ?_;(case hd=>rfl);(case hg=>rfl);(case hr=>first|(go_simp; done)|(go_simp; rfl));(case hp=>exact (Reps.one (show Kd.M (Kd.int .i64) _ _ _ a2 [.int .i64 a2] from rfl) (Reps.one (show Kd.M (Kd.int .i64) _ _ _ a3 [.int .i64 a3] from rfl) (Reps.one (show Kd.M (Kd.int .i64) _ _ _ a4 [.int .i64 a4] from rfl) (Reps.none _ _))))); intro v231 w25 ho26 hb hg_ hnew_; clear hg_ hnew_;(first|rw [← Ny230.out] at ho26|(simp only [Int.reduceToNat] at ho26; rw [← Ny230.out] at ho26)); have n0_ := Aside0.mk (Kd.N_elder' (by (with_reducible repeat (first|apply Kd.N_alloc|apply Kd.N_drewN|apply Kd.N_drew)); exact HO229.out) (Kd.R_base ho26) hb); have n1_ := Aside0.mk (Kd.R_lower ho26 (below_size (by repeat (first|(with_reducible first|exact HB.out|apply zE|apply zB|apply zC|refine zJ ?_ (IsS54.ge HI205.out))|exact HB.out)))); have n2_ := Aside0.mk (IsS54.below (by repeat (first|(with_reducible first|exact HI205.out|apply IsS54.alloc|apply IsS54.drewN|apply IsS54.drew|apply IsS54.set_1)|exact HI205.out)) hb); have n3_ := Aside0.mk (below_step (by repeat (first|(with_reducible first|exact HB.out|apply zE|apply zB|apply zC|refine zJ ?_ (IsS54.ge HI205.out))|exact HB.out)) hb); clear HO229 HI205 HB; have HO229 := n0_; have HO232 := n1_; have HI205 := n2_; have HB := n3_; clear n0_ n1_ n2_ n3_ hb ho26; obtain ⟨Ao27,co27,eo27⟩ := Kd.R_slice HO232.out; subst eo27))
    go_loopg [47] k (fun kq v47 w'=>∃ (x12_1 : List (S31)) (x47_1 : Int),v47 = .int .i64 x47_1 ∧ Aside0 (flagstonelaw3_ValueOrder.l0 kq x12_1 y230 (y230.length : Int) x47_1 = some r) ∧ Aside0 (kq ≤ k) ∧ Aside0 (Kd.N k31 31 w' w.heap.size (fun k_=>some k_ ≠ ((.slice Ao27 y230.length co27) : Value).ownBlock) v228 x12_1) ∧ Aside0 (Kd.R (Kd.int .i64) 3 w' w.heap.size (fun _=>True) (.slice Ao27 y230.length co27) y230) ∧ Aside0 (Below w.heap.size w w'))
    case atStart=>exact ⟨(y227),(0),(by first|rfl|(simp; done)|(simp [*]; done)),H',⟨Nat.le_refl _⟩,⟨by (with_reducible repeat (first|apply Kd.N_alloc|apply Kd.N_drewN|apply Kd.N_drew)); exact Kd.N_mono HO229.out (fun _ hk=>hk.2)⟩,⟨by (with_reducible repeat (first|apply Kd.R_alloc|apply Kd.R_drewN|apply Kd.R_drew)); exact HO232.out⟩,⟨by repeat (first|(with_reducible first|exact HB.out|apply zE|apply zB|apply zC|refine zJ ?_ (IsS54.ge HI205.out))|exact HB.out)⟩⟩
    case round =>
     clear H';(try clear c1);(try clear c2);(try clear p2);(try clear c4);(try clear c6);(try clear p6);(try clear c7);(try clear c11);(try clear c12);(try clear c24);(try clear c24b0);(try clear c24b1)
     obtain ⟨x12_1,x47_1,rfl,HA,HK1,HO_12,HO_45,HB⟩ := hrel
     cases gk with
     | zero=>exact absurd HA.out (by simp [flagstonelaw3_ValueOrder.l0])
     | succ k1 =>
      have H := HA.out; clear HA
      simp only [flagstonelaw3_ValueOrder.l0] at H
      by_cases c28 : x47_1 < (y230.length : Int)
      ·rw [if_pos c28] at H
       have c28b0 : decide (x47_1 < (y230.length : Int)) = true := decide_eq_true c28
       clear c28
       by_cases c29 : 0 ≤ x47_1
       ·rw [if_pos c29] at H
        have c29b0 : decide (0 ≤ x47_1) = true := decide_eq_true c29
        clear c29
        by_cases c30 : x47_1 < (y230.length : Int)
        ·rw [if_pos c30] at H
         have c30b0 : decide (x47_1 < (y230.length : Int)) = true := decide_eq_true c30
         clear c30; replace H := Option.bind_eq_some_iff.mp H; obtain ⟨t234,A310,H⟩ := H
         replace H : ((flagstoneref1_Number.f (Int.tmod t234 12)).bind fun t235=>(if t235.size + 1 ≤ 9223372036854775807 then ((flagstoneref1_Number.f (Int.tmod (wrap64 (Int.tdiv t234 12)) 11)).bind fun t236=>(if (t235 ++ (⟨#[46]⟩ : ByteArray)).size + t236.size ≤ 9223372036854775807 then (if ((t235 ++ (⟨#[46]⟩ : ByteArray)) ++ t236).size + 1 ≤ 9223372036854775807 then ((flagstoneref1_Number.f t234).bind fun t237=>(if (((t235 ++ (⟨#[46]⟩ : ByteArray)) ++ t236) ++ (⟨#[46]⟩ : ByteArray)).size + t237.size ≤ 9223372036854775807 then (if x47_1 < (x12_1.length : Int) then (flagstonelaw3_ValueOrder.l0 k1 (x12_1.set (x47_1 : Int).toNat (⟨(rd_T31 x12_1 x47_1).f0,(rd_T31 x12_1 x47_1).f1,(((t235 ++ (⟨#[46]⟩ : ByteArray)) ++ t236) ++ (⟨#[46]⟩ : ByteArray)) ++ t237,(rd_T31 x12_1 x47_1).f3⟩ : S31)) y230 (y230.length : Int) (wrap64 (x47_1 + 1))) else (none)) else (none))) else (none)) else (none))) else (none))) = some r := H
         have A31 := Aside0.mk A310; clear A310; replace H := Option.bind_eq_some_iff.mp H; obtain ⟨t235,A320,H⟩ := H
         replace H : (if t235.size + 1 ≤ 9223372036854775807 then ((flagstoneref1_Number.f (Int.tmod (wrap64 (Int.tdiv t234 12)) 11)).bind fun t236=>(if (t235 ++ (⟨#[46]⟩ : ByteArray)).size + t236.size ≤ 9223372036854775807 then (if ((t235 ++ (⟨#[46]⟩ : ByteArray)) ++ t236).size + 1 ≤ 9223372036854775807 then ((flagstoneref1_Number.f t234).bind fun t237=>(if (((t235 ++ (⟨#[46]⟩ : ByteArray)) ++ t236) ++ (⟨#[46]⟩ : ByteArray)).size + t237.size ≤ 9223372036854775807 then (if x47_1 < (x12_1.length : Int) then (flagstonelaw3_ValueOrder.l0 k1 (x12_1.set (x47_1 : Int).toNat (⟨(rd_T31 x12_1 x47_1).f0,(rd_T31 x12_1 x47_1).f1,(((t235 ++ (⟨#[46]⟩ : ByteArray)) ++ t236) ++ (⟨#[46]⟩ : ByteArray)) ++ t237,(rd_T31 x12_1 x47_1).f3⟩ : S31)) y230 (y230.length : Int) (wrap64 (x47_1 + 1))) else (none)) else (none))) else (none)) else (none))) else (none)) = some r := H
         have A32 := Aside0.mk A320; clear A320
         by_cases c33 : t235.size + 1 ≤ 9223372036854775807
         ·rw [if_pos c33] at H
          have c33b0 := eq_true c33
          have c33b1 : decide (t235.size + 1 ≤ 9223372036854775807) = true := decide_eq_true c33
          try have c33b2 : (9223372036854775807 < t235.size + 1) = False := eq_false (Nat.not_lt.2 c33)
          replace H := Option.bind_eq_some_iff.mp H; obtain ⟨t236,A340,H⟩ := H
          replace H : (if (t235 ++ (⟨#[46]⟩ : ByteArray)).size + t236.size ≤ 9223372036854775807 then (if ((t235 ++ (⟨#[46]⟩ : ByteArray)) ++ t236).size + 1 ≤ 9223372036854775807 then ((flagstoneref1_Number.f t234).bind fun t237=>(if (((t235 ++ (⟨#[46]⟩ : ByteArray)) ++ t236) ++ (⟨#[46]⟩ : ByteArray)).size + t237.size ≤ 9223372036854775807 then (if x47_1 < (x12_1.length : Int) then (flagstonelaw3_ValueOrder.l0 k1 (x12_1.set (x47_1 : Int).toNat (⟨(rd_T31 x12_1 x47_1).f0,(rd_T31 x12_1 x47_1).f1,(((t235 ++ (⟨#[46]⟩ : ByteArray)) ++ t236) ++ (⟨#[46]⟩ : ByteArray)) ++ t237,(rd_T31 x12_1 x47_1).f3⟩ : S31)) y230 (y230.length : Int) (wrap64 (x47_1 + 1))) else (none)) else (none))) else (none)) else (none)) = some r := H
          have A34 := Aside0.mk A340; clear A340
          by_cases c35 : (t235 ++ (⟨#[46]⟩ : ByteArray)).size + t236.size ≤ 9223372036854775807
          ·rw [if_pos c35] at H
           have c35b0 := eq_true c35
           have c35b1 : decide ((t235 ++ (⟨#[46]⟩ : ByteArray)).size + t236.size ≤ 9223372036854775807) = true := decide_eq_true c35
           try have c35b2 : (9223372036854775807 < (t235 ++ (⟨#[46]⟩ : ByteArray)).size + t236.size) = False := eq_false (Nat.not_lt.2 c35)
           have c35n : (9223372036854775807 < t235.size + 1 + t236.size) = False := eq_false (Nat.not_lt.2 (by have h_ := c35; simp only [ByteArray.size_append] at h_; exact h_))
           by_cases c36 : ((t235 ++ (⟨#[46]⟩ : ByteArray)) ++ t236).size + 1 ≤ 9223372036854775807
           ·rw [if_pos c36] at H
            have c36b0 := eq_true c36
            have c36b1 : decide (((t235 ++ (⟨#[46]⟩ : ByteArray)) ++ t236).size + 1 ≤ 9223372036854775807) = true := decide_eq_true c36
            try have c36b2 : (9223372036854775807 < ((t235 ++ (⟨#[46]⟩ : ByteArray)) ++ t236).size + 1) = False := eq_false (Nat.not_lt.2 c36)
            have c36n : (9223372036854775807 < t235.size + 1 + t236.size + 1) = False := eq_false (Nat.not_lt.2 (by have h_ := c36; simp only [ByteArray.size_append] at h_; exact h_))
            replace H := Option.bind_eq_some_iff.mp H; obtain ⟨t237,A370,H⟩ := H
            replace H : (if (((t235 ++ (⟨#[46]⟩ : ByteArray)) ++ t236) ++ (⟨#[46]⟩ : ByteArray)).size + t237.size ≤ 9223372036854775807 then (if x47_1 < (x12_1.length : Int) then (flagstonelaw3_ValueOrder.l0 k1 (x12_1.set (x47_1 : Int).toNat (⟨(rd_T31 x12_1 x47_1).f0,(rd_T31 x12_1 x47_1).f1,(((t235 ++ (⟨#[46]⟩ : ByteArray)) ++ t236) ++ (⟨#[46]⟩ : ByteArray)) ++ t237,(rd_T31 x12_1 x47_1).f3⟩ : S31)) y230 (y230.length : Int) (wrap64 (x47_1 + 1))) else (none)) else (none)) = some r := H
            have A37 := Aside0.mk A370; clear A370
            by_cases c38 : (((t235 ++ (⟨#[46]⟩ : ByteArray)) ++ t236) ++ (⟨#[46]⟩ : ByteArray)).size + t237.size ≤ 9223372036854775807
            ·rw [if_pos c38] at H
             have c38b0 := eq_true c38
             have c38b1 : decide ((((t235 ++ (⟨#[46]⟩ : ByteArray)) ++ t236) ++ (⟨#[46]⟩ : ByteArray)).size + t237.size ≤ 9223372036854775807) = true := decide_eq_true c38
             try have c38b2 : (9223372036854775807 < (((t235 ++ (⟨#[46]⟩ : ByteArray)) ++ t236) ++ (⟨#[46]⟩ : ByteArray)).size + t237.size) = False := eq_false (Nat.not_lt.2 c38)
             have c38n : (9223372036854775807 < t235.size + 1 + t236.size + 1 + t237.size) = False := eq_false (Nat.not_lt.2 (by have h_ := c38; simp only [ByteArray.size_append] at h_; exact h_))
             by_cases c39 : x47_1 < (x12_1.length : Int)
             ·rw [if_pos c39] at H
              have c39b0 : decide (x47_1 < (x12_1.length : Int)) = true := decide_eq_true c39
              clear c39
              obtain ⟨y238,hy238⟩ : ∃ y_ : List (S31),y_ = (x12_1.set (x47_1 : Int).toNat (⟨(rd_T31 x12_1 x47_1).f0,(rd_T31 x12_1 x47_1).f1,(((t235 ++ (⟨#[46]⟩ : ByteArray)) ++ t236) ++ (⟨#[46]⟩ : ByteArray)) ++ t237,(rd_T31 x12_1 x47_1).f3⟩ : S31)):=⟨_,rfl⟩
              replace H : (flagstonelaw3_ValueOrder.l0 k1 y238 y230 (y230.length : Int) (wrap64 (x47_1 + 1))) = some r := by first|(rw [hy238]; with_reducible exact H)|(have H2_:=(Option.bind_some _ _).symm.trans H; rw [hy238]; with_reducible exact H2_)|(have H2_:=(Option.bind_some _ _).symm.trans H; with_reducible exact H2_)|with_reducible exact H|(rw [hy238]; exact H)|exact H
              have Ny238 := Aside0.mk hy238; clear hy238; have H' := Aside0.mk H; clear H
              have p233 : 0 ≤ (x47_1 : Int) := of_decide_eq_true (by first|(with_reducible assumption)|assumption)
              have q233 : x47_1 < (y230.length : Int) := of_decide_eq_true (by first|(with_reducible assumption)|assumption)
              (try (obtain ⟨AoX_,coX_,eoX_⟩ := Kd.R_slice HO_45.out; subst eoX_))
              obtain ⟨ad233,e233,hx233_0⟩ := Kd.at_int (Kd.R_reads' HO_45.out).2.2 x47_1 p233 q233
              cases e233
              replace p233 := eq_true p233
              replace q233 := eq_true q233
              go_wp2_with (first|((with_reducible refine gate_callee (f := 7) rfl ?_); refine goesL_ (some 53) rfl rfl Tryd.func7 (by kernel_rfl) rfl #[.int .i64 (rd y230 x47_1),.int .i64 1000000] rfl (by (try simp only [List.map_toArray,List.map_cons,List.map_nil]); first|done|rfl|(simp only [List.length_drop,List.length_take]; rfl)) ?_;(with_reducible refine (flagstonedraw_Mod.calls (rd y230 x47_1) 1000000 t234 _ A31.out).mono ?_); rintro e w' ⟨rfl,⟨nd,rfl⟩⟩; refine ⟨_,rfl,?_⟩;(try (rw [drewN_self wr]; generalize hq_ : World.drewN wr _ = wr; have n0_ : Aside0 (Kd.N k31 31 wr w.heap.size (fun k_=>some k_ ≠ (.slice (some ad233) y230.length co27 : Value).ownBlock) v228 x12_1):=⟨by rw [← hq_]; exact (by (with_reducible repeat (first|apply Kd.N_alloc|apply Kd.N_drewN|apply Kd.N_drew)); exact HO_12.out)⟩; have n1_ : Aside0 (Kd.R (Kd.int .i64) 3 wr w.heap.size (fun _=>True) (.slice (some ad233) y230.length co27) y230):=⟨by rw [← hq_]; exact (by (with_reducible repeat (first|apply Kd.R_alloc|apply Kd.R_drewN|apply Kd.R_drew)); exact HO_45.out)⟩; have n2_ : Aside0 (Below w.heap.size w wr):=⟨by rw [← hq_]; exact (by repeat (first|(with_reducible first|exact HB.out|apply zE|apply zB|apply zC)|exact HB.out))⟩; clear HO_12 HO_45 HB hq_; have HO_12 := n0_; have HO_45 := n1_; have HB := n2_; clear n0_ n1_ n2_)))|((with_reducible refine gate_callee (f := 8) rfl ?_); refine goesL_ (some 58) rfl rfl Tryd.func8 (by kernel_rfl) rfl #[.int .i64 (Int.tmod t234 12)] rfl (by (try simp only [List.map_toArray,List.map_cons,List.map_nil]); first|done|rfl|(simp only [List.length_drop,List.length_take]; rfl)) ?_;(with_reducible refine (flagstoneref1_Number.calls (Int.tmod t234 12) t235 _ A32.out).mono ?_); rintro e w' ⟨rfl,⟨nd,rfl⟩⟩; refine ⟨_,rfl,?_⟩;(try (rw [drewN_self wr]; generalize hq_ : World.drewN wr _ = wr; have n0_ : Aside0 (Kd.N k31 31 wr w.heap.size (fun k_=>some k_ ≠ (.slice (some ad233) y230.length co27 : Value).ownBlock) v228 x12_1):=⟨by rw [← hq_]; exact (by (with_reducible repeat (first|apply Kd.N_alloc|apply Kd.N_drewN|apply Kd.N_drew)); exact HO_12.out)⟩; have n1_ : Aside0 (Kd.R (Kd.int .i64) 3 wr w.heap.size (fun _=>True) (.slice (some ad233) y230.length co27) y230):=⟨by rw [← hq_]; exact (by (with_reducible repeat (first|apply Kd.R_alloc|apply Kd.R_drewN|apply Kd.R_drew)); exact HO_45.out)⟩; have n2_ : Aside0 (Below w.heap.size w wr):=⟨by rw [← hq_]; exact (by repeat (first|(with_reducible first|exact HB.out|apply zE|apply zB|apply zC)|exact HB.out))⟩; clear HO_12 HO_45 HB hq_; have HO_12 := n0_; have HO_45 := n1_; have HB := n2_; clear n0_ n1_ n2_)))|((with_reducible refine gate_callee (f := 8) rfl ?_); refine goesL_ (some 63) rfl rfl Tryd.func8 (by kernel_rfl) rfl #[.int .i64 (Int.tmod (wrap64 (Int.tdiv t234 12)) 11)] rfl (by (try simp only [List.map_toArray,List.map_cons,List.map_nil]); first|done|rfl|(simp only [List.length_drop,List.length_take]; rfl)) ?_;(with_reducible refine (flagstoneref1_Number.calls (Int.tmod (wrap64 (Int.tdiv t234 12)) 11) t236 _ A34.out).mono ?_); rintro e w' ⟨rfl,⟨nd,rfl⟩⟩; refine ⟨_,rfl,?_⟩;(try (rw [drewN_self wr]; generalize hq_ : World.drewN wr _ = wr; have n0_ : Aside0 (Kd.N k31 31 wr w.heap.size (fun k_=>some k_ ≠ (.slice (some ad233) y230.length co27 : Value).ownBlock) v228 x12_1):=⟨by rw [← hq_]; exact (by (with_reducible repeat (first|apply Kd.N_alloc|apply Kd.N_drewN|apply Kd.N_drew)); exact HO_12.out)⟩; have n1_ : Aside0 (Kd.R (Kd.int .i64) 3 wr w.heap.size (fun _=>True) (.slice (some ad233) y230.length co27) y230):=⟨by rw [← hq_]; exact (by (with_reducible repeat (first|apply Kd.R_alloc|apply Kd.R_drewN|apply Kd.R_drew)); exact HO_45.out)⟩; have n2_ : Aside0 (Below w.heap.size w wr):=⟨by rw [← hq_]; exact (by repeat (first|(with_reducible first|exact HB.out|apply zE|apply zB|apply zC)|exact HB.out))⟩; clear HO_12 HO_45 HB hq_; have HO_12 := n0_; have HO_45 := n1_; have HB := n2_; clear n0_ n1_ n2_)))|((with_reducible refine gate_callee (f := 8) rfl ?_); refine goesL_ (some 67) rfl rfl Tryd.func8 (by kernel_rfl) rfl #[.int .i64 t234] rfl (by (try simp only [List.map_toArray,List.map_cons,List.map_nil]); first|done|rfl|(simp only [List.length_drop,List.length_take]; rfl)) ?_;(with_reducible refine (flagstoneref1_Number.calls t234 t237 _ A37.out).mono ?_); rintro e w' ⟨rfl,⟨nd,rfl⟩⟩; refine ⟨_,rfl,?_⟩;(try (rw [drewN_self wr]; generalize hq_ : World.drewN wr _ = wr; have n0_ : Aside0 (Kd.N k31 31 wr w.heap.size (fun k_=>some k_ ≠ (.slice (some ad233) y230.length co27 : Value).ownBlock) v228 x12_1):=⟨by rw [← hq_]; exact (by (with_reducible repeat (first|apply Kd.N_alloc|apply Kd.N_drewN|apply Kd.N_drew)); exact HO_12.out)⟩; have n1_ : Aside0 (Kd.R (Kd.int .i64) 3 wr w.heap.size (fun _=>True) (.slice (some ad233) y230.length co27) y230):=⟨by rw [← hq_]; exact (by (with_reducible repeat (first|apply Kd.R_alloc|apply Kd.R_drewN|apply Kd.R_drew)); exact HO_45.out)⟩; have n2_ : Aside0 (Below w.heap.size w wr):=⟨by rw [← hq_]; exact (by repeat (first|(with_reducible first|exact HB.out|apply zE|apply zB|apply zC)|exact HB.out))⟩; clear HO_12 HO_45 HB hq_; have HO_12 := n0_; have HO_45 := n1_; have HB := n2_; clear n0_ n1_ n2_)); have p40 : 0 ≤ (x47_1 : Int) := of_decide_eq_true (by first|(with_reducible assumption)|assumption); have q40 : (x47_1 : Int) < ((x12_1.length : Int) : Int) := of_decide_eq_true (by first|(with_reducible assumption)|assumption); obtain ⟨go40,co40,eo40,gb40,gl40,cl40,HG40⟩ := Kd.N_form HO_12.out (by omega);(first|cases eo40|(injection eo40 with ea_ en_ ec_;(first|subst ea_|(injection ea_ with ea_; subst ea_)); subst ec_; clear en_)); have GB40 := Aside0.mk gb40; have GG40 := Aside0.mk HG40; clear gb40 gl40 HG40; obtain ⟨ce40,hcl40,hM40,hcc40,hfr40⟩ := Kd.N_elem HO_12.out z31 (x47_1 : Int) p40 q40; obtain ⟨ua40_3,uc40_3,rfl,ul40_3,ge40_3⟩ := k31_openF hM40; have hx40_0 : wr.cell? ⟨go40,(x47_1 : Int).toNat * 4,none⟩ = some (.int .i64 ((rd_T31 x12_1 x47_1).f0)) := hcc40 0 _ rfl; have hx40_1 : wr.cell? ⟨go40,(x47_1 : Int).toNat * 4 + 1,none⟩ = some (.int .i64 ((rd_T31 x12_1 x47_1).f1)) := hcc40 1 _ rfl; have hx40_2 : wr.cell? ⟨go40,(x47_1 : Int).toNat * 4 + 2,none⟩ = some (.string ((rd_T31 x12_1 x47_1).f2)) := hcc40 2 _ rfl; have hx40_3 : wr.cell? ⟨go40,(x47_1 : Int).toNat * 4 + 3,none⟩ = some (.slice ua40_3 ((rd_T31 x12_1 x47_1).f3).length uc40_3) := hcc40 3 _ rfl; have hf40_0 : wr.frozen? ⟨go40,(x47_1 : Int).toNat * 4,none⟩ = false := hfr40 0; have hf40_1 : wr.frozen? ⟨go40,(x47_1 : Int).toNat * 4 + 1,none⟩ = false := hfr40 1; have hf40_2 : wr.frozen? ⟨go40,(x47_1 : Int).toNat * 4 + 2,none⟩ = false := hfr40 2; have hf40_3 : wr.frozen? ⟨go40,(x47_1 : Int).toNat * 4 + 3,none⟩ = false := hfr40 3; clear hcl40 hcc40 hfr40 hM40; replace p40 := eq_true p40; replace q40 := eq_true q40; have HX41 := Aside0.mk (show Kd.N k31 31 wr w.heap.size (fun k_=>some k_ ≠ (.slice (some ad233) y230.length co27 : Value).ownBlock) (.slice (some ⟨go40,0,none⟩) x12_1.length co40) x12_1 from (by (with_reducible repeat (first|apply Kd.N_alloc|apply Kd.N_drewN|apply Kd.N_drew)); exact HO_12.out)); obtain ⟨ce41,hcl41,hM41,hcc41,hfr41⟩ := Kd.N_elem HX41.out z31 (x47_1 : Int) (of_decide_eq_true (by first|(with_reducible assumption)|assumption)) (by have h_ : (x47_1 : Int) < ((x12_1.length : Int) : Int) := of_decide_eq_true (by first|(with_reducible assumption)|assumption); first|exact h_|(have e_:=(Kd.N_reads' HO_12.out).1; omega)|simpa using h_); obtain ⟨ua41_3,uc41_3,rfl,ul41_3,ge41_3⟩ := k31_openF hM41; have HP41 := Kd.N_seg HX41.out (x47_1 : Int) (of_decide_eq_true (by first|(with_reducible assumption)|assumption)) (by have h_ : (x47_1 : Int) < ((x12_1.length : Int) : Int) := of_decide_eq_true (by first|(with_reducible assumption)|assumption); first|exact h_|(have e_:=(Kd.N_reads' HO_12.out).1; omega)|simpa using h_) (seg := [.string ((((t235 ++ (⟨#[46]⟩ : ByteArray)) ++ t236) ++ (⟨#[46]⟩ : ByteArray)) ++ t237)]) (j := 2) hcl41 hcc41 (show 3 ≤ 4 from by decide) (x':=(⟨(rd_T31 x12_1 x47_1).f0,(rd_T31 x12_1 x47_1).f1,(((t235 ++ (⟨#[46]⟩ : ByteArray)) ++ t236) ++ (⟨#[46]⟩ : ByteArray)) ++ t237,(rd_T31 x12_1 x47_1).f3⟩ : S31)) (k31_mkF _ _ (⟨(rd_T31 x12_1 x47_1).f0,(rd_T31 x12_1 x47_1).f1,(((t235 ++ (⟨#[46]⟩ : ByteArray)) ++ t236) ++ (⟨#[46]⟩ : ByteArray)) ++ t237,(rd_T31 x12_1 x47_1).f3⟩ : S31) ul41_3 ge41_3) (fun _ hk=>hk); have hx41_2 := hcc41 2 _ rfl;(try simp only [show (k31).sz = 4 from rfl,Nat.mul_one,Nat.add_zero] at hx41_2); have hf41_2 := hfr41 2;(try simp only [show (k31).sz = 4 from rfl,Nat.mul_one,Nat.add_zero] at hf41_2); clear hcl41 hcc41 hfr41 hM41)|((with_reducible refine gate_store (t := 9) (p := 70) rfl ?_); refine store_event (t := 9) (p := 70) (v := ?vo_w42) (w1:=(wr.setCell ⟨go40,(x47_1 : Int).toNat * 4 + 2,none⟩ (.string ((((t235 ++ (⟨#[46]⟩ : ByteArray)) ++ t236) ++ (⟨#[46]⟩ : ByteArray)) ++ t237)))) ?hg ?ho ?hn ?hr ?_;(case ho=>rfl);(case hg=>rfl);(case hn=>rfl);(case hr=>first|(go_simp; done)|(go_simp; rfl)); intro w42 hw; have hg : wr.grownBy w42 (some go40):=(by rw [hw]; exact HP41.2); have hp_ : Kd.N k31 31 w42 w.heap.size (fun k_=>some k_ ≠ (.slice (some ad233) y230.length co27 : Value).ownBlock) (.slice (some ⟨go40,0,none⟩) x12_1.length co40) y238:=(by rw [hw,Ny238.out]; exact HP41.1); clear HP41; have n0_ := Aside0.mk (hp_); have n1_ := Aside0.mk (Kd.R_over' (v:=(.slice (some ⟨go40,0,none⟩) x12_1.length co40)) (by (with_reducible repeat (first|apply Kd.R_alloc|apply Kd.R_drewN|apply Kd.R_drew)); exact HO_45.out) (Kd.N_typed HO_12.out) (by decide) hg); have n2_ := Aside0.mk ((by rw [hw]; exact zJ (HB.out) GB40.out : Below w.heap.size w w42)); clear HO_12 HO_45 HB; have HO_12 := n0_; have HO_45 := n1_; have HB := n2_; clear n0_ n1_ n2_ hg hw hp_))
              go_roundg k1
              case measure=>have := HK1.out; omega
              case rel=>exact ⟨(y238),(wrap64 (x47_1 + 1)),(by first|rfl|(simp; done)|(simp [*]; done)),H',⟨by have := HK1.out; omega⟩,⟨by (with_reducible repeat (first|apply Kd.N_alloc|apply Kd.N_drewN|apply Kd.N_drew)); exact HO_12.out⟩,⟨by (with_reducible repeat (first|apply Kd.R_alloc|apply Kd.R_drewN|apply Kd.R_drew)); exact HO_45.out⟩,⟨by repeat (first|(with_reducible first|exact HB.out|apply zE|apply zB|apply zC)|exact HB.out)⟩⟩
             ·rw [if_neg c39] at H
              exact absurd H (by simp)
            ·rw [if_neg c38] at H
             exact absurd H (by simp)
           ·rw [if_neg c36] at H
            exact absurd H (by simp)
          ·rw [if_neg c35] at H
           exact absurd H (by simp)
         ·rw [if_neg c33] at H
          exact absurd H (by simp)
        ·rw [if_neg c30] at H
         exact absurd H (by simp)
       ·rw [if_neg c29] at H
        exact absurd H (by simp)
      ·rw [if_neg c28] at H
       have c28b0 : decide (x47_1 < (y230.length : Int)) = false := decide_eq_false c28
       clear c28; have H' := Aside0.mk H; clear H
       go_wp2
       go_meet
       case rel=>exact ⟨_,(x12_1),H',⟨by have := HK1.out; first|omega|exact Nat.le_refl _⟩,⟨by (with_reducible repeat (first|apply Kd.N_alloc|apply Kd.N_drewN|apply Kd.N_drew)); exact Kd.N_mono HO_12.out (fun _ hk=>trivial)⟩,⟨by repeat (first|(with_reducible first|exact HB.out|apply zE|apply zB|apply zC)|exact HB.out)⟩⟩
   ·rw [if_neg c24] at H
    have c24b0 : ((wrap64 (2 + t202)) == 4) = false := beq_eq_false_iff_ne.mpr c24
    have c24b1 : ((wrap64 (2 + t202)) != 4) = true := bne_iff_ne.mpr c24
    (first|rw [c24b0]|(simp only [i64_w,i32_w]; rw [c24b0])|skip)
    have H' := Aside0.mk H; clear H
    go_wp2
    go_meet
    case rel=>exact ⟨_,(y227),H',⟨by first|omega|exact Nat.le_refl _⟩,⟨by (with_reducible repeat (first|apply Kd.N_alloc|apply Kd.N_drewN|apply Kd.N_drew)); exact Kd.N_mono HO229.out (fun _ hk=>trivial)⟩,⟨by repeat (first|(with_reducible first|exact HB.out|apply zE|apply zB|apply zC|refine zJ ?_ (IsS54.ge HI205.out))|exact HB.out)⟩⟩
  case rest =>
   clear HC13;(try clear c1);(try clear c2);(try clear p2);(try clear q2);(try clear hx2);(try clear c3);(try clear c4);(try clear p4);(try clear q4);(try clear hx4);(try clear c6);(try clear p6);(try clear c7);(try clear c8);(try clear c11);(try clear c12);(try clear p23);(try clear q23);(try clear hx23);(try clear c24);(try clear c24b0);(try clear c24b1);(try clear c28);(try clear c28b0);(try clear c29);(try clear c29b0);(try clear c30);(try clear c30b0);(try clear c33);(try clear c33b0);(try clear c33b1);(try clear c33b2);(try clear c35);(try clear c35b0);(try clear c35b1);(try clear c35b2);(try clear c36);(try clear c36b0);(try clear c36b1);(try clear c36b2);(try clear c38);(try clear c38b0);(try clear c38b1);(try clear c38b2);(try clear c39);(try clear c39b0);(try clear c40);(try clear p40);(try clear q40);(try clear hx40);(try clear hf40);(try clear c41);(try clear hx41);(try clear hf41);(try clear hx233_0);(try clear hx40_0);(try clear hx40_1);(try clear hx40_2);(try clear hx40_3);(try clear hx41_2);(try clear p2);(try clear p233);(try clear p40);(try clear p6);(try clear q233);(try clear q40)
   obtain ⟨kq,x12_12,HA,HJ12,HO_12,HB⟩ := hcut
   cases kq with
   | zero=>exact absurd HA.out (by simp [flagstonelaw3_ValueOrder.j1])
   | succ kj12 =>
    have H := HA.out; clear HA
    simp only [flagstonelaw3_ValueOrder.j1] at H
    by_cases c43 : 0 < (x12_12.length : Int)
    ·rw [if_pos c43] at H
     have c43b0 : decide (0 < (x12_12.length : Int)) = true := decide_eq_true c43
     have c43b1 : decide (0 < x12_12.length) = true := decide_eq_true (by omega)
     clear c43
     by_cases c44 : 1 < (x12_12.length : Int)
     ·rw [if_pos c44] at H
      have c44b0 : decide (1 < (x12_12.length : Int)) = true := decide_eq_true c44
      have c44b1 : decide (1 < x12_12.length) = true := decide_eq_true (by omega)
      clear c44; replace H := Option.bind_eq_some_iff.mp H
      obtain ⟨⟨t241,t242⟩,A450,H⟩ := H
      replace H : (if 2 < (x12_12.length : Int) then ((value_Compare.f kj12 ((rd_T31 x12_12 1).f0) ((rd_T31 x12_12 1).f1) ((rd_T31 x12_12 1).f2) ((rd_T31 x12_12 1).f3) ((rd_T31 x12_12 2).f0) ((rd_T31 x12_12 2).f1) ((rd_T31 x12_12 2).f2) ((rd_T31 x12_12 2).f3)).bind fun bt245=>((value_Compare.f kj12 ((rd_T31 x12_12 0).f0) ((rd_T31 x12_12 0).f1) ((rd_T31 x12_12 0).f2) ((rd_T31 x12_12 0).f3) ((rd_T31 x12_12 2).f0) ((rd_T31 x12_12 2).f1) ((rd_T31 x12_12 2).f2) ((rd_T31 x12_12 2).f3)).bind fun bt249=>((value_Compare.f kj12 ((rd_T31 x12_12 1).f0) ((rd_T31 x12_12 1).f1) ((rd_T31 x12_12 1).f2) ((rd_T31 x12_12 1).f3) ((rd_T31 x12_12 0).f0) ((rd_T31 x12_12 0).f1) ((rd_T31 x12_12 0).f2) ((rd_T31 x12_12 0).f3)).bind fun bt253=>(if t242 = 0 then (if bt245.2 = 0 then (if bt249.2 = 0 then (if bt253.2 = 0 then (if bt253.1 = (wrap64 (-t241)) then ((value_Equal.f kj12 ((rd_T31 x12_12 0).f0) ((rd_T31 x12_12 0).f1) ((rd_T31 x12_12 0).f2) ((rd_T31 x12_12 0).f3) ((rd_T31 x12_12 1).f0) ((rd_T31 x12_12 1).f1) ((rd_T31 x12_12 1).f2) ((rd_T31 x12_12 1).f3)).bind fun t257=>(if ((t241 == 0) != t257) = true then (some false) else (if t241 ≤ 0 then (if bt245.1 ≤ 0 then (if bt249.1 ≤ 0 then (if bt249.1 < 0 then (some true) else (if t241 = 0 then (some (bt245.1 == 0)) else (some false))) else (some false)) else (some true)) else (some true)))) else (some false)) else (some false)) else (some false)) else (some false)) else (some false))))) else (none)) = some r := H
      have A45 := Aside0.mk A450; clear A450
      by_cases c46 : 2 < (x12_12.length : Int)
      ·rw [if_pos c46] at H
       have c46b0 : decide (2 < (x12_12.length : Int)) = true := decide_eq_true c46
       have c46b1 : decide (2 < x12_12.length) = true := decide_eq_true (by omega)
       clear c46; replace H := Option.bind_eq_some_iff.mp H
       obtain ⟨⟨t245,t246⟩,A470,H⟩ := H
       replace H : ((value_Compare.f kj12 ((rd_T31 x12_12 0).f0) ((rd_T31 x12_12 0).f1) ((rd_T31 x12_12 0).f2) ((rd_T31 x12_12 0).f3) ((rd_T31 x12_12 2).f0) ((rd_T31 x12_12 2).f1) ((rd_T31 x12_12 2).f2) ((rd_T31 x12_12 2).f3)).bind fun bt249=>((value_Compare.f kj12 ((rd_T31 x12_12 1).f0) ((rd_T31 x12_12 1).f1) ((rd_T31 x12_12 1).f2) ((rd_T31 x12_12 1).f3) ((rd_T31 x12_12 0).f0) ((rd_T31 x12_12 0).f1) ((rd_T31 x12_12 0).f2) ((rd_T31 x12_12 0).f3)).bind fun bt253=>(if t242 = 0 then (if t246 = 0 then (if bt249.2 = 0 then (if bt253.2 = 0 then (if bt253.1 = (wrap64 (-t241)) then ((value_Equal.f kj12 ((rd_T31 x12_12 0).f0) ((rd_T31 x12_12 0).f1) ((rd_T31 x12_12 0).f2) ((rd_T31 x12_12 0).f3) ((rd_T31 x12_12 1).f0) ((rd_T31 x12_12 1).f1) ((rd_T31 x12_12 1).f2) ((rd_T31 x12_12 1).f3)).bind fun t257=>(if ((t241 == 0) != t257) = true then (some false) else (if t241 ≤ 0 then (if t245 ≤ 0 then (if bt249.1 ≤ 0 then (if bt249.1 < 0 then (some true) else (if t241 = 0 then (some (t245 == 0)) else (some false))) else (some false)) else (some true)) else (some true)))) else (some false)) else (some false)) else (some false)) else (some false)) else (some false)))) = some r := H
       have A47 := Aside0.mk A470; clear A470; replace H := Option.bind_eq_some_iff.mp H
       obtain ⟨⟨t249,t250⟩,A480,H⟩ := H
       replace H : ((value_Compare.f kj12 ((rd_T31 x12_12 1).f0) ((rd_T31 x12_12 1).f1) ((rd_T31 x12_12 1).f2) ((rd_T31 x12_12 1).f3) ((rd_T31 x12_12 0).f0) ((rd_T31 x12_12 0).f1) ((rd_T31 x12_12 0).f2) ((rd_T31 x12_12 0).f3)).bind fun bt253=>(if t242 = 0 then (if t246 = 0 then (if t250 = 0 then (if bt253.2 = 0 then (if bt253.1 = (wrap64 (-t241)) then ((value_Equal.f kj12 ((rd_T31 x12_12 0).f0) ((rd_T31 x12_12 0).f1) ((rd_T31 x12_12 0).f2) ((rd_T31 x12_12 0).f3) ((rd_T31 x12_12 1).f0) ((rd_T31 x12_12 1).f1) ((rd_T31 x12_12 1).f2) ((rd_T31 x12_12 1).f3)).bind fun t257=>(if ((t241 == 0) != t257) = true then (some false) else (if t241 ≤ 0 then (if t245 ≤ 0 then (if t249 ≤ 0 then (if t249 < 0 then (some true) else (if t241 = 0 then (some (t245 == 0)) else (some false))) else (some false)) else (some true)) else (some true)))) else (some false)) else (some false)) else (some false)) else (some false)) else (some false))) = some r := H
       have A48 := Aside0.mk A480; clear A480; replace H := Option.bind_eq_some_iff.mp H
       obtain ⟨⟨t253,t254⟩,A490,H⟩ := H
       replace H : (if t242 = 0 then (if t246 = 0 then (if t250 = 0 then (if t254 = 0 then (if t253 = (wrap64 (-t241)) then ((value_Equal.f kj12 ((rd_T31 x12_12 0).f0) ((rd_T31 x12_12 0).f1) ((rd_T31 x12_12 0).f2) ((rd_T31 x12_12 0).f3) ((rd_T31 x12_12 1).f0) ((rd_T31 x12_12 1).f1) ((rd_T31 x12_12 1).f2) ((rd_T31 x12_12 1).f3)).bind fun t257=>(if ((t241 == 0) != t257) = true then (some false) else (if t241 ≤ 0 then (if t245 ≤ 0 then (if t249 ≤ 0 then (if t249 < 0 then (some true) else (if t241 = 0 then (some (t245 == 0)) else (some false))) else (some false)) else (some true)) else (some true)))) else (some false)) else (some false)) else (some false)) else (some false)) else (some false)) = some r := H
       have A49 := Aside0.mk A490; clear A490
       by_cases c50 : t242 = 0
       ·rw [if_pos c50] at H
        have c50b0 : (t242 == 0) = true := beq_iff_eq.mpr c50
        have c50b1 : (t242 != 0) = false := bne_eq_false_iff_eq.mpr c50
        clear c50
        by_cases c51 : t246 = 0
        ·rw [if_pos c51] at H
         have c51b0 : (t246 == 0) = true := beq_iff_eq.mpr c51
         have c51b1 : (t246 != 0) = false := bne_eq_false_iff_eq.mpr c51
         clear c51
         by_cases c52 : t250 = 0
         ·rw [if_pos c52] at H
          have c52b0 : (t250 == 0) = true := beq_iff_eq.mpr c52
          have c52b1 : (t250 != 0) = false := bne_eq_false_iff_eq.mpr c52
          clear c52
          by_cases c53 : t254 = 0
          ·rw [if_pos c53] at H
           have c53b0 : (t254 == 0) = true := beq_iff_eq.mpr c53
           have c53b1 : (t254 != 0) = false := bne_eq_false_iff_eq.mpr c53
           clear c53
           by_cases c54 : t253 = (wrap64 (-t241))
           ·rw [if_pos c54] at H
            have c54b0 : (t253 == (wrap64 (-t241))) = true := beq_iff_eq.mpr c54
            have c54b1 : (t253 != (wrap64 (-t241))) = false := bne_eq_false_iff_eq.mpr c54
            clear c54; replace H := Option.bind_eq_some_iff.mp H; obtain ⟨t257,A550,H⟩ := H
            replace H : (if ((t241 == 0) != t257) = true then (some false) else (if t241 ≤ 0 then (if t245 ≤ 0 then (if t249 ≤ 0 then (if t249 < 0 then (some true) else (if t241 = 0 then (some (t245 == 0)) else (some false))) else (some false)) else (some true)) else (some true))) = some r := H
            have A55 := Aside0.mk A550; clear A550
            by_cases c56 : ((t241 == 0) != t257) = true
            ·rw [if_pos c56] at H
             exact absurd (Option.some.inj H) (by rw [hrt]; decide)
            ·rw [if_neg c56] at H
             have c56b0 : ((t241 == 0) != t257) = false := by simpa using c56
             (try (have c56b1 : decide ((t241 == 0) = t257) = true := by simpa using c56))
             (try (have c56b2 : ((t241 == 0) == t257) = true := by simpa using c56))
             clear c56
             try go_wp2
             have n0_ := Aside0.mk (Kd.N_drew HO_12.out)
             have n1_ := Aside0.mk (zC HB.out)
             clear HO_12 HB; have HO_12 := n0_; have HB := n1_; clear n0_ n1_
             obtain ⟨Ao73,co73,eo73⟩ := Kd.N_slice HO_12.out
             (first|subst eo73|(injection eo73 with f1_ f2_ f3_; have f4_ := f1_.symm; have f5_ := f3_.symm; clear f1_ f2_ f3_; subst f4_; subst f5_))
             have p239 : 0 ≤ (0 : Int):=(by omega)
             have q239 : 0 < (x12_12.length : Int) := of_decide_eq_true (by first|(with_reducible assumption)|assumption)
             obtain ⟨ad239,A239_3,c239_3,e239,hx239_0,hx239_1,hx239_2,hx239_3,hl239_3,hi239_3⟩ := at_T31 (Kd.N_reads' HO_12.out).2.2 0 p239 q239
             cases e239
             obtain ⟨ce239,hce239,hMe239,hcc239⟩ := Kd.N_get HO_12.out z31 0 p239 (by first|exact q239|exact of_decide_eq_true (by first|(with_reducible assumption)|assumption)|(have e_:=(Kd.N_reads' HO_12.out).1; omega))
             obtain ⟨ua239_3,uc239_3,rfl,ul239_3,ge239_3⟩ := k31_openF hMe239
             have hv239_3 := hcc239 3 _ rfl
             rw [add_field _ _ 3 (by omega)] at hv239_3
             replace hv239_3 := Option.some.inj (hv239_3.symm.trans hx239_3)
             injection hv239_3 with hva_ hvn_ hvc_
             rw [hva_] at ge239_3
             rw [hvc_] at ul239_3
             have HL239_3 := Aside0.mk (show Kd.V Kd.string 9 _ w.heap.size _ _ ((rd_T31 x12_12 0).f3) from Kd.V_mk ul239_3 ge239_3)
             clear hva_ hvn_ hvc_ ge239_3 ul239_3 hcc239 hce239
             have qi239 : (0 < x12_12.length) = True := eq_true (by omega)
             (try rw [show ((0 : Int)).toNat = 0 from rfl] at hx239_0)
             (try rw [show 0 * 4 = 0 from rfl] at hx239_0)
             (try rw [Addr.add_zero'] at hx239_0)
             (try rw [show ((0 : Int)).toNat = 0 from rfl] at hx239_1)
             (try rw [show 0 * 4 = 0 from rfl] at hx239_1)
             (try rw [Addr.add_zero'] at hx239_1)
             (try rw [show ((0 : Int)).toNat = 0 from rfl] at hx239_2)
             (try rw [show 0 * 4 = 0 from rfl] at hx239_2)
             (try rw [Addr.add_zero'] at hx239_2)
             (try rw [show ((0 : Int)).toNat = 0 from rfl] at hx239_3)
             (try rw [show 0 * 4 = 0 from rfl] at hx239_3)
             (try rw [Addr.add_zero'] at hx239_3)
             have HR239_3 := Aside0.mk hi239_3; have HC239_3 := Aside0.mk hl239_3; clear hi239_3 hl239_3
             replace p239 := eq_true p239
             replace q239 := eq_true q239
             have p240 : 0 ≤ (1 : Int):=(by omega)
             have q240 : 1 < (x12_12.length : Int) := of_decide_eq_true (by first|(with_reducible assumption)|assumption)
             obtain ⟨ad240,A240_3,c240_3,e240,hx240_0,hx240_1,hx240_2,hx240_3,hl240_3,hi240_3⟩ := at_T31 (Kd.N_reads' HO_12.out).2.2 1 p240 q240
             obtain rfl : ad239 = ad240:=(by injection e240)
             obtain ⟨ce240,hce240,hMe240,hcc240⟩ := Kd.N_get HO_12.out z31 1 p240 (by first|exact q240|exact of_decide_eq_true (by first|(with_reducible assumption)|assumption)|(have e_:=(Kd.N_reads' HO_12.out).1; omega))
             obtain ⟨ua240_3,uc240_3,rfl,ul240_3,ge240_3⟩ := k31_openF hMe240
             have hv240_3 := hcc240 3 _ rfl
             rw [add_field _ _ 3 (by omega)] at hv240_3
             replace hv240_3 := Option.some.inj (hv240_3.symm.trans hx240_3)
             injection hv240_3 with hva_ hvn_ hvc_
             rw [hva_] at ge240_3
             rw [hvc_] at ul240_3
             have HL240_3 := Aside0.mk (show Kd.V Kd.string 9 _ w.heap.size _ _ ((rd_T31 x12_12 1).f3) from Kd.V_mk ul240_3 ge240_3)
             clear hva_ hvn_ hvc_ ge240_3 ul240_3 hcc240 hce240
             (try simp only [show (1 : Int).toNat = 1 from rfl,Nat.reduceMul,Nat.reduceEqDiff,Go.Addr.add,↓reduceIte] at hx240_0)
             (try simp only [show (1 : Int).toNat = 1 from rfl,Nat.reduceMul,Nat.reduceEqDiff,Go.Addr.add,↓reduceIte] at hx240_1)
             (try simp only [show (1 : Int).toNat = 1 from rfl,Nat.reduceMul,Nat.reduceEqDiff,Go.Addr.add,↓reduceIte] at hx240_2)
             (try simp only [show (1 : Int).toNat = 1 from rfl,Nat.reduceMul,Nat.reduceEqDiff,Go.Addr.add,↓reduceIte] at hx240_3)
             have qi240 : (1 < x12_12.length) = True := eq_true (by omega)
             (try rw [show ((1 : Int)).toNat = 1 from rfl] at hx240_0)
             (try rw [show 1 * 4 = 4 from rfl] at hx240_0)
             (try rw [show ((1 : Int)).toNat = 1 from rfl] at hx240_1)
             (try rw [show 1 * 4 = 4 from rfl] at hx240_1)
             (try rw [show ((1 : Int)).toNat = 1 from rfl] at hx240_2)
             (try rw [show 1 * 4 = 4 from rfl] at hx240_2)
             (try rw [show ((1 : Int)).toNat = 1 from rfl] at hx240_3)
             (try rw [show 1 * 4 = 4 from rfl] at hx240_3)
             have HR240_3 := Aside0.mk hi240_3; have HC240_3 := Aside0.mk hl240_3; clear hi240_3 hl240_3
             replace p240 := eq_true p240
             replace q240 := eq_true q240
             refine start_ (n := 12) (S := fun w'=>w'.cell? ad239 = some (.int .i64 ((rd_T31 x12_12 0).f0)) ∧ w'.cell? ⟨ad239.block,ad239.off + 1,none⟩ = some (.int .i64 ((rd_T31 x12_12 0).f1)) ∧ w'.cell? ⟨ad239.block,ad239.off + 2,none⟩ = some (.string ((rd_T31 x12_12 0).f2)) ∧ w'.cell? ⟨ad239.block,ad239.off + 3,none⟩ = some (.slice A239_3 ((rd_T31 x12_12 0).f3).length c239_3) ∧ w'.cell? ⟨ad239.block,ad239.off + 4,none⟩ = some (.int .i64 ((rd_T31 x12_12 1).f0)) ∧ w'.cell? ⟨ad239.block,ad239.off + 4 + 1,none⟩ = some (.int .i64 ((rd_T31 x12_12 1).f1)) ∧ w'.cell? ⟨ad239.block,ad239.off + 4 + 2,none⟩ = some (.string ((rd_T31 x12_12 1).f2)) ∧ w'.cell? ⟨ad239.block,ad239.off + 4 + 3,none⟩ = some (.slice A240_3 ((rd_T31 x12_12 1).f3).length c240_3)) (ds := []) #[false,false,false,false,false,false,false,false,false,false,false,false] (by kernel_rfl) rfl rfl ⟨hx239_0,hx239_1,hx239_2,hx239_3,hx240_0,hx240_1,hx240_2,hx240_3⟩ (fun hHeld=>?_); refine with_tabW flagstonelaw3_ValueOrder.tab13 flagstonelaw3_ValueOrder.bits13 (fun HT_ HW_=>?_)
             generalize wc.drew = w72 at HO_12 HB HL239_3 HL240_3 HR239_3 HR240_3 hx239_0 hx239_1 hx239_2 hx239_3 hx240_0 hx240_1 hx240_2 hx240_3 hHeld ⊢
             refine pure_ (i := 0) (N := some 73) (v := ?_) (a' := ?_) #[true,false,false,false,false,false,false,false,false,false,false,false] rfl rfl (any_of HT_.out (by kernel_rfl)) (fun _ _ _ h=>h) (Or.inl ⟨by rfl,?_⟩) ?_ ?_
             rotate_left
             ·intro w'
              go_simp
              with_reducible rfl
             rotate_left
             ·simp only [Act.put,List.setIfInBounds_toArray,List.set_cons_zero,List.set_cons_succ,i64_w,i32_w]
              rfl
             refine pure_ (i := 1) (N := some 74) (v := ?_) (a' := ?_) #[true,true,false,false,false,false,false,false,false,false,false,false] rfl rfl (any_of HT_.out (by kernel_rfl)) (fun _ _ _ h=>h) (Or.inl ⟨by rfl,?_⟩) ?_ ?_
             rotate_left
             ·intro w'
              go_simp
              with_reducible rfl
             rotate_left
             ·simp only [Act.put,List.setIfInBounds_toArray,List.set_cons_zero,List.set_cons_succ,i64_w,i32_w]
              rfl
             refine pure_ (i := 3) (N := some 76) (v := ?_) (a' := ?_) #[true,true,false,true,false,false,false,false,false,false,false,false] rfl rfl (any_of HT_.out (by kernel_rfl)) (fun _ _ _ h=>h) (Or.inl ⟨by rfl,?_⟩) ?_ ?_
             rotate_left
             ·intro w'
              go_simp
              with_reducible rfl
             rotate_left
             ·simp only [Act.put,List.setIfInBounds_toArray,List.set_cons_zero,List.set_cons_succ,i64_w,i32_w]
              rfl
             refine pure_ (i := 4) (N := some 77) (v := ?_) (a' := ?_) #[true,true,false,true,true,false,false,false,false,false,false,false] rfl rfl (any_of HT_.out (by kernel_rfl)) (fun _ _ _ h=>h) (Or.inl ⟨by rfl,?_⟩) ?_ ?_
             rotate_left
             ·intro w'
              go_simp
              with_reducible rfl
             rotate_left
             ·simp only [Act.put,List.setIfInBounds_toArray,List.set_cons_zero,List.set_cons_succ,i64_w,i32_w]
              rfl
             refine take_ (i := 2) (N := some 75) (v := ?_) (a' := ?_) #[true,true,true,true,true,false,false,false,false,false,false,false] rfl rfl (take_ofW HT_.out HW_.out (by kernel_rfl)) (fun _ _ _ h=>h) (Or.inl ⟨by rfl,?_⟩) hHeld ?_ ?_
             rotate_left
             ·rintro w' ⟨s0,s1,s2,s3,s4,s5,s6,s7⟩
              go_simp
              with_reducible rfl
             rotate_left
             ·simp only [Act.put,List.setIfInBounds_toArray,List.set_cons_zero,List.set_cons_succ,i64_w,i32_w]
              rfl
             refine take_ (i := 5) (N := some 78) (v := ?_) (a' := ?_) #[true,true,true,true,true,true,false,false,false,false,false,false] rfl rfl (take_ofW HT_.out HW_.out (by kernel_rfl)) (fun _ _ _ h=>h) (Or.inl ⟨by rfl,?_⟩) hHeld ?_ ?_
             rotate_left
             ·rintro w' ⟨s0,s1,s2,s3,s4,s5,s6,s7⟩
              go_simp
              with_reducible rfl
             rotate_left
             ·simp only [Act.put,List.setIfInBounds_toArray,List.set_cons_zero,List.set_cons_succ,i64_w,i32_w]
              rfl
             refine one_ (i := 6) (N := some 79) #[true,true,true,true,true,true,true,false,false,false,false,false] rfl rfl (one_of HT_.out (by kernel_rfl)) (by decide) (fun K hK=>?_)
             refine goes_ Tryd.func9 (by kernel_rfl) rfl #[.agg #[.int .i64 ((rd_T31 x12_12 0).f0),.int .i64 ((rd_T31 x12_12 0).f1),.string ((rd_T31 x12_12 0).f2),.slice A239_3 ((rd_T31 x12_12 0).f3).length c239_3],.agg #[.int .i64 ((rd_T31 x12_12 1).f0),.int .i64 ((rd_T31 x12_12 1).f1),.string ((rd_T31 x12_12 1).f2),.slice A240_3 ((rd_T31 x12_12 1).f3).length c240_3]] (by rfl) rfl rfl (by (try simp only [List.map_toArray,List.map_cons,List.map_nil]); first|done|rfl|(simp only [List.length_drop,List.length_take]; rfl)) ?_
             with_reducible refine (value_Compare.calls kj12 ((rd_T31 x12_12 0).f0) ((rd_T31 x12_12 0).f1) ((rd_T31 x12_12 0).f2) _ _ ((rd_T31 x12_12 0).f3) ((rd_T31 x12_12 1).f0) ((rd_T31 x12_12 1).f1) ((rd_T31 x12_12 1).f2) _ _ ((rd_T31 x12_12 1).f3) t241 t242 _ ?side1 ?side2 ?side3 ?side4 ?side5 A45.out).mono ?_
             (case side1=>repeat (first|exact (by repeat (first|(with_reducible exact HR239_3.out)|(with_reducible refine Kd.C_alloc ?_ _)|(with_reducible refine Kd.C_drewN ?_ _)|(with_reducible refine Kd.C_drew ?_)|exact HR239_3.out))|(with_reducible refine Kd.C_alloc ?_ _)|(with_reducible refine Kd.C_drewN ?_ _)|(with_reducible refine Kd.C_drew ?_)))
             (case side2=>exact HC239_3.out)
             (case side3=>repeat (first|exact (by repeat (first|(with_reducible exact HR240_3.out)|(with_reducible refine Kd.C_alloc ?_ _)|(with_reducible refine Kd.C_drewN ?_ _)|(with_reducible refine Kd.C_drew ?_)|exact HR240_3.out))|(with_reducible refine Kd.C_alloc ?_ _)|(with_reducible refine Kd.C_drewN ?_ _)|(with_reducible refine Kd.C_drew ?_)))
             (case side4=>exact HC240_3.out)
             (case side5=>exact GL.below HGL.out (by repeat (first|(with_reducible first|exact HB.out|apply zE|apply zB|apply zC)|exact HB.out)))
             rintro e w74 ⟨rfl,hb⟩
             have HS0_:=(hb.cell (World.block_lt_of_cell? _ _ (hHeld.1))).trans (hHeld.1)
             have HS1_:=(hb.cell (World.block_lt_of_cell? _ _ (hHeld.2.1))).trans (hHeld.2.1)
             have HS2_:=(hb.cell (World.block_lt_of_cell? _ _ (hHeld.2.2.1))).trans (hHeld.2.2.1)
             have HS3_:=(hb.cell (World.block_lt_of_cell? _ _ (hHeld.2.2.2.1))).trans (hHeld.2.2.2.1)
             have HS4_:=(hb.cell (World.block_lt_of_cell? _ _ (hHeld.2.2.2.2.1))).trans (hHeld.2.2.2.2.1)
             have HS5_:=(hb.cell (World.block_lt_of_cell? _ _ (hHeld.2.2.2.2.2.1))).trans (hHeld.2.2.2.2.2.1)
             have HS6_:=(hb.cell (World.block_lt_of_cell? _ _ (hHeld.2.2.2.2.2.2.1))).trans (hHeld.2.2.2.2.2.2.1)
             have HS7_:=(hb.cell (World.block_lt_of_cell? _ _ (hHeld.2.2.2.2.2.2.2))).trans (hHeld.2.2.2.2.2.2.2)
             refine ⟨_,rfl,?_⟩
             have n0_ := Aside0.mk (Kd.N_below (by (with_reducible repeat (first|apply Kd.N_alloc|apply Kd.N_drewN|apply Kd.N_drew)); exact HO_12.out) hb)
             have n1_ := Aside0.mk (Kd.V_below (by (with_reducible repeat (first|apply Kd.V_alloc|apply Kd.V_drewN|apply Kd.V_drew)); exact HL239_3.out) hb)
             have n2_ := Aside0.mk (Kd.V_below (by (with_reducible repeat (first|apply Kd.V_alloc|apply Kd.V_drewN|apply Kd.V_drew)); exact HL240_3.out) hb)
             have n3_ := Aside0.mk (Kd.C_below (by repeat (first|(with_reducible exact HR239_3.out)|(with_reducible refine Kd.C_alloc ?_ _)|(with_reducible refine Kd.C_drewN ?_ _)|(with_reducible refine Kd.C_drew ?_)|exact HR239_3.out)) hb)
             have n4_ := Aside0.mk (Kd.C_below (by repeat (first|(with_reducible exact HR240_3.out)|(with_reducible refine Kd.C_alloc ?_ _)|(with_reducible refine Kd.C_drewN ?_ _)|(with_reducible refine Kd.C_drew ?_)|exact HR240_3.out)) hb)
             have n5_ := Aside0.mk (below_step (by repeat (first|(with_reducible first|exact HB.out|apply zE|apply zB|apply zC)|exact HB.out)) hb)
             clear HO_12 HL239_3 HL240_3 HR239_3 HR240_3 HB; have HO_12 := n0_; have HL239_3 := n1_; have HL240_3 := n2_; have HR239_3 := n3_; have HR240_3 := n4_; have HB := n5_; clear n0_ n1_ n2_ n3_ n4_ n5_
             (try clear hb)
             (try clear hb2)
             (try clear hk)
             (try clear hi)
             (try clear hge)
             refine hK.out _ _ ⟨HS0_,HS1_,HS2_,HS3_,HS4_,HS5_,HS6_,HS7_⟩ (fun hHeld=>?_)
             clear hK K
             refine norm_ (a' := ?_) ?_ ?_
             rotate_left
             ·show Act.put _ (some 79) _ = _
              simp only [Act.put,List.setIfInBounds_toArray,List.set_cons_zero,List.set_cons_succ,i64_w,i32_w]
              rfl
             refine pure_ (i := 7) (N := some 72) (v := ?_) (a' := ?_) #[true,true,true,true,true,true,true,true,false,false,false,false] rfl rfl (any_of HT_.out (by kernel_rfl)) (fun _ _ _ h=>h) (Or.inl ⟨by rfl,?_⟩) ?_ ?_
             rotate_left
             ·intro w'
              go_simp
              with_reducible rfl
             rotate_left
             ·simp only [Act.put,List.setIfInBounds_toArray,List.set_cons_zero,List.set_cons_succ,i64_w,i32_w]
              rfl
             refine pure_ (i := 8) (N := some 80) (v := ?_) (a' := ?_) #[true,true,true,true,true,true,true,true,true,false,false,false] rfl rfl (any_of HT_.out (by kernel_rfl)) (fun _ _ _ h=>h) (Or.inl ⟨by rfl,?_⟩) ?_ ?_
             rotate_left
             ·intro w'
              go_simp
              with_reducible rfl
             rotate_left
             ·simp only [Act.put,List.setIfInBounds_toArray,List.set_cons_zero,List.set_cons_succ,i64_w,i32_w]
              rfl
             refine pure_ (i := 9) (N := some 81) (v := ?_) (a' := ?_) #[true,true,true,true,true,true,true,true,true,true,false,false] rfl rfl (any_of HT_.out (by kernel_rfl)) (fun _ _ _ h=>h) (Or.inl ⟨by rfl,?_⟩) ?_ ?_
             rotate_left
             ·intro w'
              go_simp
              with_reducible rfl
             rotate_left
             ·simp only [Act.put,List.setIfInBounds_toArray,List.set_cons_zero,List.set_cons_succ,i64_w,i32_w]
              rfl
             refine pure_ (i := 10) (N := some 15) (v := ?_) (a' := ?_) #[true,true,true,true,true,true,true,true,true,true,true,false] rfl rfl (any_of HT_.out (by kernel_rfl)) (fun _ _ _ h=>h) (Or.inl ⟨by rfl,?_⟩) ?_ ?_
             rotate_left
             ·intro w'
              go_simp
              with_reducible rfl
             rotate_left
             ·simp only [Act.put,List.setIfInBounds_toArray,List.set_cons_zero,List.set_cons_succ,i64_w,i32_w]
              rfl
             refine pure_ (i := 11) (N := some 16) (v := ?_) (a' := ?_) #[true,true,true,true,true,true,true,true,true,true,true,true] rfl rfl (any_of HT_.out (by kernel_rfl)) (fun _ _ _ h=>h) (Or.inl ⟨by rfl,?_⟩) ?_ ?_
             rotate_left
             ·intro w'
              go_simp
              with_reducible rfl
             rotate_left
             ·simp only [Act.put,List.setIfInBounds_toArray,List.set_cons_zero,List.set_cons_succ,i64_w,i32_w]
              rfl
             refine done_ (done_of HT_.out (by kernel_rfl)) ?_
             try go_wp2
             have n0_ := Aside0.mk (Kd.N_drew HO_12.out)
             have n1_ := Aside0.mk (Kd.V_drew HL239_3.out)
             have n2_ := Aside0.mk (Kd.V_drew HL240_3.out)
             have n3_ := Aside0.mk (Kd.C_drew HR239_3.out)
             have n4_ := Aside0.mk (Kd.C_drew HR240_3.out)
             have n5_ := Aside0.mk (zC HB.out)
             clear HO_12 HL239_3 HL240_3 HR239_3 HR240_3 HB; have HO_12 := n0_; have HL239_3 := n1_; have HL240_3 := n2_; have HR239_3 := n3_; have HR240_3 := n4_; have HB := n5_; clear n0_ n1_ n2_ n3_ n4_ n5_
             have p243 : 0 ≤ (1 : Int):=(by omega)
             have q243 : 1 < (x12_12.length : Int) := of_decide_eq_true (by first|(with_reducible assumption)|assumption)
             obtain ⟨ad243,A243_3,c243_3,e243,hx243_0,hx243_1,hx243_2,hx243_3,hl243_3,hi243_3⟩ := at_T31 (Kd.N_reads' HO_12.out).2.2 1 p243 q243
             obtain rfl : ad239 = ad243:=(by injection e243)
             obtain ⟨ce243,hce243,hMe243,hcc243⟩ := Kd.N_get HO_12.out z31 1 p243 (by first|exact q243|exact of_decide_eq_true (by first|(with_reducible assumption)|assumption)|(have e_:=(Kd.N_reads' HO_12.out).1; omega))
             obtain ⟨ua243_3,uc243_3,rfl,ul243_3,ge243_3⟩ := k31_openF hMe243
             have hv243_3 := hcc243 3 _ rfl
             rw [add_field _ _ 3 (by omega)] at hv243_3
             replace hv243_3 := Option.some.inj (hv243_3.symm.trans hx243_3)
             injection hv243_3 with hva_ hvn_ hvc_
             rw [hva_] at ge243_3
             rw [hvc_] at ul243_3
             have HL243_3 := Aside0.mk (show Kd.V Kd.string 9 _ w.heap.size _ _ ((rd_T31 x12_12 1).f3) from Kd.V_mk ul243_3 ge243_3)
             clear hva_ hvn_ hvc_ ge243_3 ul243_3 hcc243 hce243
             (try simp only [show (1 : Int).toNat = 1 from rfl,Nat.reduceMul,Nat.reduceEqDiff,Go.Addr.add,↓reduceIte] at hx243_0)
             (try simp only [show (1 : Int).toNat = 1 from rfl,Nat.reduceMul,Nat.reduceEqDiff,Go.Addr.add,↓reduceIte] at hx243_1)
             (try simp only [show (1 : Int).toNat = 1 from rfl,Nat.reduceMul,Nat.reduceEqDiff,Go.Addr.add,↓reduceIte] at hx243_2)
             (try simp only [show (1 : Int).toNat = 1 from rfl,Nat.reduceMul,Nat.reduceEqDiff,Go.Addr.add,↓reduceIte] at hx243_3)
             have qi243 : (1 < x12_12.length) = True := eq_true (by omega)
             (try rw [show ((1 : Int)).toNat = 1 from rfl] at hx243_0)
             (try rw [show 1 * 4 = 4 from rfl] at hx243_0)
             (try rw [show ((1 : Int)).toNat = 1 from rfl] at hx243_1)
             (try rw [show 1 * 4 = 4 from rfl] at hx243_1)
             (try rw [show ((1 : Int)).toNat = 1 from rfl] at hx243_2)
             (try rw [show 1 * 4 = 4 from rfl] at hx243_2)
             (try rw [show ((1 : Int)).toNat = 1 from rfl] at hx243_3)
             (try rw [show 1 * 4 = 4 from rfl] at hx243_3)
             have HR243_3 := Aside0.mk hi243_3; have HC243_3 := Aside0.mk hl243_3; clear hi243_3 hl243_3
             replace p243 := eq_true p243
             replace q243 := eq_true q243
             have p244 : 0 ≤ (2 : Int):=(by omega)
             have q244 : 2 < (x12_12.length : Int) := of_decide_eq_true (by first|(with_reducible assumption)|assumption)
             obtain ⟨ad244,A244_3,c244_3,e244,hx244_0,hx244_1,hx244_2,hx244_3,hl244_3,hi244_3⟩ := at_T31 (Kd.N_reads' HO_12.out).2.2 2 p244 q244
             obtain rfl : ad239 = ad244:=(by injection e244)
             obtain ⟨ce244,hce244,hMe244,hcc244⟩ := Kd.N_get HO_12.out z31 2 p244 (by first|exact q244|exact of_decide_eq_true (by first|(with_reducible assumption)|assumption)|(have e_:=(Kd.N_reads' HO_12.out).1; omega))
             obtain ⟨ua244_3,uc244_3,rfl,ul244_3,ge244_3⟩ := k31_openF hMe244
             have hv244_3 := hcc244 3 _ rfl
             rw [add_field _ _ 3 (by omega)] at hv244_3
             replace hv244_3 := Option.some.inj (hv244_3.symm.trans hx244_3)
             injection hv244_3 with hva_ hvn_ hvc_
             rw [hva_] at ge244_3
             rw [hvc_] at ul244_3
             have HL244_3 := Aside0.mk (show Kd.V Kd.string 9 _ w.heap.size _ _ ((rd_T31 x12_12 2).f3) from Kd.V_mk ul244_3 ge244_3)
             clear hva_ hvn_ hvc_ ge244_3 ul244_3 hcc244 hce244
             (try simp only [show (2 : Int).toNat = 2 from rfl,Nat.reduceMul,Nat.reduceEqDiff,Go.Addr.add,↓reduceIte] at hx244_0)
             (try simp only [show (2 : Int).toNat = 2 from rfl,Nat.reduceMul,Nat.reduceEqDiff,Go.Addr.add,↓reduceIte] at hx244_1)
             (try simp only [show (2 : Int).toNat = 2 from rfl,Nat.reduceMul,Nat.reduceEqDiff,Go.Addr.add,↓reduceIte] at hx244_2)
             (try simp only [show (2 : Int).toNat = 2 from rfl,Nat.reduceMul,Nat.reduceEqDiff,Go.Addr.add,↓reduceIte] at hx244_3)
             have qi244 : (2 < x12_12.length) = True := eq_true (by omega)
             (try rw [show ((2 : Int)).toNat = 2 from rfl] at hx244_0)
             (try rw [show 2 * 4 = 8 from rfl] at hx244_0)
             (try rw [show ((2 : Int)).toNat = 2 from rfl] at hx244_1)
             (try rw [show 2 * 4 = 8 from rfl] at hx244_1)
             (try rw [show ((2 : Int)).toNat = 2 from rfl] at hx244_2)
             (try rw [show 2 * 4 = 8 from rfl] at hx244_2)
             (try rw [show ((2 : Int)).toNat = 2 from rfl] at hx244_3)
             (try rw [show 2 * 4 = 8 from rfl] at hx244_3)
             have HR244_3 := Aside0.mk hi244_3; have HC244_3 := Aside0.mk hl244_3; clear hi244_3 hl244_3
             replace p244 := eq_true p244
             replace q244 := eq_true q244
             refine start_ (n := 12) (S := fun w'=>w'.cell? ⟨ad239.block,ad239.off + 4,none⟩ = some (.int .i64 ((rd_T31 x12_12 1).f0)) ∧ w'.cell? ⟨ad239.block,ad239.off + 4 + 1,none⟩ = some (.int .i64 ((rd_T31 x12_12 1).f1)) ∧ w'.cell? ⟨ad239.block,ad239.off + 4 + 2,none⟩ = some (.string ((rd_T31 x12_12 1).f2)) ∧ w'.cell? ⟨ad239.block,ad239.off + 4 + 3,none⟩ = some (.slice A243_3 ((rd_T31 x12_12 1).f3).length c243_3) ∧ w'.cell? ⟨ad239.block,ad239.off + 8,none⟩ = some (.int .i64 ((rd_T31 x12_12 2).f0)) ∧ w'.cell? ⟨ad239.block,ad239.off + 8 + 1,none⟩ = some (.int .i64 ((rd_T31 x12_12 2).f1)) ∧ w'.cell? ⟨ad239.block,ad239.off + 8 + 2,none⟩ = some (.string ((rd_T31 x12_12 2).f2)) ∧ w'.cell? ⟨ad239.block,ad239.off + 8 + 3,none⟩ = some (.slice A244_3 ((rd_T31 x12_12 2).f3).length c244_3)) (ds := []) #[false,false,false,false,false,false,false,false,false,false,false,false] (by kernel_rfl) rfl rfl ⟨hx243_0,hx243_1,hx243_2,hx243_3,hx244_0,hx244_1,hx244_2,hx244_3⟩ (fun hHeld=>?_); refine with_tabW flagstonelaw3_ValueOrder.tab14 flagstonelaw3_ValueOrder.bits14 (fun HT_ HW_=>?_)
             generalize w74.drew = w75 at HO_12 HL239_3 HL240_3 HR239_3 HR240_3 HB HL243_3 HL244_3 HR243_3 HR244_3 hx243_0 hx243_1 hx243_2 hx243_3 hx244_0 hx244_1 hx244_2 hx244_3 hHeld ⊢
             refine pure_ (i := 0) (N := some 83) (v := ?_) (a' := ?_) #[true,false,false,false,false,false,false,false,false,false,false,false] rfl rfl (any_of HT_.out (by kernel_rfl)) (fun _ _ _ h=>h) (Or.inl ⟨by rfl,?_⟩) ?_ ?_
             rotate_left
             ·intro w'
              go_simp
              with_reducible rfl
             rotate_left
             ·simp only [Act.put,List.setIfInBounds_toArray,List.set_cons_zero,List.set_cons_succ,i64_w,i32_w]
              rfl
             refine pure_ (i := 1) (N := some 84) (v := ?_) (a' := ?_) #[true,true,false,false,false,false,false,false,false,false,false,false] rfl rfl (any_of HT_.out (by kernel_rfl)) (fun _ _ _ h=>h) (Or.inl ⟨by rfl,?_⟩) ?_ ?_
             rotate_left
             ·intro w'
              go_simp
              with_reducible rfl
             rotate_left
             ·simp only [Act.put,List.setIfInBounds_toArray,List.set_cons_zero,List.set_cons_succ,i64_w,i32_w]
              rfl
             refine pure_ (i := 3) (N := some 86) (v := ?_) (a' := ?_) #[true,true,false,true,false,false,false,false,false,false,false,false] rfl rfl (any_of HT_.out (by kernel_rfl)) (fun _ _ _ h=>h) (Or.inl ⟨by rfl,?_⟩) ?_ ?_
             rotate_left
             ·intro w'
              go_simp
              with_reducible rfl
             rotate_left
             ·simp only [Act.put,List.setIfInBounds_toArray,List.set_cons_zero,List.set_cons_succ,i64_w,i32_w]
              rfl
             refine pure_ (i := 4) (N := some 87) (v := ?_) (a' := ?_) #[true,true,false,true,true,false,false,false,false,false,false,false] rfl rfl (any_of HT_.out (by kernel_rfl)) (fun _ _ _ h=>h) (Or.inl ⟨by rfl,?_⟩) ?_ ?_
             rotate_left
             ·intro w'
              go_simp
              with_reducible rfl
             rotate_left
             ·simp only [Act.put,List.setIfInBounds_toArray,List.set_cons_zero,List.set_cons_succ,i64_w,i32_w]
              rfl
             refine take_ (i := 2) (N := some 85) (v := ?_) (a' := ?_) #[true,true,true,true,true,false,false,false,false,false,false,false] rfl rfl (take_ofW HT_.out HW_.out (by kernel_rfl)) (fun _ _ _ h=>h) (Or.inl ⟨by rfl,?_⟩) hHeld ?_ ?_
             rotate_left
             ·rintro w' ⟨s0,s1,s2,s3,s4,s5,s6,s7⟩
              go_simp
              with_reducible rfl
             rotate_left
             ·simp only [Act.put,List.setIfInBounds_toArray,List.set_cons_zero,List.set_cons_succ,i64_w,i32_w]
              rfl
             refine take_ (i := 5) (N := some 88) (v := ?_) (a' := ?_) #[true,true,true,true,true,true,false,false,false,false,false,false] rfl rfl (take_ofW HT_.out HW_.out (by kernel_rfl)) (fun _ _ _ h=>h) (Or.inl ⟨by rfl,?_⟩) hHeld ?_ ?_
             rotate_left
             ·rintro w' ⟨s0,s1,s2,s3,s4,s5,s6,s7⟩
              go_simp
              with_reducible rfl
             rotate_left
             ·simp only [Act.put,List.setIfInBounds_toArray,List.set_cons_zero,List.set_cons_succ,i64_w,i32_w]
              rfl
             refine one_ (i := 6) (N := some 89) #[true,true,true,true,true,true,true,false,false,false,false,false] rfl rfl (one_of HT_.out (by kernel_rfl)) (by decide) (fun K hK=>?_)
             refine goes_ Tryd.func9 (by kernel_rfl) rfl #[.agg #[.int .i64 ((rd_T31 x12_12 1).f0),.int .i64 ((rd_T31 x12_12 1).f1),.string ((rd_T31 x12_12 1).f2),.slice A243_3 ((rd_T31 x12_12 1).f3).length c243_3],.agg #[.int .i64 ((rd_T31 x12_12 2).f0),.int .i64 ((rd_T31 x12_12 2).f1),.string ((rd_T31 x12_12 2).f2),.slice A244_3 ((rd_T31 x12_12 2).f3).length c244_3]] (by rfl) rfl rfl (by (try simp only [List.map_toArray,List.map_cons,List.map_nil]); first|done|rfl|(simp only [List.length_drop,List.length_take]; rfl)) ?_
             with_reducible refine (value_Compare.calls kj12 ((rd_T31 x12_12 1).f0) ((rd_T31 x12_12 1).f1) ((rd_T31 x12_12 1).f2) _ _ ((rd_T31 x12_12 1).f3) ((rd_T31 x12_12 2).f0) ((rd_T31 x12_12 2).f1) ((rd_T31 x12_12 2).f2) _ _ ((rd_T31 x12_12 2).f3) t245 t246 _ ?side1 ?side2 ?side3 ?side4 ?side5 A47.out).mono ?_
             (case side1=>repeat (first|exact (by repeat (first|(with_reducible exact HR243_3.out)|(with_reducible refine Kd.C_alloc ?_ _)|(with_reducible refine Kd.C_drewN ?_ _)|(with_reducible refine Kd.C_drew ?_)|exact HR243_3.out))|(with_reducible refine Kd.C_alloc ?_ _)|(with_reducible refine Kd.C_drewN ?_ _)|(with_reducible refine Kd.C_drew ?_)))
             (case side2=>exact HC243_3.out)
             (case side3=>repeat (first|exact (by repeat (first|(with_reducible exact HR244_3.out)|(with_reducible refine Kd.C_alloc ?_ _)|(with_reducible refine Kd.C_drewN ?_ _)|(with_reducible refine Kd.C_drew ?_)|exact HR244_3.out))|(with_reducible refine Kd.C_alloc ?_ _)|(with_reducible refine Kd.C_drewN ?_ _)|(with_reducible refine Kd.C_drew ?_)))
             (case side4=>exact HC244_3.out)
             (case side5=>exact GL.below HGL.out (by repeat (first|(with_reducible first|exact HB.out|apply zE|apply zB|apply zC)|exact HB.out)))
             rintro e w76 ⟨rfl,hb⟩
             have HS0_:=(hb.cell (World.block_lt_of_cell? _ _ (hHeld.1))).trans (hHeld.1)
             have HS1_:=(hb.cell (World.block_lt_of_cell? _ _ (hHeld.2.1))).trans (hHeld.2.1)
             have HS2_:=(hb.cell (World.block_lt_of_cell? _ _ (hHeld.2.2.1))).trans (hHeld.2.2.1)
             have HS3_:=(hb.cell (World.block_lt_of_cell? _ _ (hHeld.2.2.2.1))).trans (hHeld.2.2.2.1)
             have HS4_:=(hb.cell (World.block_lt_of_cell? _ _ (hHeld.2.2.2.2.1))).trans (hHeld.2.2.2.2.1)
             have HS5_:=(hb.cell (World.block_lt_of_cell? _ _ (hHeld.2.2.2.2.2.1))).trans (hHeld.2.2.2.2.2.1)
             have HS6_:=(hb.cell (World.block_lt_of_cell? _ _ (hHeld.2.2.2.2.2.2.1))).trans (hHeld.2.2.2.2.2.2.1)
             have HS7_:=(hb.cell (World.block_lt_of_cell? _ _ (hHeld.2.2.2.2.2.2.2))).trans (hHeld.2.2.2.2.2.2.2)
             refine ⟨_,rfl,?_⟩
             have n0_ := Aside0.mk (Kd.N_below (by (with_reducible repeat (first|apply Kd.N_alloc|apply Kd.N_drewN|apply Kd.N_drew)); exact HO_12.out) hb)
             have n1_ := Aside0.mk (Kd.V_below (by (with_reducible repeat (first|apply Kd.V_alloc|apply Kd.V_drewN|apply Kd.V_drew)); exact HL239_3.out) hb)
             have n2_ := Aside0.mk (Kd.V_below (by (with_reducible repeat (first|apply Kd.V_alloc|apply Kd.V_drewN|apply Kd.V_drew)); exact HL240_3.out) hb)
             have n3_ := Aside0.mk (Kd.V_below (by (with_reducible repeat (first|apply Kd.V_alloc|apply Kd.V_drewN|apply Kd.V_drew)); exact HL243_3.out) hb)
             have n4_ := Aside0.mk (Kd.V_below (by (with_reducible repeat (first|apply Kd.V_alloc|apply Kd.V_drewN|apply Kd.V_drew)); exact HL244_3.out) hb)
             have n5_ := Aside0.mk (Kd.C_below (by repeat (first|(with_reducible exact HR239_3.out)|(with_reducible refine Kd.C_alloc ?_ _)|(with_reducible refine Kd.C_drewN ?_ _)|(with_reducible refine Kd.C_drew ?_)|exact HR239_3.out)) hb)
             have n6_ := Aside0.mk (Kd.C_below (by repeat (first|(with_reducible exact HR240_3.out)|(with_reducible refine Kd.C_alloc ?_ _)|(with_reducible refine Kd.C_drewN ?_ _)|(with_reducible refine Kd.C_drew ?_)|exact HR240_3.out)) hb)
             have n7_ := Aside0.mk (Kd.C_below (by repeat (first|(with_reducible exact HR243_3.out)|(with_reducible refine Kd.C_alloc ?_ _)|(with_reducible refine Kd.C_drewN ?_ _)|(with_reducible refine Kd.C_drew ?_)|exact HR243_3.out)) hb)
             have n8_ := Aside0.mk (Kd.C_below (by repeat (first|(with_reducible exact HR244_3.out)|(with_reducible refine Kd.C_alloc ?_ _)|(with_reducible refine Kd.C_drewN ?_ _)|(with_reducible refine Kd.C_drew ?_)|exact HR244_3.out)) hb)
             have n9_ := Aside0.mk (below_step (by repeat (first|(with_reducible first|exact HB.out|apply zE|apply zB|apply zC)|exact HB.out)) hb)
             clear HO_12 HL239_3 HL240_3 HL243_3 HL244_3 HR239_3 HR240_3 HR243_3 HR244_3 HB; have HO_12 := n0_; have HL239_3 := n1_; have HL240_3 := n2_; have HL243_3 := n3_; have HL244_3 := n4_; have HR239_3 := n5_; have HR240_3 := n6_; have HR243_3 := n7_; have HR244_3 := n8_; have HB := n9_; clear n0_ n1_ n2_ n3_ n4_ n5_ n6_ n7_ n8_ n9_
             (try clear hb)
             (try clear hb2)
             (try clear hk)
             (try clear hi)
             (try clear hge)
             refine hK.out _ _ ⟨HS0_,HS1_,HS2_,HS3_,HS4_,HS5_,HS6_,HS7_⟩ (fun hHeld=>?_)
             clear hK K
             refine norm_ (a' := ?_) ?_ ?_
             rotate_left
             ·show Act.put _ (some 89) _ = _
              simp only [Act.put,List.setIfInBounds_toArray,List.set_cons_zero,List.set_cons_succ,i64_w,i32_w]
              rfl
             refine pure_ (i := 7) (N := some 82) (v := ?_) (a' := ?_) #[true,true,true,true,true,true,true,true,false,false,false,false] rfl rfl (any_of HT_.out (by kernel_rfl)) (fun _ _ _ h=>h) (Or.inl ⟨by rfl,?_⟩) ?_ ?_
             rotate_left
             ·intro w'
              go_simp
              with_reducible rfl
             rotate_left
             ·simp only [Act.put,List.setIfInBounds_toArray,List.set_cons_zero,List.set_cons_succ,i64_w,i32_w]
              rfl
             refine pure_ (i := 8) (N := some 90) (v := ?_) (a' := ?_) #[true,true,true,true,true,true,true,true,true,false,false,false] rfl rfl (any_of HT_.out (by kernel_rfl)) (fun _ _ _ h=>h) (Or.inl ⟨by rfl,?_⟩) ?_ ?_
             rotate_left
             ·intro w'
              go_simp
              with_reducible rfl
             rotate_left
             ·simp only [Act.put,List.setIfInBounds_toArray,List.set_cons_zero,List.set_cons_succ,i64_w,i32_w]
              rfl
             refine pure_ (i := 9) (N := some 91) (v := ?_) (a' := ?_) #[true,true,true,true,true,true,true,true,true,true,false,false] rfl rfl (any_of HT_.out (by kernel_rfl)) (fun _ _ _ h=>h) (Or.inl ⟨by rfl,?_⟩) ?_ ?_
             rotate_left
             ·intro w'
              go_simp
              with_reducible rfl
             rotate_left
             ·simp only [Act.put,List.setIfInBounds_toArray,List.set_cons_zero,List.set_cons_succ,i64_w,i32_w]
              rfl
             refine pure_ (i := 10) (N := some 17) (v := ?_) (a' := ?_) #[true,true,true,true,true,true,true,true,true,true,true,false] rfl rfl (any_of HT_.out (by kernel_rfl)) (fun _ _ _ h=>h) (Or.inl ⟨by rfl,?_⟩) ?_ ?_
             rotate_left
             ·intro w'
              go_simp
              with_reducible rfl
             rotate_left
             ·simp only [Act.put,List.setIfInBounds_toArray,List.set_cons_zero,List.set_cons_succ,i64_w,i32_w]
              rfl
             refine pure_ (i := 11) (N := some 18) (v := ?_) (a' := ?_) #[true,true,true,true,true,true,true,true,true,true,true,true] rfl rfl (any_of HT_.out (by kernel_rfl)) (fun _ _ _ h=>h) (Or.inl ⟨by rfl,?_⟩) ?_ ?_
             rotate_left
             ·intro w'
              go_simp
              with_reducible rfl
             rotate_left
             ·simp only [Act.put,List.setIfInBounds_toArray,List.set_cons_zero,List.set_cons_succ,i64_w,i32_w]
              rfl
             refine done_ (done_of HT_.out (by kernel_rfl)) ?_
             try go_wp2
             have n0_ := Aside0.mk (Kd.N_drew HO_12.out)
             have n1_ := Aside0.mk (Kd.V_drew HL239_3.out)
             have n2_ := Aside0.mk (Kd.V_drew HL240_3.out)
             have n3_ := Aside0.mk (Kd.V_drew HL243_3.out)
             have n4_ := Aside0.mk (Kd.V_drew HL244_3.out)
             have n5_ := Aside0.mk (Kd.C_drew HR239_3.out)
             have n6_ := Aside0.mk (Kd.C_drew HR240_3.out)
             have n7_ := Aside0.mk (Kd.C_drew HR243_3.out)
             have n8_ := Aside0.mk (Kd.C_drew HR244_3.out)
             have n9_ := Aside0.mk (zC HB.out)
             clear HO_12 HL239_3 HL240_3 HL243_3 HL244_3 HR239_3 HR240_3 HR243_3 HR244_3 HB; have HO_12 := n0_; have HL239_3 := n1_; have HL240_3 := n2_; have HL243_3 := n3_; have HL244_3 := n4_; have HR239_3 := n5_; have HR240_3 := n6_; have HR243_3 := n7_; have HR244_3 := n8_; have HB := n9_; clear n0_ n1_ n2_ n3_ n4_ n5_ n6_ n7_ n8_ n9_
             have p247 : 0 ≤ (0 : Int):=(by omega)
             have q247 : 0 < (x12_12.length : Int) := of_decide_eq_true (by first|(with_reducible assumption)|assumption)
             obtain ⟨ad247,A247_3,c247_3,e247,hx247_0,hx247_1,hx247_2,hx247_3,hl247_3,hi247_3⟩ := at_T31 (Kd.N_reads' HO_12.out).2.2 0 p247 q247
             obtain rfl : ad239 = ad247:=(by injection e247)
             obtain ⟨ce247,hce247,hMe247,hcc247⟩ := Kd.N_get HO_12.out z31 0 p247 (by first|exact q247|exact of_decide_eq_true (by first|(with_reducible assumption)|assumption)|(have e_:=(Kd.N_reads' HO_12.out).1; omega))
             obtain ⟨ua247_3,uc247_3,rfl,ul247_3,ge247_3⟩ := k31_openF hMe247
             have hv247_3 := hcc247 3 _ rfl
             rw [add_field _ _ 3 (by omega)] at hv247_3
             replace hv247_3 := Option.some.inj (hv247_3.symm.trans hx247_3)
             injection hv247_3 with hva_ hvn_ hvc_
             rw [hva_] at ge247_3
             rw [hvc_] at ul247_3
             have HL247_3 := Aside0.mk (show Kd.V Kd.string 9 _ w.heap.size _ _ ((rd_T31 x12_12 0).f3) from Kd.V_mk ul247_3 ge247_3)
             clear hva_ hvn_ hvc_ ge247_3 ul247_3 hcc247 hce247
             have qi247 : (0 < x12_12.length) = True := eq_true (by omega)
             (try rw [show ((0 : Int)).toNat = 0 from rfl] at hx247_0)
             (try rw [show 0 * 4 = 0 from rfl] at hx247_0)
             (try rw [Addr.add_zero'] at hx247_0)
             (try rw [show ((0 : Int)).toNat = 0 from rfl] at hx247_1)
             (try rw [show 0 * 4 = 0 from rfl] at hx247_1)
             (try rw [Addr.add_zero'] at hx247_1)
             (try rw [show ((0 : Int)).toNat = 0 from rfl] at hx247_2)
             (try rw [show 0 * 4 = 0 from rfl] at hx247_2)
             (try rw [Addr.add_zero'] at hx247_2)
             (try rw [show ((0 : Int)).toNat = 0 from rfl] at hx247_3)
             (try rw [show 0 * 4 = 0 from rfl] at hx247_3)
             (try rw [Addr.add_zero'] at hx247_3)
             have HR247_3 := Aside0.mk hi247_3; have HC247_3 := Aside0.mk hl247_3; clear hi247_3 hl247_3
             replace p247 := eq_true p247
             replace q247 := eq_true q247
             have p248 : 0 ≤ (2 : Int):=(by omega)
             have q248 : 2 < (x12_12.length : Int) := of_decide_eq_true (by first|(with_reducible assumption)|assumption)
             obtain ⟨ad248,A248_3,c248_3,e248,hx248_0,hx248_1,hx248_2,hx248_3,hl248_3,hi248_3⟩ := at_T31 (Kd.N_reads' HO_12.out).2.2 2 p248 q248
             obtain rfl : ad239 = ad248:=(by injection e248)
             obtain ⟨ce248,hce248,hMe248,hcc248⟩ := Kd.N_get HO_12.out z31 2 p248 (by first|exact q248|exact of_decide_eq_true (by first|(with_reducible assumption)|assumption)|(have e_:=(Kd.N_reads' HO_12.out).1; omega))
             obtain ⟨ua248_3,uc248_3,rfl,ul248_3,ge248_3⟩ := k31_openF hMe248
             have hv248_3 := hcc248 3 _ rfl
             rw [add_field _ _ 3 (by omega)] at hv248_3
             replace hv248_3 := Option.some.inj (hv248_3.symm.trans hx248_3)
             injection hv248_3 with hva_ hvn_ hvc_
             rw [hva_] at ge248_3
             rw [hvc_] at ul248_3
             have HL248_3 := Aside0.mk (show Kd.V Kd.string 9 _ w.heap.size _ _ ((rd_T31 x12_12 2).f3) from Kd.V_mk ul248_3 ge248_3)
             clear hva_ hvn_ hvc_ ge248_3 ul248_3 hcc248 hce248
             (try simp only [show (2 : Int).toNat = 2 from rfl,Nat.reduceMul,Nat.reduceEqDiff,Go.Addr.add,↓reduceIte] at hx248_0)
             (try simp only [show (2 : Int).toNat = 2 from rfl,Nat.reduceMul,Nat.reduceEqDiff,Go.Addr.add,↓reduceIte] at hx248_1)
             (try simp only [show (2 : Int).toNat = 2 from rfl,Nat.reduceMul,Nat.reduceEqDiff,Go.Addr.add,↓reduceIte] at hx248_2)
             (try simp only [show (2 : Int).toNat = 2 from rfl,Nat.reduceMul,Nat.reduceEqDiff,Go.Addr.add,↓reduceIte] at hx248_3)
             have qi248 : (2 < x12_12.length) = True := eq_true (by omega)
             (try rw [show ((2 : Int)).toNat = 2 from rfl] at hx248_0)
             (try rw [show 2 * 4 = 8 from rfl] at hx248_0)
             (try rw [show ((2 : Int)).toNat = 2 from rfl] at hx248_1)
             (try rw [show 2 * 4 = 8 from rfl] at hx248_1)
             (try rw [show ((2 : Int)).toNat = 2 from rfl] at hx248_2)
             (try rw [show 2 * 4 = 8 from rfl] at hx248_2)
             (try rw [show ((2 : Int)).toNat = 2 from rfl] at hx248_3)
             (try rw [show 2 * 4 = 8 from rfl] at hx248_3)
             have HR248_3 := Aside0.mk hi248_3; have HC248_3 := Aside0.mk hl248_3; clear hi248_3 hl248_3
             replace p248 := eq_true p248
             replace q248 := eq_true q248
             refine start_ (n := 12) (S := fun w'=>w'.cell? ad239 = some (.int .i64 ((rd_T31 x12_12 0).f0)) ∧ w'.cell? ⟨ad239.block,ad239.off + 1,none⟩ = some (.int .i64 ((rd_T31 x12_12 0).f1)) ∧ w'.cell? ⟨ad239.block,ad239.off + 2,none⟩ = some (.string ((rd_T31 x12_12 0).f2)) ∧ w'.cell? ⟨ad239.block,ad239.off + 3,none⟩ = some (.slice A247_3 ((rd_T31 x12_12 0).f3).length c247_3) ∧ w'.cell? ⟨ad239.block,ad239.off + 8,none⟩ = some (.int .i64 ((rd_T31 x12_12 2).f0)) ∧ w'.cell? ⟨ad239.block,ad239.off + 8 + 1,none⟩ = some (.int .i64 ((rd_T31 x12_12 2).f1)) ∧ w'.cell? ⟨ad239.block,ad239.off + 8 + 2,none⟩ = some (.string ((rd_T31 x12_12 2).f2)) ∧ w'.cell? ⟨ad239.block,ad239.off + 8 + 3,none⟩ = some (.slice A248_3 ((rd_T31 x12_12 2).f3).length c248_3)) (ds := []) #[false,false,false,false,false,false,false,false,false,false,false,false] (by kernel_rfl) rfl rfl ⟨hx247_0,hx247_1,hx247_2,hx247_3,hx248_0,hx248_1,hx248_2,hx248_3⟩ (fun hHeld=>?_); refine with_tabW flagstonelaw3_ValueOrder.tab15 flagstonelaw3_ValueOrder.bits15 (fun HT_ HW_=>?_)
             generalize w76.drew = w77 at HO_12 HL239_3 HL240_3 HL243_3 HL244_3 HR239_3 HR240_3 HR243_3 HR244_3 HB HL247_3 HL248_3 HR247_3 HR248_3 hx247_0 hx247_1 hx247_2 hx247_3 hx248_0 hx248_1 hx248_2 hx248_3 hHeld ⊢
             refine pure_ (i := 0) (N := some 93) (v := ?_) (a' := ?_) #[true,false,false,false,false,false,false,false,false,false,false,false] rfl rfl (any_of HT_.out (by kernel_rfl)) (fun _ _ _ h=>h) (Or.inl ⟨by rfl,?_⟩) ?_ ?_
             rotate_left
             ·intro w'
              go_simp
              with_reducible rfl
             rotate_left
             ·simp only [Act.put,List.setIfInBounds_toArray,List.set_cons_zero,List.set_cons_succ,i64_w,i32_w]
              rfl
             refine pure_ (i := 1) (N := some 94) (v := ?_) (a' := ?_) #[true,true,false,false,false,false,false,false,false,false,false,false] rfl rfl (any_of HT_.out (by kernel_rfl)) (fun _ _ _ h=>h) (Or.inl ⟨by rfl,?_⟩) ?_ ?_
             rotate_left
             ·intro w'
              go_simp
              with_reducible rfl
             rotate_left
             ·simp only [Act.put,List.setIfInBounds_toArray,List.set_cons_zero,List.set_cons_succ,i64_w,i32_w]
              rfl
             refine pure_ (i := 3) (N := some 96) (v := ?_) (a' := ?_) #[true,true,false,true,false,false,false,false,false,false,false,false] rfl rfl (any_of HT_.out (by kernel_rfl)) (fun _ _ _ h=>h) (Or.inl ⟨by rfl,?_⟩) ?_ ?_
             rotate_left
             ·intro w'
              go_simp
              with_reducible rfl
             rotate_left
             ·simp only [Act.put,List.setIfInBounds_toArray,List.set_cons_zero,List.set_cons_succ,i64_w,i32_w]
              rfl
             refine pure_ (i := 4) (N := some 97) (v := ?_) (a' := ?_) #[true,true,false,true,true,false,false,false,false,false,false,false] rfl rfl (any_of HT_.out (by kernel_rfl)) (fun _ _ _ h=>h) (Or.inl ⟨by rfl,?_⟩) ?_ ?_
             rotate_left
             ·intro w'
              go_simp
              with_reducible rfl
             rotate_left
             ·simp only [Act.put,List.setIfInBounds_toArray,List.set_cons_zero,List.set_cons_succ,i64_w,i32_w]
              rfl
             refine take_ (i := 2) (N := some 95) (v := ?_) (a' := ?_) #[true,true,true,true,true,false,false,false,false,false,false,false] rfl rfl (take_ofW HT_.out HW_.out (by kernel_rfl)) (fun _ _ _ h=>h) (Or.inl ⟨by rfl,?_⟩) hHeld ?_ ?_
             rotate_left
             ·rintro w' ⟨s0,s1,s2,s3,s4,s5,s6,s7⟩
              go_simp
              with_reducible rfl
             rotate_left
             ·simp only [Act.put,List.setIfInBounds_toArray,List.set_cons_zero,List.set_cons_succ,i64_w,i32_w]
              rfl
             refine take_ (i := 5) (N := some 98) (v := ?_) (a' := ?_) #[true,true,true,true,true,true,false,false,false,false,false,false] rfl rfl (take_ofW HT_.out HW_.out (by kernel_rfl)) (fun _ _ _ h=>h) (Or.inl ⟨by rfl,?_⟩) hHeld ?_ ?_
             rotate_left
             ·rintro w' ⟨s0,s1,s2,s3,s4,s5,s6,s7⟩
              go_simp
              with_reducible rfl
             rotate_left
             ·simp only [Act.put,List.setIfInBounds_toArray,List.set_cons_zero,List.set_cons_succ,i64_w,i32_w]
              rfl
             refine one_ (i := 6) (N := some 99) #[true,true,true,true,true,true,true,false,false,false,false,false] rfl rfl (one_of HT_.out (by kernel_rfl)) (by decide) (fun K hK=>?_)
             refine goes_ Tryd.func9 (by kernel_rfl) rfl #[.agg #[.int .i64 ((rd_T31 x12_12 0).f0),.int .i64 ((rd_T31 x12_12 0).f1),.string ((rd_T31 x12_12 0).f2),.slice A247_3 ((rd_T31 x12_12 0).f3).length c247_3],.agg #[.int .i64 ((rd_T31 x12_12 2).f0),.int .i64 ((rd_T31 x12_12 2).f1),.string ((rd_T31 x12_12 2).f2),.slice A248_3 ((rd_T31 x12_12 2).f3).length c248_3]] (by rfl) rfl rfl (by (try simp only [List.map_toArray,List.map_cons,List.map_nil]); first|done|rfl|(simp only [List.length_drop,List.length_take]; rfl)) ?_
             with_reducible refine (value_Compare.calls kj12 ((rd_T31 x12_12 0).f0) ((rd_T31 x12_12 0).f1) ((rd_T31 x12_12 0).f2) _ _ ((rd_T31 x12_12 0).f3) ((rd_T31 x12_12 2).f0) ((rd_T31 x12_12 2).f1) ((rd_T31 x12_12 2).f2) _ _ ((rd_T31 x12_12 2).f3) t249 t250 _ ?side1 ?side2 ?side3 ?side4 ?side5 A48.out).mono ?_
             (case side1=>repeat (first|exact (by repeat (first|(with_reducible exact HR247_3.out)|(with_reducible refine Kd.C_alloc ?_ _)|(with_reducible refine Kd.C_drewN ?_ _)|(with_reducible refine Kd.C_drew ?_)|exact HR247_3.out))|(with_reducible refine Kd.C_alloc ?_ _)|(with_reducible refine Kd.C_drewN ?_ _)|(with_reducible refine Kd.C_drew ?_)))
             (case side2=>exact HC247_3.out)
             (case side3=>repeat (first|exact (by repeat (first|(with_reducible exact HR248_3.out)|(with_reducible refine Kd.C_alloc ?_ _)|(with_reducible refine Kd.C_drewN ?_ _)|(with_reducible refine Kd.C_drew ?_)|exact HR248_3.out))|(with_reducible refine Kd.C_alloc ?_ _)|(with_reducible refine Kd.C_drewN ?_ _)|(with_reducible refine Kd.C_drew ?_)))
             (case side4=>exact HC248_3.out)
             (case side5=>exact GL.below HGL.out (by repeat (first|(with_reducible first|exact HB.out|apply zE|apply zB|apply zC)|exact HB.out)))
             rintro e w78 ⟨rfl,hb⟩
             have HS0_:=(hb.cell (World.block_lt_of_cell? _ _ (hHeld.1))).trans (hHeld.1)
             have HS1_:=(hb.cell (World.block_lt_of_cell? _ _ (hHeld.2.1))).trans (hHeld.2.1)
             have HS2_:=(hb.cell (World.block_lt_of_cell? _ _ (hHeld.2.2.1))).trans (hHeld.2.2.1)
             have HS3_:=(hb.cell (World.block_lt_of_cell? _ _ (hHeld.2.2.2.1))).trans (hHeld.2.2.2.1)
             have HS4_:=(hb.cell (World.block_lt_of_cell? _ _ (hHeld.2.2.2.2.1))).trans (hHeld.2.2.2.2.1)
             have HS5_:=(hb.cell (World.block_lt_of_cell? _ _ (hHeld.2.2.2.2.2.1))).trans (hHeld.2.2.2.2.2.1)
             have HS6_:=(hb.cell (World.block_lt_of_cell? _ _ (hHeld.2.2.2.2.2.2.1))).trans (hHeld.2.2.2.2.2.2.1)
             have HS7_:=(hb.cell (World.block_lt_of_cell? _ _ (hHeld.2.2.2.2.2.2.2))).trans (hHeld.2.2.2.2.2.2.2)
             refine ⟨_,rfl,?_⟩
             have n0_ := Aside0.mk (Kd.N_below (by (with_reducible repeat (first|apply Kd.N_alloc|apply Kd.N_drewN|apply Kd.N_drew)); exact HO_12.out) hb)
             have n1_ := Aside0.mk (Kd.V_below (by (with_reducible repeat (first|apply Kd.V_alloc|apply Kd.V_drewN|apply Kd.V_drew)); exact HL239_3.out) hb)
             have n2_ := Aside0.mk (Kd.V_below (by (with_reducible repeat (first|apply Kd.V_alloc|apply Kd.V_drewN|apply Kd.V_drew)); exact HL240_3.out) hb)
             have n3_ := Aside0.mk (Kd.V_below (by (with_reducible repeat (first|apply Kd.V_alloc|apply Kd.V_drewN|apply Kd.V_drew)); exact HL243_3.out) hb)
             have n4_ := Aside0.mk (Kd.V_below (by (with_reducible repeat (first|apply Kd.V_alloc|apply Kd.V_drewN|apply Kd.V_drew)); exact HL244_3.out) hb)
             have n5_ := Aside0.mk (Kd.V_below (by (with_reducible repeat (first|apply Kd.V_alloc|apply Kd.V_drewN|apply Kd.V_drew)); exact HL247_3.out) hb)
             have n6_ := Aside0.mk (Kd.V_below (by (with_reducible repeat (first|apply Kd.V_alloc|apply Kd.V_drewN|apply Kd.V_drew)); exact HL248_3.out) hb)
             have n7_ := Aside0.mk (Kd.C_below (by repeat (first|(with_reducible exact HR239_3.out)|(with_reducible refine Kd.C_alloc ?_ _)|(with_reducible refine Kd.C_drewN ?_ _)|(with_reducible refine Kd.C_drew ?_)|exact HR239_3.out)) hb)
             have n8_ := Aside0.mk (Kd.C_below (by repeat (first|(with_reducible exact HR240_3.out)|(with_reducible refine Kd.C_alloc ?_ _)|(with_reducible refine Kd.C_drewN ?_ _)|(with_reducible refine Kd.C_drew ?_)|exact HR240_3.out)) hb)
             have n9_ := Aside0.mk (Kd.C_below (by repeat (first|(with_reducible exact HR243_3.out)|(with_reducible refine Kd.C_alloc ?_ _)|(with_reducible refine Kd.C_drewN ?_ _)|(with_reducible refine Kd.C_drew ?_)|exact HR243_3.out)) hb)
             have n10_ := Aside0.mk (Kd.C_below (by repeat (first|(with_reducible exact HR244_3.out)|(with_reducible refine Kd.C_alloc ?_ _)|(with_reducible refine Kd.C_drewN ?_ _)|(with_reducible refine Kd.C_drew ?_)|exact HR244_3.out)) hb)
             have n11_ := Aside0.mk (Kd.C_below (by repeat (first|(with_reducible exact HR247_3.out)|(with_reducible refine Kd.C_alloc ?_ _)|(with_reducible refine Kd.C_drewN ?_ _)|(with_reducible refine Kd.C_drew ?_)|exact HR247_3.out)) hb)
             have n12_ := Aside0.mk (Kd.C_below (by repeat (first|(with_reducible exact HR248_3.out)|(with_reducible refine Kd.C_alloc ?_ _)|(with_reducible refine Kd.C_drewN ?_ _)|(with_reducible refine Kd.C_drew ?_)|exact HR248_3.out)) hb)
             have n13_ := Aside0.mk (below_step (by repeat (first|(with_reducible first|exact HB.out|apply zE|apply zB|apply zC)|exact HB.out)) hb)
             clear HO_12 HL239_3 HL240_3 HL243_3 HL244_3 HL247_3 HL248_3 HR239_3 HR240_3 HR243_3 HR244_3 HR247_3 HR248_3 HB; have HO_12 := n0_; have HL239_3 := n1_; have HL240_3 := n2_; have HL243_3 := n3_; have HL244_3 := n4_; have HL247_3 := n5_; have HL248_3 := n6_; have HR239_3 := n7_; have HR240_3 := n8_; have HR243_3 := n9_; have HR244_3 := n10_; have HR247_3 := n11_; have HR248_3 := n12_; have HB := n13_; clear n0_ n1_ n2_ n3_ n4_ n5_ n6_ n7_ n8_ n9_ n10_ n11_ n12_ n13_
             (try clear hb)
             (try clear hb2)
             (try clear hk)
             (try clear hi)
             (try clear hge)
             refine hK.out _ _ ⟨HS0_,HS1_,HS2_,HS3_,HS4_,HS5_,HS6_,HS7_⟩ (fun hHeld=>?_)
             clear hK K
             refine norm_ (a' := ?_) ?_ ?_
             rotate_left
             ·show Act.put _ (some 99) _ = _
              simp only [Act.put,List.setIfInBounds_toArray,List.set_cons_zero,List.set_cons_succ,i64_w,i32_w]
              rfl
             refine pure_ (i := 7) (N := some 92) (v := ?_) (a' := ?_) #[true,true,true,true,true,true,true,true,false,false,false,false] rfl rfl (any_of HT_.out (by kernel_rfl)) (fun _ _ _ h=>h) (Or.inl ⟨by rfl,?_⟩) ?_ ?_
             rotate_left
             ·intro w'
              go_simp
              with_reducible rfl
             rotate_left
             ·simp only [Act.put,List.setIfInBounds_toArray,List.set_cons_zero,List.set_cons_succ,i64_w,i32_w]
              rfl
             refine pure_ (i := 8) (N := some 100) (v := ?_) (a' := ?_) #[true,true,true,true,true,true,true,true,true,false,false,false] rfl rfl (any_of HT_.out (by kernel_rfl)) (fun _ _ _ h=>h) (Or.inl ⟨by rfl,?_⟩) ?_ ?_
             rotate_left
             ·intro w'
              go_simp
              with_reducible rfl
             rotate_left
             ·simp only [Act.put,List.setIfInBounds_toArray,List.set_cons_zero,List.set_cons_succ,i64_w,i32_w]
              rfl
             refine pure_ (i := 9) (N := some 101) (v := ?_) (a' := ?_) #[true,true,true,true,true,true,true,true,true,true,false,false] rfl rfl (any_of HT_.out (by kernel_rfl)) (fun _ _ _ h=>h) (Or.inl ⟨by rfl,?_⟩) ?_ ?_
             rotate_left
             ·intro w'
              go_simp
              with_reducible rfl
             rotate_left
             ·simp only [Act.put,List.setIfInBounds_toArray,List.set_cons_zero,List.set_cons_succ,i64_w,i32_w]
              rfl
             refine pure_ (i := 10) (N := some 19) (v := ?_) (a' := ?_) #[true,true,true,true,true,true,true,true,true,true,true,false] rfl rfl (any_of HT_.out (by kernel_rfl)) (fun _ _ _ h=>h) (Or.inl ⟨by rfl,?_⟩) ?_ ?_
             rotate_left
             ·intro w'
              go_simp
              with_reducible rfl
             rotate_left
             ·simp only [Act.put,List.setIfInBounds_toArray,List.set_cons_zero,List.set_cons_succ,i64_w,i32_w]
              rfl
             refine pure_ (i := 11) (N := some 20) (v := ?_) (a' := ?_) #[true,true,true,true,true,true,true,true,true,true,true,true] rfl rfl (any_of HT_.out (by kernel_rfl)) (fun _ _ _ h=>h) (Or.inl ⟨by rfl,?_⟩) ?_ ?_
             rotate_left
             ·intro w'
              go_simp
              with_reducible rfl
             rotate_left
             ·simp only [Act.put,List.setIfInBounds_toArray,List.set_cons_zero,List.set_cons_succ,i64_w,i32_w]
              rfl
             refine done_ (done_of HT_.out (by kernel_rfl)) ?_
             try go_wp2
             have n0_ := Aside0.mk (Kd.N_drew HO_12.out)
             have n1_ := Aside0.mk (Kd.V_drew HL239_3.out)
             have n2_ := Aside0.mk (Kd.V_drew HL240_3.out)
             have n3_ := Aside0.mk (Kd.V_drew HL243_3.out)
             have n4_ := Aside0.mk (Kd.V_drew HL244_3.out)
             have n5_ := Aside0.mk (Kd.V_drew HL247_3.out)
             have n6_ := Aside0.mk (Kd.V_drew HL248_3.out)
             have n7_ := Aside0.mk (Kd.C_drew HR239_3.out)
             have n8_ := Aside0.mk (Kd.C_drew HR240_3.out)
             have n9_ := Aside0.mk (Kd.C_drew HR243_3.out)
             have n10_ := Aside0.mk (Kd.C_drew HR244_3.out)
             have n11_ := Aside0.mk (Kd.C_drew HR247_3.out)
             have n12_ := Aside0.mk (Kd.C_drew HR248_3.out)
             have n13_ := Aside0.mk (zC HB.out)
             clear HO_12 HL239_3 HL240_3 HL243_3 HL244_3 HL247_3 HL248_3 HR239_3 HR240_3 HR243_3 HR244_3 HR247_3 HR248_3 HB; have HO_12 := n0_; have HL239_3 := n1_; have HL240_3 := n2_; have HL243_3 := n3_; have HL244_3 := n4_; have HL247_3 := n5_; have HL248_3 := n6_; have HR239_3 := n7_; have HR240_3 := n8_; have HR243_3 := n9_; have HR244_3 := n10_; have HR247_3 := n11_; have HR248_3 := n12_; have HB := n13_; clear n0_ n1_ n2_ n3_ n4_ n5_ n6_ n7_ n8_ n9_ n10_ n11_ n12_ n13_
             have p251 : 0 ≤ (1 : Int):=(by omega)
             have q251 : 1 < (x12_12.length : Int) := of_decide_eq_true (by first|(with_reducible assumption)|assumption)
             obtain ⟨ad251,A251_3,c251_3,e251,hx251_0,hx251_1,hx251_2,hx251_3,hl251_3,hi251_3⟩ := at_T31 (Kd.N_reads' HO_12.out).2.2 1 p251 q251
             obtain rfl : ad239 = ad251:=(by injection e251)
             obtain ⟨ce251,hce251,hMe251,hcc251⟩ := Kd.N_get HO_12.out z31 1 p251 (by first|exact q251|exact of_decide_eq_true (by first|(with_reducible assumption)|assumption)|(have e_:=(Kd.N_reads' HO_12.out).1; omega))
             obtain ⟨ua251_3,uc251_3,rfl,ul251_3,ge251_3⟩ := k31_openF hMe251
             have hv251_3 := hcc251 3 _ rfl
             rw [add_field _ _ 3 (by omega)] at hv251_3
             replace hv251_3 := Option.some.inj (hv251_3.symm.trans hx251_3)
             injection hv251_3 with hva_ hvn_ hvc_
             rw [hva_] at ge251_3
             rw [hvc_] at ul251_3
             have HL251_3 := Aside0.mk (show Kd.V Kd.string 9 _ w.heap.size _ _ ((rd_T31 x12_12 1).f3) from Kd.V_mk ul251_3 ge251_3)
             clear hva_ hvn_ hvc_ ge251_3 ul251_3 hcc251 hce251
             (try simp only [show (1 : Int).toNat = 1 from rfl,Nat.reduceMul,Nat.reduceEqDiff,Go.Addr.add,↓reduceIte] at hx251_0)
             (try simp only [show (1 : Int).toNat = 1 from rfl,Nat.reduceMul,Nat.reduceEqDiff,Go.Addr.add,↓reduceIte] at hx251_1)
             (try simp only [show (1 : Int).toNat = 1 from rfl,Nat.reduceMul,Nat.reduceEqDiff,Go.Addr.add,↓reduceIte] at hx251_2)
             (try simp only [show (1 : Int).toNat = 1 from rfl,Nat.reduceMul,Nat.reduceEqDiff,Go.Addr.add,↓reduceIte] at hx251_3)
             have qi251 : (1 < x12_12.length) = True := eq_true (by omega)
             (try rw [show ((1 : Int)).toNat = 1 from rfl] at hx251_0)
             (try rw [show 1 * 4 = 4 from rfl] at hx251_0)
             (try rw [show ((1 : Int)).toNat = 1 from rfl] at hx251_1)
             (try rw [show 1 * 4 = 4 from rfl] at hx251_1)
             (try rw [show ((1 : Int)).toNat = 1 from rfl] at hx251_2)
             (try rw [show 1 * 4 = 4 from rfl] at hx251_2)
             (try rw [show ((1 : Int)).toNat = 1 from rfl] at hx251_3)
             (try rw [show 1 * 4 = 4 from rfl] at hx251_3)
             have HR251_3 := Aside0.mk hi251_3; have HC251_3 := Aside0.mk hl251_3; clear hi251_3 hl251_3
             replace p251 := eq_true p251
             replace q251 := eq_true q251
             have p252 : 0 ≤ (0 : Int):=(by omega)
             have q252 : 0 < (x12_12.length : Int) := of_decide_eq_true (by first|(with_reducible assumption)|assumption)
             obtain ⟨ad252,A252_3,c252_3,e252,hx252_0,hx252_1,hx252_2,hx252_3,hl252_3,hi252_3⟩ := at_T31 (Kd.N_reads' HO_12.out).2.2 0 p252 q252
             obtain rfl : ad239 = ad252:=(by injection e252)
             obtain ⟨ce252,hce252,hMe252,hcc252⟩ := Kd.N_get HO_12.out z31 0 p252 (by first|exact q252|exact of_decide_eq_true (by first|(with_reducible assumption)|assumption)|(have e_:=(Kd.N_reads' HO_12.out).1; omega))
             obtain ⟨ua252_3,uc252_3,rfl,ul252_3,ge252_3⟩ := k31_openF hMe252
             have hv252_3 := hcc252 3 _ rfl
             rw [add_field _ _ 3 (by omega)] at hv252_3
             replace hv252_3 := Option.some.inj (hv252_3.symm.trans hx252_3)
             injection hv252_3 with hva_ hvn_ hvc_
             rw [hva_] at ge252_3
             rw [hvc_] at ul252_3
             have HL252_3 := Aside0.mk (show Kd.V Kd.string 9 _ w.heap.size _ _ ((rd_T31 x12_12 0).f3) from Kd.V_mk ul252_3 ge252_3)
             clear hva_ hvn_ hvc_ ge252_3 ul252_3 hcc252 hce252
             have qi252 : (0 < x12_12.length) = True := eq_true (by omega)
             (try rw [show ((0 : Int)).toNat = 0 from rfl] at hx252_0)
             (try rw [show 0 * 4 = 0 from rfl] at hx252_0)
             (try rw [Addr.add_zero'] at hx252_0)
             (try rw [show ((0 : Int)).toNat = 0 from rfl] at hx252_1)
             (try rw [show 0 * 4 = 0 from rfl] at hx252_1)
             (try rw [Addr.add_zero'] at hx252_1)
             (try rw [show ((0 : Int)).toNat = 0 from rfl] at hx252_2)
             (try rw [show 0 * 4 = 0 from rfl] at hx252_2)
             (try rw [Addr.add_zero'] at hx252_2)
             (try rw [show ((0 : Int)).toNat = 0 from rfl] at hx252_3)
             (try rw [show 0 * 4 = 0 from rfl] at hx252_3)
             (try rw [Addr.add_zero'] at hx252_3)
             have HR252_3 := Aside0.mk hi252_3; have HC252_3 := Aside0.mk hl252_3; clear hi252_3 hl252_3
             replace p252 := eq_true p252
             replace q252 := eq_true q252
             refine start_ (n := 12) (S := fun w'=>w'.cell? ⟨ad239.block,ad239.off + 4,none⟩ = some (.int .i64 ((rd_T31 x12_12 1).f0)) ∧ w'.cell? ⟨ad239.block,ad239.off + 4 + 1,none⟩ = some (.int .i64 ((rd_T31 x12_12 1).f1)) ∧ w'.cell? ⟨ad239.block,ad239.off + 4 + 2,none⟩ = some (.string ((rd_T31 x12_12 1).f2)) ∧ w'.cell? ⟨ad239.block,ad239.off + 4 + 3,none⟩ = some (.slice A251_3 ((rd_T31 x12_12 1).f3).length c251_3) ∧ w'.cell? ad239 = some (.int .i64 ((rd_T31 x12_12 0).f0)) ∧ w'.cell? ⟨ad239.block,ad239.off + 1,none⟩ = some (.int .i64 ((rd_T31 x12_12 0).f1)) ∧ w'.cell? ⟨ad239.block,ad239.off + 2,none⟩ = some (.string ((rd_T31 x12_12 0).f2)) ∧ w'.cell? ⟨ad239.block,ad239.off + 3,none⟩ = some (.slice A252_3 ((rd_T31 x12_12 0).f3).length c252_3)) (ds := []) #[false,false,false,false,false,false,false,false,false,false,false,false] (by kernel_rfl) rfl rfl ⟨hx251_0,hx251_1,hx251_2,hx251_3,hx252_0,hx252_1,hx252_2,hx252_3⟩ (fun hHeld=>?_); refine with_tabW flagstonelaw3_ValueOrder.tab16 flagstonelaw3_ValueOrder.bits16 (fun HT_ HW_=>?_)
             generalize w78.drew = w79 at HO_12 HL239_3 HL240_3 HL243_3 HL244_3 HL247_3 HL248_3 HR239_3 HR240_3 HR243_3 HR244_3 HR247_3 HR248_3 HB HL251_3 HL252_3 HR251_3 HR252_3 hx251_0 hx251_1 hx251_2 hx251_3 hx252_0 hx252_1 hx252_2 hx252_3 hHeld ⊢
             refine pure_ (i := 0) (N := some 103) (v := ?_) (a' := ?_) #[true,false,false,false,false,false,false,false,false,false,false,false] rfl rfl (any_of HT_.out (by kernel_rfl)) (fun _ _ _ h=>h) (Or.inl ⟨by rfl,?_⟩) ?_ ?_
             rotate_left
             ·intro w'
              go_simp
              with_reducible rfl
             rotate_left
             ·simp only [Act.put,List.setIfInBounds_toArray,List.set_cons_zero,List.set_cons_succ,i64_w,i32_w]
              rfl
             refine pure_ (i := 1) (N := some 104) (v := ?_) (a' := ?_) #[true,true,false,false,false,false,false,false,false,false,false,false] rfl rfl (any_of HT_.out (by kernel_rfl)) (fun _ _ _ h=>h) (Or.inl ⟨by rfl,?_⟩) ?_ ?_
             rotate_left
             ·intro w'
              go_simp
              with_reducible rfl
             rotate_left
             ·simp only [Act.put,List.setIfInBounds_toArray,List.set_cons_zero,List.set_cons_succ,i64_w,i32_w]
              rfl
             refine pure_ (i := 3) (N := some 106) (v := ?_) (a' := ?_) #[true,true,false,true,false,false,false,false,false,false,false,false] rfl rfl (any_of HT_.out (by kernel_rfl)) (fun _ _ _ h=>h) (Or.inl ⟨by rfl,?_⟩) ?_ ?_
             rotate_left
             ·intro w'
              go_simp
              with_reducible rfl
             rotate_left
             ·simp only [Act.put,List.setIfInBounds_toArray,List.set_cons_zero,List.set_cons_succ,i64_w,i32_w]
              rfl
             refine pure_ (i := 4) (N := some 107) (v := ?_) (a' := ?_) #[true,true,false,true,true,false,false,false,false,false,false,false] rfl rfl (any_of HT_.out (by kernel_rfl)) (fun _ _ _ h=>h) (Or.inl ⟨by rfl,?_⟩) ?_ ?_
             rotate_left
             ·intro w'
              go_simp
              with_reducible rfl
             rotate_left
             ·simp only [Act.put,List.setIfInBounds_toArray,List.set_cons_zero,List.set_cons_succ,i64_w,i32_w]
              rfl
             refine take_ (i := 2) (N := some 105) (v := ?_) (a' := ?_) #[true,true,true,true,true,false,false,false,false,false,false,false] rfl rfl (take_ofW HT_.out HW_.out (by kernel_rfl)) (fun _ _ _ h=>h) (Or.inl ⟨by rfl,?_⟩) hHeld ?_ ?_
             rotate_left
             ·rintro w' ⟨s0,s1,s2,s3,s4,s5,s6,s7⟩
              go_simp
              with_reducible rfl
             rotate_left
             ·simp only [Act.put,List.setIfInBounds_toArray,List.set_cons_zero,List.set_cons_succ,i64_w,i32_w]
              rfl
             refine take_ (i := 5) (N := some 108) (v := ?_) (a' := ?_) #[true,true,true,true,true,true,false,false,false,false,false,false] rfl rfl (take_ofW HT_.out HW_.out (by kernel_rfl)) (fun _ _ _ h=>h) (Or.inl ⟨by rfl,?_⟩) hHeld ?_ ?_
             rotate_left
             ·rintro w' ⟨s0,s1,s2,s3,s4,s5,s6,s7⟩
              go_simp
              with_reducible rfl
             rotate_left
             ·simp only [Act.put,List.setIfInBounds_toArray,List.set_cons_zero,List.set_cons_succ,i64_w,i32_w]
              rfl
             refine one_ (i := 6) (N := some 109) #[true,true,true,true,true,true,true,false,false,false,false,false] rfl rfl (one_of HT_.out (by kernel_rfl)) (by decide) (fun K hK=>?_)
             refine goes_ Tryd.func9 (by kernel_rfl) rfl #[.agg #[.int .i64 ((rd_T31 x12_12 1).f0),.int .i64 ((rd_T31 x12_12 1).f1),.string ((rd_T31 x12_12 1).f2),.slice A251_3 ((rd_T31 x12_12 1).f3).length c251_3],.agg #[.int .i64 ((rd_T31 x12_12 0).f0),.int .i64 ((rd_T31 x12_12 0).f1),.string ((rd_T31 x12_12 0).f2),.slice A252_3 ((rd_T31 x12_12 0).f3).length c252_3]] (by rfl) rfl rfl (by (try simp only [List.map_toArray,List.map_cons,List.map_nil]); first|done|rfl|(simp only [List.length_drop,List.length_take]; rfl)) ?_
             with_reducible refine (value_Compare.calls kj12 ((rd_T31 x12_12 1).f0) ((rd_T31 x12_12 1).f1) ((rd_T31 x12_12 1).f2) _ _ ((rd_T31 x12_12 1).f3) ((rd_T31 x12_12 0).f0) ((rd_T31 x12_12 0).f1) ((rd_T31 x12_12 0).f2) _ _ ((rd_T31 x12_12 0).f3) t253 t254 _ ?side1 ?side2 ?side3 ?side4 ?side5 A49.out).mono ?_
             (case side1=>repeat (first|exact (by repeat (first|(with_reducible exact HR251_3.out)|(with_reducible refine Kd.C_alloc ?_ _)|(with_reducible refine Kd.C_drewN ?_ _)|(with_reducible refine Kd.C_drew ?_)|exact HR251_3.out))|(with_reducible refine Kd.C_alloc ?_ _)|(with_reducible refine Kd.C_drewN ?_ _)|(with_reducible refine Kd.C_drew ?_)))
             (case side2=>exact HC251_3.out)
             (case side3=>repeat (first|exact (by repeat (first|(with_reducible exact HR252_3.out)|(with_reducible refine Kd.C_alloc ?_ _)|(with_reducible refine Kd.C_drewN ?_ _)|(with_reducible refine Kd.C_drew ?_)|exact HR252_3.out))|(with_reducible refine Kd.C_alloc ?_ _)|(with_reducible refine Kd.C_drewN ?_ _)|(with_reducible refine Kd.C_drew ?_)))
             (case side4=>exact HC252_3.out)
             (case side5=>exact GL.below HGL.out (by repeat (first|(with_reducible first|exact HB.out|apply zE|apply zB|apply zC)|exact HB.out)))
             rintro e w80 ⟨rfl,hb⟩
             have HS0_:=(hb.cell (World.block_lt_of_cell? _ _ (hHeld.1))).trans (hHeld.1)
             have HS1_:=(hb.cell (World.block_lt_of_cell? _ _ (hHeld.2.1))).trans (hHeld.2.1)
             have HS2_:=(hb.cell (World.block_lt_of_cell? _ _ (hHeld.2.2.1))).trans (hHeld.2.2.1)
             have HS3_:=(hb.cell (World.block_lt_of_cell? _ _ (hHeld.2.2.2.1))).trans (hHeld.2.2.2.1)
             have HS4_:=(hb.cell (World.block_lt_of_cell? _ _ (hHeld.2.2.2.2.1))).trans (hHeld.2.2.2.2.1)
             have HS5_:=(hb.cell (World.block_lt_of_cell? _ _ (hHeld.2.2.2.2.2.1))).trans (hHeld.2.2.2.2.2.1)
             have HS6_:=(hb.cell (World.block_lt_of_cell? _ _ (hHeld.2.2.2.2.2.2.1))).trans (hHeld.2.2.2.2.2.2.1)
             have HS7_:=(hb.cell (World.block_lt_of_cell? _ _ (hHeld.2.2.2.2.2.2.2))).trans (hHeld.2.2.2.2.2.2.2)
             refine ⟨_,rfl,?_⟩
             have n0_ := Aside0.mk (Kd.N_below (by (with_reducible repeat (first|apply Kd.N_alloc|apply Kd.N_drewN|apply Kd.N_drew)); exact HO_12.out) hb)
             have n1_ := Aside0.mk (Kd.V_below (by (with_reducible repeat (first|apply Kd.V_alloc|apply Kd.V_drewN|apply Kd.V_drew)); exact HL239_3.out) hb)
             have n2_ := Aside0.mk (Kd.V_below (by (with_reducible repeat (first|apply Kd.V_alloc|apply Kd.V_drewN|apply Kd.V_drew)); exact HL240_3.out) hb)
             have n3_ := Aside0.mk (Kd.V_below (by (with_reducible repeat (first|apply Kd.V_alloc|apply Kd.V_drewN|apply Kd.V_drew)); exact HL243_3.out) hb)
             have n4_ := Aside0.mk (Kd.V_below (by (with_reducible repeat (first|apply Kd.V_alloc|apply Kd.V_drewN|apply Kd.V_drew)); exact HL244_3.out) hb)
             have n5_ := Aside0.mk (Kd.V_below (by (with_reducible repeat (first|apply Kd.V_alloc|apply Kd.V_drewN|apply Kd.V_drew)); exact HL247_3.out) hb)
             have n6_ := Aside0.mk (Kd.V_below (by (with_reducible repeat (first|apply Kd.V_alloc|apply Kd.V_drewN|apply Kd.V_drew)); exact HL248_3.out) hb)
             have n7_ := Aside0.mk (Kd.V_below (by (with_reducible repeat (first|apply Kd.V_alloc|apply Kd.V_drewN|apply Kd.V_drew)); exact HL251_3.out) hb)
             have n8_ := Aside0.mk (Kd.V_below (by (with_reducible repeat (first|apply Kd.V_alloc|apply Kd.V_drewN|apply Kd.V_drew)); exact HL252_3.out) hb)
             have n9_ := Aside0.mk (Kd.C_below (by repeat (first|(with_reducible exact HR239_3.out)|(with_reducible refine Kd.C_alloc ?_ _)|(with_reducible refine Kd.C_drewN ?_ _)|(with_reducible refine Kd.C_drew ?_)|exact HR239_3.out)) hb)
             have n10_ := Aside0.mk (Kd.C_below (by repeat (first|(with_reducible exact HR240_3.out)|(with_reducible refine Kd.C_alloc ?_ _)|(with_reducible refine Kd.C_drewN ?_ _)|(with_reducible refine Kd.C_drew ?_)|exact HR240_3.out)) hb)
             have n11_ := Aside0.mk (Kd.C_below (by repeat (first|(with_reducible exact HR243_3.out)|(with_reducible refine Kd.C_alloc ?_ _)|(with_reducible refine Kd.C_drewN ?_ _)|(with_reducible refine Kd.C_drew ?_)|exact HR243_3.out)) hb)
             have n12_ := Aside0.mk (Kd.C_below (by repeat (first|(with_reducible exact HR244_3.out)|(with_reducible refine Kd.C_alloc ?_ _)|(with_reducible refine Kd.C_drewN ?_ _)|(with_reducible refine Kd.C_drew ?_)|exact HR244_3.out)) hb)
             have n13_ := Aside0.mk (Kd.C_below (by repeat (first|(with_reducible exact HR247_3.out)|(with_reducible refine Kd.C_alloc ?_ _)|(with_reducible refine Kd.C_drewN ?_ _)|(with_reducible refine Kd.C_drew ?_)|exact HR247_3.out)) hb)
             have n14_ := Aside0.mk (Kd.C_below (by repeat (first|(with_reducible exact HR248_3.out)|(with_reducible refine Kd.C_alloc ?_ _)|(with_reducible refine Kd.C_drewN ?_ _)|(with_reducible refine Kd.C_drew ?_)|exact HR248_3.out)) hb)
             have n15_ := Aside0.mk (Kd.C_below (by repeat (first|(with_reducible exact HR251_3.out)|(with_reducible refine Kd.C_alloc ?_ _)|(with_reducible refine Kd.C_drewN ?_ _)|(with_reducible refine Kd.C_drew ?_)|exact HR251_3.out)) hb)
             have n16_ := Aside0.mk (Kd.C_below (by repeat (first|(with_reducible exact HR252_3.out)|(with_reducible refine Kd.C_alloc ?_ _)|(with_reducible refine Kd.C_drewN ?_ _)|(with_reducible refine Kd.C_drew ?_)|exact HR252_3.out)) hb)
             have n17_ := Aside0.mk (below_step (by repeat (first|(with_reducible first|exact HB.out|apply zE|apply zB|apply zC)|exact HB.out)) hb)
             clear HO_12 HL239_3 HL240_3 HL243_3 HL244_3 HL247_3 HL248_3 HL251_3 HL252_3 HR239_3 HR240_3 HR243_3 HR244_3 HR247_3 HR248_3 HR251_3 HR252_3 HB; have HO_12 := n0_; have HL239_3 := n1_; have HL240_3 := n2_; have HL243_3 := n3_; have HL244_3 := n4_; have HL247_3 := n5_; have HL248_3 := n6_; have HL251_3 := n7_; have HL252_3 := n8_; have HR239_3 := n9_; have HR240_3 := n10_; have HR243_3 := n11_; have HR244_3 := n12_; have HR247_3 := n13_; have HR248_3 := n14_; have HR251_3 := n15_; have HR252_3 := n16_; have HB := n17_; clear n0_ n1_ n2_ n3_ n4_ n5_ n6_ n7_ n8_ n9_ n10_ n11_ n12_ n13_ n14_ n15_ n16_ n17_
             (try clear hb)
             (try clear hb2)
             (try clear hk)
             (try clear hi)
             (try clear hge)
             refine hK.out _ _ ⟨HS0_,HS1_,HS2_,HS3_,HS4_,HS5_,HS6_,HS7_⟩ (fun hHeld=>?_)
             clear hK K
             refine norm_ (a' := ?_) ?_ ?_
             rotate_left
             ·show Act.put _ (some 109) _ = _
              simp only [Act.put,List.setIfInBounds_toArray,List.set_cons_zero,List.set_cons_succ,i64_w,i32_w]
              rfl
             refine pure_ (i := 7) (N := some 102) (v := ?_) (a' := ?_) #[true,true,true,true,true,true,true,true,false,false,false,false] rfl rfl (any_of HT_.out (by kernel_rfl)) (fun _ _ _ h=>h) (Or.inl ⟨by rfl,?_⟩) ?_ ?_
             rotate_left
             ·intro w'
              go_simp
              with_reducible rfl
             rotate_left
             ·simp only [Act.put,List.setIfInBounds_toArray,List.set_cons_zero,List.set_cons_succ,i64_w,i32_w]
              rfl
             refine pure_ (i := 8) (N := some 110) (v := ?_) (a' := ?_) #[true,true,true,true,true,true,true,true,true,false,false,false] rfl rfl (any_of HT_.out (by kernel_rfl)) (fun _ _ _ h=>h) (Or.inl ⟨by rfl,?_⟩) ?_ ?_
             rotate_left
             ·intro w'
              go_simp
              with_reducible rfl
             rotate_left
             ·simp only [Act.put,List.setIfInBounds_toArray,List.set_cons_zero,List.set_cons_succ,i64_w,i32_w]
              rfl
             refine pure_ (i := 9) (N := some 111) (v := ?_) (a' := ?_) #[true,true,true,true,true,true,true,true,true,true,false,false] rfl rfl (any_of HT_.out (by kernel_rfl)) (fun _ _ _ h=>h) (Or.inl ⟨by rfl,?_⟩) ?_ ?_
             rotate_left
             ·intro w'
              go_simp
              with_reducible rfl
             rotate_left
             ·simp only [Act.put,List.setIfInBounds_toArray,List.set_cons_zero,List.set_cons_succ,i64_w,i32_w]
              rfl
             refine pure_ (i := 10) (N := some 21) (v := ?_) (a' := ?_) #[true,true,true,true,true,true,true,true,true,true,true,false] rfl rfl (any_of HT_.out (by kernel_rfl)) (fun _ _ _ h=>h) (Or.inl ⟨by rfl,?_⟩) ?_ ?_
             rotate_left
             ·intro w'
              go_simp
              with_reducible rfl
             rotate_left
             ·simp only [Act.put,List.setIfInBounds_toArray,List.set_cons_zero,List.set_cons_succ,i64_w,i32_w]
              rfl
             refine pure_ (i := 11) (N := some 22) (v := ?_) (a' := ?_) #[true,true,true,true,true,true,true,true,true,true,true,true] rfl rfl (any_of HT_.out (by kernel_rfl)) (fun _ _ _ h=>h) (Or.inl ⟨by rfl,?_⟩) ?_ ?_
             rotate_left
             ·intro w'
              go_simp
              with_reducible rfl
             rotate_left
             ·simp only [Act.put,List.setIfInBounds_toArray,List.set_cons_zero,List.set_cons_succ,i64_w,i32_w]
              rfl
             refine done_ (done_of HT_.out (by kernel_rfl)) ?_
             try go_wp2
             have n0_ := Aside0.mk (Kd.N_drew HO_12.out)
             have n1_ := Aside0.mk (Kd.V_drew HL239_3.out)
             have n2_ := Aside0.mk (Kd.V_drew HL240_3.out)
             have n3_ := Aside0.mk (Kd.V_drew HL243_3.out)
             have n4_ := Aside0.mk (Kd.V_drew HL244_3.out)
             have n5_ := Aside0.mk (Kd.V_drew HL247_3.out)
             have n6_ := Aside0.mk (Kd.V_drew HL248_3.out)
             have n7_ := Aside0.mk (Kd.V_drew HL251_3.out)
             have n8_ := Aside0.mk (Kd.V_drew HL252_3.out)
             have n9_ := Aside0.mk (Kd.C_drew HR239_3.out)
             have n10_ := Aside0.mk (Kd.C_drew HR240_3.out)
             have n11_ := Aside0.mk (Kd.C_drew HR243_3.out)
             have n12_ := Aside0.mk (Kd.C_drew HR244_3.out)
             have n13_ := Aside0.mk (Kd.C_drew HR247_3.out)
             have n14_ := Aside0.mk (Kd.C_drew HR248_3.out)
             have n15_ := Aside0.mk (Kd.C_drew HR251_3.out)
             have n16_ := Aside0.mk (Kd.C_drew HR252_3.out)
             have n17_ := Aside0.mk (zC HB.out)
             clear HO_12 HL239_3 HL240_3 HL243_3 HL244_3 HL247_3 HL248_3 HL251_3 HL252_3 HR239_3 HR240_3 HR243_3 HR244_3 HR247_3 HR248_3 HR251_3 HR252_3 HB; have HO_12 := n0_; have HL239_3 := n1_; have HL240_3 := n2_; have HL243_3 := n3_; have HL244_3 := n4_; have HL247_3 := n5_; have HL248_3 := n6_; have HL251_3 := n7_; have HL252_3 := n8_; have HR239_3 := n9_; have HR240_3 := n10_; have HR243_3 := n11_; have HR244_3 := n12_; have HR247_3 := n13_; have HR248_3 := n14_; have HR251_3 := n15_; have HR252_3 := n16_; have HB := n17_; clear n0_ n1_ n2_ n3_ n4_ n5_ n6_ n7_ n8_ n9_ n10_ n11_ n12_ n13_ n14_ n15_ n16_ n17_
             have p255 : 0 ≤ (0 : Int):=(by omega)
             have q255 : 0 < (x12_12.length : Int) := of_decide_eq_true (by first|(with_reducible assumption)|assumption)
             obtain ⟨ad255,A255_3,c255_3,e255,hx255_0,hx255_1,hx255_2,hx255_3,hl255_3,hi255_3⟩ := at_T31 (Kd.N_reads' HO_12.out).2.2 0 p255 q255
             obtain rfl : ad239 = ad255:=(by injection e255)
             obtain ⟨ce255,hce255,hMe255,hcc255⟩ := Kd.N_get HO_12.out z31 0 p255 (by first|exact q255|exact of_decide_eq_true (by first|(with_reducible assumption)|assumption)|(have e_:=(Kd.N_reads' HO_12.out).1; omega))
             obtain ⟨ua255_3,uc255_3,rfl,ul255_3,ge255_3⟩ := k31_openF hMe255
             have hv255_3 := hcc255 3 _ rfl
             rw [add_field _ _ 3 (by omega)] at hv255_3
             replace hv255_3 := Option.some.inj (hv255_3.symm.trans hx255_3)
             injection hv255_3 with hva_ hvn_ hvc_
             rw [hva_] at ge255_3
             rw [hvc_] at ul255_3
             have HL255_3 := Aside0.mk (show Kd.V Kd.string 9 _ w.heap.size _ _ ((rd_T31 x12_12 0).f3) from Kd.V_mk ul255_3 ge255_3)
             clear hva_ hvn_ hvc_ ge255_3 ul255_3 hcc255 hce255
             have qi255 : (0 < x12_12.length) = True := eq_true (by omega)
             (try rw [show ((0 : Int)).toNat = 0 from rfl] at hx255_0)
             (try rw [show 0 * 4 = 0 from rfl] at hx255_0)
             (try rw [Addr.add_zero'] at hx255_0)
             (try rw [show ((0 : Int)).toNat = 0 from rfl] at hx255_1)
             (try rw [show 0 * 4 = 0 from rfl] at hx255_1)
             (try rw [Addr.add_zero'] at hx255_1)
             (try rw [show ((0 : Int)).toNat = 0 from rfl] at hx255_2)
             (try rw [show 0 * 4 = 0 from rfl] at hx255_2)
             (try rw [Addr.add_zero'] at hx255_2)
             (try rw [show ((0 : Int)).toNat = 0 from rfl] at hx255_3)
             (try rw [show 0 * 4 = 0 from rfl] at hx255_3)
             (try rw [Addr.add_zero'] at hx255_3)
             have HR255_3 := Aside0.mk hi255_3; have HC255_3 := Aside0.mk hl255_3; clear hi255_3 hl255_3
             replace p255 := eq_true p255
             replace q255 := eq_true q255
             have p256 : 0 ≤ (1 : Int):=(by omega)
             have q256 : 1 < (x12_12.length : Int) := of_decide_eq_true (by first|(with_reducible assumption)|assumption)
             obtain ⟨ad256,A256_3,c256_3,e256,hx256_0,hx256_1,hx256_2,hx256_3,hl256_3,hi256_3⟩ := at_T31 (Kd.N_reads' HO_12.out).2.2 1 p256 q256
             obtain rfl : ad239 = ad256:=(by injection e256)
             obtain ⟨ce256,hce256,hMe256,hcc256⟩ := Kd.N_get HO_12.out z31 1 p256 (by first|exact q256|exact of_decide_eq_true (by first|(with_reducible assumption)|assumption)|(have e_:=(Kd.N_reads' HO_12.out).1; omega))
             obtain ⟨ua256_3,uc256_3,rfl,ul256_3,ge256_3⟩ := k31_openF hMe256
             have hv256_3 := hcc256 3 _ rfl
             rw [add_field _ _ 3 (by omega)] at hv256_3
             replace hv256_3 := Option.some.inj (hv256_3.symm.trans hx256_3)
             injection hv256_3 with hva_ hvn_ hvc_
             rw [hva_] at ge256_3
             rw [hvc_] at ul256_3
             have HL256_3 := Aside0.mk (show Kd.V Kd.string 9 _ w.heap.size _ _ ((rd_T31 x12_12 1).f3) from Kd.V_mk ul256_3 ge256_3)
             clear hva_ hvn_ hvc_ ge256_3 ul256_3 hcc256 hce256
             (try simp only [show (1 : Int).toNat = 1 from rfl,Nat.reduceMul,Nat.reduceEqDiff,Go.Addr.add,↓reduceIte] at hx256_0)
             (try simp only [show (1 : Int).toNat = 1 from rfl,Nat.reduceMul,Nat.reduceEqDiff,Go.Addr.add,↓reduceIte] at hx256_1)
             (try simp only [show (1 : Int).toNat = 1 from rfl,Nat.reduceMul,Nat.reduceEqDiff,Go.Addr.add,↓reduceIte] at hx256_2)
             (try simp only [show (1 : Int).toNat = 1 from rfl,Nat.reduceMul,Nat.reduceEqDiff,Go.Addr.add,↓reduceIte] at hx256_3)
             have qi256 : (1 < x12_12.length) = True := eq_true (by omega)
             (try rw [show ((1 : Int)).toNat = 1 from rfl] at hx256_0)
             (try rw [show 1 * 4 = 4 from rfl] at hx256_0)
             (try rw [show ((1 : Int)).toNat = 1 from rfl] at hx256_1)
             (try rw [show 1 * 4 = 4 from rfl] at hx256_1)
             (try rw [show ((1 : Int)).toNat = 1 from rfl] at hx256_2)
             (try rw [show 1 * 4 = 4 from rfl] at hx256_2)
             (try rw [show ((1 : Int)).toNat = 1 from rfl] at hx256_3)
             (try rw [show 1 * 4 = 4 from rfl] at hx256_3)
             have HR256_3 := Aside0.mk hi256_3; have HC256_3 := Aside0.mk hl256_3; clear hi256_3 hl256_3
             replace p256 := eq_true p256
             replace q256 := eq_true q256
             refine start_ (n := 32) (S := fun w'=>w'.cell? ad239 = some (.int .i64 ((rd_T31 x12_12 0).f0)) ∧ w'.cell? ⟨ad239.block,ad239.off + 1,none⟩ = some (.int .i64 ((rd_T31 x12_12 0).f1)) ∧ w'.cell? ⟨ad239.block,ad239.off + 2,none⟩ = some (.string ((rd_T31 x12_12 0).f2)) ∧ w'.cell? ⟨ad239.block,ad239.off + 3,none⟩ = some (.slice A255_3 ((rd_T31 x12_12 0).f3).length c255_3) ∧ w'.cell? ⟨ad239.block,ad239.off + 4,none⟩ = some (.int .i64 ((rd_T31 x12_12 1).f0)) ∧ w'.cell? ⟨ad239.block,ad239.off + 4 + 1,none⟩ = some (.int .i64 ((rd_T31 x12_12 1).f1)) ∧ w'.cell? ⟨ad239.block,ad239.off + 4 + 2,none⟩ = some (.string ((rd_T31 x12_12 1).f2)) ∧ w'.cell? ⟨ad239.block,ad239.off + 4 + 3,none⟩ = some (.slice A256_3 ((rd_T31 x12_12 1).f3).length c256_3)) (ds := []) #[false,false,false,false,false,false,false,false,false,false,false,false,false,false,false,false,false,false,false,false,false,false,false,false,false,false,false,false,false,false,false,false] (by kernel_rfl) rfl rfl ⟨hx255_0,hx255_1,hx255_2,hx255_3,hx256_0,hx256_1,hx256_2,hx256_3⟩ (fun hHeld=>?_); refine with_tabW flagstonelaw3_ValueOrder.tab17 flagstonelaw3_ValueOrder.bits17 (fun HT_ HW_=>?_)
             generalize w80.drew = w81 at HO_12 HL239_3 HL240_3 HL243_3 HL244_3 HL247_3 HL248_3 HL251_3 HL252_3 HR239_3 HR240_3 HR243_3 HR244_3 HR247_3 HR248_3 HR251_3 HR252_3 HB HL255_3 HL256_3 HR255_3 HR256_3 hx255_0 hx255_1 hx255_2 hx255_3 hx256_0 hx256_1 hx256_2 hx256_3 hHeld ⊢
             refine pure_ (i := 0) (N := some 112) (v := ?_) (a' := ?_) #[true,false,false,false,false,false,false,false,false,false,false,false,false,false,false,false,false,false,false,false,false,false,false,false,false,false,false,false,false,false,false,false] rfl rfl (any_of HT_.out (by kernel_rfl)) (fun _ _ _ h=>h) (Or.inl ⟨by rfl,?_⟩) ?_ ?_
             rotate_left
             ·intro w'
              go_simp
              with_reducible rfl
             rotate_left
             ·simp only [Act.put,List.setIfInBounds_toArray,List.set_cons_zero,List.set_cons_succ,i64_w,i32_w]
              rfl
             refine pure_ (i := 1) (N := some 113) (v := ?_) (a' := ?_) #[true,true,false,false,false,false,false,false,false,false,false,false,false,false,false,false,false,false,false,false,false,false,false,false,false,false,false,false,false,false,false,false] rfl rfl (any_of HT_.out (by kernel_rfl)) (fun _ _ _ h=>h) (Or.inl ⟨by rfl,?_⟩) ?_ ?_
             rotate_left
             ·intro w'
              go_simp
              with_reducible rfl
             rotate_left
             ·simp only [Act.put,List.setIfInBounds_toArray,List.set_cons_zero,List.set_cons_succ,i64_w,i32_w]
              rfl
             refine pure_ (i := 2) (N := some 114) (v := ?_) (a' := ?_) #[true,true,true,false,false,false,false,false,false,false,false,false,false,false,false,false,false,false,false,false,false,false,false,false,false,false,false,false,false,false,false,false] rfl rfl (any_of HT_.out (by kernel_rfl)) (fun _ _ _ h=>h) (Or.inl ⟨by rfl,?_⟩) ?_ ?_
             rotate_left
             ·intro w'
              go_simp
              with_reducible rfl
             rotate_left
             ·simp only [Act.put,List.setIfInBounds_toArray,List.set_cons_zero,List.set_cons_succ,i64_w,i32_w]
              rfl
             refine pure_ (i := 3) (N := some 115) (v := ?_) (a' := ?_) #[true,true,true,true,false,false,false,false,false,false,false,false,false,false,false,false,false,false,false,false,false,false,false,false,false,false,false,false,false,false,false,false] rfl rfl (any_of HT_.out (by kernel_rfl)) (fun _ _ _ h=>h) (Or.inl ⟨by rfl,?_⟩) ?_ ?_
             rotate_left
             ·intro w'
              go_simp
              with_reducible rfl
             rotate_left
             ·simp only [Act.put,List.setIfInBounds_toArray,List.set_cons_zero,List.set_cons_succ,i64_w,i32_w]
              rfl
             refine pure_ (i := 4) (N := some 116) (v := ?_) (a' := ?_) #[true,true,true,true,true,false,false,false,false,false,false,false,false,false,false,false,false,false,false,false,false,false,false,false,false,false,false,false,false,false,false,false] rfl rfl (any_of HT_.out (by kernel_rfl)) (fun _ _ _ h=>h) (Or.inl ⟨by rfl,?_⟩) ?_ ?_
             rotate_left
             ·intro w'
              go_simp
              with_reducible rfl
             rotate_left
             ·simp only [Act.put,List.setIfInBounds_toArray,List.set_cons_zero,List.set_cons_succ,i64_w,i32_w]
              rfl
             refine pure_ (i := 5) (N := some 117) (v := ?_) (a' := ?_) #[true,true,true,true,true,true,false,false,false,false,false,false,false,false,false,false,false,false,false,false,false,false,false,false,false,false,false,false,false,false,false,false] rfl rfl (any_of HT_.out (by kernel_rfl)) (fun _ _ _ h=>h) (Or.inl ⟨by rfl,?_⟩) ?_ ?_
             rotate_left
             ·intro w'
              go_simp
              with_reducible rfl
             rotate_left
             ·simp only [Act.put,List.setIfInBounds_toArray,List.set_cons_zero,List.set_cons_succ,i64_w,i32_w]
              rfl
             refine pure_ (i := 6) (N := some 118) (v := ?_) (a' := ?_) #[true,true,true,true,true,true,true,false,false,false,false,false,false,false,false,false,false,false,false,false,false,false,false,false,false,false,false,false,false,false,false,false] rfl rfl (any_of HT_.out (by kernel_rfl)) (fun _ _ _ h=>h) (Or.inl ⟨by rfl,?_⟩) ?_ ?_
             rotate_left
             ·intro w'
              go_simp
              with_reducible rfl
             rotate_left
             ·simp only [Act.put,List.setIfInBounds_toArray,List.set_cons_zero,List.set_cons_succ,i64_w,i32_w]
              rfl
             refine pure_ (i := 7) (N := some 119) (v := ?_) (a' := ?_) #[true,true,true,true,true,true,true,true,false,false,false,false,false,false,false,false,false,false,false,false,false,false,false,false,false,false,false,false,false,false,false,false] rfl rfl (any_of HT_.out (by kernel_rfl)) (fun _ _ _ h=>h) (Or.inl ⟨by rfl,?_⟩) ?_ ?_
             rotate_left
             ·intro w'
              go_simp
              with_reducible rfl
             rotate_left
             ·simp only [Act.put,List.setIfInBounds_toArray,List.set_cons_zero,List.set_cons_succ,i64_w,i32_w]
              rfl
             refine pure_ (i := 8) (N := some 120) (v := ?_) (a' := ?_) #[true,true,true,true,true,true,true,true,true,false,false,false,false,false,false,false,false,false,false,false,false,false,false,false,false,false,false,false,false,false,false,false] rfl rfl (any_of HT_.out (by kernel_rfl)) (fun _ _ _ h=>h) (Or.inl ⟨by rfl,?_⟩) ?_ ?_
             rotate_left
             ·intro w'
              go_simp
              with_reducible rfl
             rotate_left
             ·simp only [Act.put,List.setIfInBounds_toArray,List.set_cons_zero,List.set_cons_succ,i64_w,i32_w]
              rfl
             refine pure_ (i := 9) (N := some 121) (v := ?_) (a' := ?_) #[true,true,true,true,true,true,true,true,true,true,false,false,false,false,false,false,false,false,false,false,false,false,false,false,false,false,false,false,false,false,false,false] rfl rfl (any_of HT_.out (by kernel_rfl)) (fun _ _ _ h=>h) (Or.inl ⟨by rfl,?_⟩) ?_ ?_
             rotate_left
             ·intro w'
              go_simp
              with_reducible rfl
             rotate_left
             ·simp only [Act.put,List.setIfInBounds_toArray,List.set_cons_zero,List.set_cons_succ,i64_w,i32_w]
              rfl
             refine pure_ (i := 10) (N := some 122) (v := ?_) (a' := ?_) #[true,true,true,true,true,true,true,true,true,true,true,false,false,false,false,false,false,false,false,false,false,false,false,false,false,false,false,false,false,false,false,false] rfl rfl (any_of HT_.out (by kernel_rfl)) (fun _ _ _ h=>h) (Or.inl ⟨by rfl,?_⟩) ?_ ?_
             rotate_left
             ·intro w'
              go_simp
              with_reducible rfl
             rotate_left
             ·simp only [Act.put,List.setIfInBounds_toArray,List.set_cons_zero,List.set_cons_succ,i64_w,i32_w]
              rfl
             refine pure_ (i := 11) (N := some 123) (v := ?_) (a' := ?_) #[true,true,true,true,true,true,true,true,true,true,true,true,false,false,false,false,false,false,false,false,false,false,false,false,false,false,false,false,false,false,false,false] rfl rfl (any_of HT_.out (by kernel_rfl)) (fun _ _ _ h=>h) (Or.inl ⟨by rfl,?_⟩) ?_ ?_
             rotate_left
             ·intro w'
              go_simp
              with_reducible rfl
             rotate_left
             ·simp only [Act.put,List.setIfInBounds_toArray,List.set_cons_zero,List.set_cons_succ,i64_w,i32_w]
              rfl
             refine pure_ (i := 12) (N := some 124) (v := ?_) (a' := ?_) #[true,true,true,true,true,true,true,true,true,true,true,true,true,false,false,false,false,false,false,false,false,false,false,false,false,false,false,false,false,false,false,false] rfl rfl (any_of HT_.out (by kernel_rfl)) (fun _ _ _ h=>h) (Or.inl ⟨by rfl,?_⟩) ?_ ?_
             rotate_left
             ·intro w'
              go_simp
              with_reducible rfl
             rotate_left
             ·simp only [Act.put,List.setIfInBounds_toArray,List.set_cons_zero,List.set_cons_succ,i64_w,i32_w]
              rfl
             refine pure_ (i := 13) (N := some 125) (v := ?_) (a' := ?_) #[true,true,true,true,true,true,true,true,true,true,true,true,true,true,false,false,false,false,false,false,false,false,false,false,false,false,false,false,false,false,false,false] rfl rfl (any_of HT_.out (by kernel_rfl)) (fun _ _ _ h=>h) (Or.inl ⟨by rfl,?_⟩) ?_ ?_
             rotate_left
             ·intro w'
              go_simp
              with_reducible rfl
             rotate_left
             ·simp only [Act.put,List.setIfInBounds_toArray,List.set_cons_zero,List.set_cons_succ,i64_w,i32_w]
              rfl
             refine pure_ (i := 14) (N := some 126) (v := ?_) (a' := ?_) #[true,true,true,true,true,true,true,true,true,true,true,true,true,true,true,false,false,false,false,false,false,false,false,false,false,false,false,false,false,false,false,false] rfl rfl (any_of HT_.out (by kernel_rfl)) (fun _ _ _ h=>h) (Or.inl ⟨by rfl,?_⟩) ?_ ?_
             rotate_left
             ·intro w'
              go_simp
              with_reducible rfl
             rotate_left
             ·simp only [Act.put,List.setIfInBounds_toArray,List.set_cons_zero,List.set_cons_succ,i64_w,i32_w]
              rfl
             refine pure_ (i := 15) (N := some 127) (v := ?_) (a' := ?_) #[true,true,true,true,true,true,true,true,true,true,true,true,true,true,true,true,false,false,false,false,false,false,false,false,false,false,false,false,false,false,false,false] rfl rfl (any_of HT_.out (by kernel_rfl)) (fun _ _ _ h=>h) (Or.inl ⟨by rfl,?_⟩) ?_ ?_
             rotate_left
             ·intro w'
              go_simp
              with_reducible rfl
             rotate_left
             ·simp only [Act.put,List.setIfInBounds_toArray,List.set_cons_zero,List.set_cons_succ,i64_w,i32_w]
              rfl
             refine pure_ (i := 16) (N := some 128) (v := ?_) (a' := ?_) #[true,true,true,true,true,true,true,true,true,true,true,true,true,true,true,true,true,false,false,false,false,false,false,false,false,false,false,false,false,false,false,false] rfl rfl (any_of HT_.out (by kernel_rfl)) (fun _ _ _ h=>h) (Or.inl ⟨by rfl,?_⟩) ?_ ?_
             rotate_left
             ·intro w'
              go_simp
              with_reducible rfl
             rotate_left
             ·simp only [Act.put,List.setIfInBounds_toArray,List.set_cons_zero,List.set_cons_succ,i64_w,i32_w]
              rfl
             refine pure_ (i := 17) (N := some 129) (v := ?_) (a' := ?_) #[true,true,true,true,true,true,true,true,true,true,true,true,true,true,true,true,true,true,false,false,false,false,false,false,false,false,false,false,false,false,false,false] rfl rfl (any_of HT_.out (by kernel_rfl)) (fun _ _ _ h=>h) (Or.inl ⟨by rfl,?_⟩) ?_ ?_
             rotate_left
             ·intro w'
              go_simp
              with_reducible rfl
             rotate_left
             ·simp only [Act.put,List.setIfInBounds_toArray,List.set_cons_zero,List.set_cons_succ,i64_w,i32_w]
              rfl
             refine pure_ (i := 18) (N := some 130) (v := ?_) (a' := ?_) #[true,true,true,true,true,true,true,true,true,true,true,true,true,true,true,true,true,true,true,false,false,false,false,false,false,false,false,false,false,false,false,false] rfl rfl (any_of HT_.out (by kernel_rfl)) (fun _ _ _ h=>h) (Or.inl ⟨by rfl,?_⟩) ?_ ?_
             rotate_left
             ·intro w'
              go_simp
              with_reducible rfl
             rotate_left
             ·simp only [Act.put,List.setIfInBounds_toArray,List.set_cons_zero,List.set_cons_succ,i64_w,i32_w]
              rfl
             refine pure_ (i := 19) (N := some 131) (v := ?_) (a' := ?_) #[true,true,true,true,true,true,true,true,true,true,true,true,true,true,true,true,true,true,true,true,false,false,false,false,false,false,false,false,false,false,false,false] rfl rfl (any_of HT_.out (by kernel_rfl)) (fun _ _ _ h=>h) (Or.inl ⟨by rfl,?_⟩) ?_ ?_
             rotate_left
             ·intro w'
              go_simp
              with_reducible rfl
             rotate_left
             ·simp only [Act.put,List.setIfInBounds_toArray,List.set_cons_zero,List.set_cons_succ,i64_w,i32_w]
              rfl
             refine pure_ (i := 20) (N := some 132) (v := ?_) (a' := ?_) #[true,true,true,true,true,true,true,true,true,true,true,true,true,true,true,true,true,true,true,true,true,false,false,false,false,false,false,false,false,false,false,false] rfl rfl (any_of HT_.out (by kernel_rfl)) (fun _ _ _ h=>h) (Or.inl ⟨by rfl,?_⟩) ?_ ?_
             rotate_left
             ·intro w'
              go_simp
              with_reducible rfl
             rotate_left
             ·simp only [Act.put,List.setIfInBounds_toArray,List.set_cons_zero,List.set_cons_succ,i64_w,i32_w]
              rfl
             refine pure_ (i := 21) (N := some 133) (v := ?_) (a' := ?_) #[true,true,true,true,true,true,true,true,true,true,true,true,true,true,true,true,true,true,true,true,true,true,false,false,false,false,false,false,false,false,false,false] rfl rfl (any_of HT_.out (by kernel_rfl)) (fun _ _ _ h=>h) (Or.inl ⟨by rfl,?_⟩) ?_ ?_
             rotate_left
             ·intro w'
              go_simp
              with_reducible rfl
             rotate_left
             ·simp only [Act.put,List.setIfInBounds_toArray,List.set_cons_zero,List.set_cons_succ,i64_w,i32_w]
              rfl
             refine pure_ (i := 22) (N := some 134) (v := ?_) (a' := ?_) #[true,true,true,true,true,true,true,true,true,true,true,true,true,true,true,true,true,true,true,true,true,true,true,false,false,false,false,false,false,false,false,false] rfl rfl (any_of HT_.out (by kernel_rfl)) (fun _ _ _ h=>h) (Or.inl ⟨by rfl,?_⟩) ?_ ?_
             rotate_left
             ·intro w'
              go_simp
              with_reducible rfl
             rotate_left
             ·simp only [Act.put,List.setIfInBounds_toArray,List.set_cons_zero,List.set_cons_succ,i64_w,i32_w]
              rfl
             refine pure_ (i := 23) (N := some 135) (v := ?_) (a' := ?_) #[true,true,true,true,true,true,true,true,true,true,true,true,true,true,true,true,true,true,true,true,true,true,true,true,false,false,false,false,false,false,false,false] rfl rfl (any_of HT_.out (by kernel_rfl)) (fun _ _ _ h=>h) (Or.inl ⟨by rfl,?_⟩) ?_ ?_
             rotate_left
             ·intro w'
              go_simp
              with_reducible rfl
             rotate_left
             ·simp only [Act.put,List.setIfInBounds_toArray,List.set_cons_zero,List.set_cons_succ,i64_w,i32_w]
              rfl
             refine pure_ (i := 24) (N := some 136) (v := ?_) (a' := ?_) #[true,true,true,true,true,true,true,true,true,true,true,true,true,true,true,true,true,true,true,true,true,true,true,true,true,false,false,false,false,false,false,false] rfl rfl (any_of HT_.out (by kernel_rfl)) (fun _ _ _ h=>h) (Or.inl ⟨by rfl,?_⟩) ?_ ?_
             rotate_left
             ·intro w'
              go_simp
              with_reducible rfl
             rotate_left
             ·simp only [Act.put,List.setIfInBounds_toArray,List.set_cons_zero,List.set_cons_succ,i64_w,i32_w]
              rfl
             refine pure_ (i := 26) (N := some 138) (v := ?_) (a' := ?_) #[true,true,true,true,true,true,true,true,true,true,true,true,true,true,true,true,true,true,true,true,true,true,true,true,true,false,true,false,false,false,false,false] rfl rfl (any_of HT_.out (by kernel_rfl)) (fun _ _ _ h=>h) (Or.inl ⟨by rfl,?_⟩) ?_ ?_
             rotate_left
             ·intro w'
              go_simp
              with_reducible rfl
             rotate_left
             ·simp only [Act.put,List.setIfInBounds_toArray,List.set_cons_zero,List.set_cons_succ,i64_w,i32_w]
              rfl
             refine pure_ (i := 27) (N := some 139) (v := ?_) (a' := ?_) #[true,true,true,true,true,true,true,true,true,true,true,true,true,true,true,true,true,true,true,true,true,true,true,true,true,false,true,true,false,false,false,false] rfl rfl (any_of HT_.out (by kernel_rfl)) (fun _ _ _ h=>h) (Or.inl ⟨by rfl,?_⟩) ?_ ?_
             rotate_left
             ·intro w'
              go_simp
              with_reducible rfl
             rotate_left
             ·simp only [Act.put,List.setIfInBounds_toArray,List.set_cons_zero,List.set_cons_succ,i64_w,i32_w]
              rfl
             refine take_ (i := 25) (N := some 137) (v := ?_) (a' := ?_) #[true,true,true,true,true,true,true,true,true,true,true,true,true,true,true,true,true,true,true,true,true,true,true,true,true,true,true,true,false,false,false,false] rfl rfl (take_ofW HT_.out HW_.out (by kernel_rfl)) (fun _ _ _ h=>h) (Or.inl ⟨by rfl,?_⟩) hHeld ?_ ?_
             rotate_left
             ·rintro w' ⟨s0,s1,s2,s3,s4,s5,s6,s7⟩
              go_simp
              with_reducible rfl
             rotate_left
             ·simp only [Act.put,List.setIfInBounds_toArray,List.set_cons_zero,List.set_cons_succ,i64_w,i32_w]
              rfl
             refine take_ (i := 28) (N := some 140) (v := ?_) (a' := ?_) #[true,true,true,true,true,true,true,true,true,true,true,true,true,true,true,true,true,true,true,true,true,true,true,true,true,true,true,true,true,false,false,false] rfl rfl (take_ofW HT_.out HW_.out (by kernel_rfl)) (fun _ _ _ h=>h) (Or.inl ⟨by rfl,?_⟩) hHeld ?_ ?_
             rotate_left
             ·rintro w' ⟨s0,s1,s2,s3,s4,s5,s6,s7⟩
              go_simp
              with_reducible rfl
             rotate_left
             ·simp only [Act.put,List.setIfInBounds_toArray,List.set_cons_zero,List.set_cons_succ,i64_w,i32_w]
              rfl
             refine one_ (i := 29) (N := some 141) #[true,true,true,true,true,true,true,true,true,true,true,true,true,true,true,true,true,true,true,true,true,true,true,true,true,true,true,true,true,true,false,false] rfl rfl (one_of HT_.out (by kernel_rfl)) (by decide) (fun K hK=>?_)
             refine goes_ Tryd.func13 (by kernel_rfl) rfl #[.agg #[.int .i64 ((rd_T31 x12_12 0).f0),.int .i64 ((rd_T31 x12_12 0).f1),.string ((rd_T31 x12_12 0).f2),.slice A255_3 ((rd_T31 x12_12 0).f3).length c255_3],.agg #[.int .i64 ((rd_T31 x12_12 1).f0),.int .i64 ((rd_T31 x12_12 1).f1),.string ((rd_T31 x12_12 1).f2),.slice A256_3 ((rd_T31 x12_12 1).f3).length c256_3]] (by rfl) rfl rfl (by (try simp only [List.map_toArray,List.map_cons,List.map_nil]); first|done|rfl|(simp only [List.length_drop,List.length_take]; rfl)) ?_
             with_reducible refine (value_Equal.calls kj12 ((rd_T31 x12_12 0).f0) ((rd_T31 x12_12 0).f1) ((rd_T31 x12_12 0).f2) _ _ ((rd_T31 x12_12 0).f3) ((rd_T31 x12_12 1).f0) ((rd_T31 x12_12 1).f1) ((rd_T31 x12_12 1).f2) _ _ ((rd_T31 x12_12 1).f3) t257 _ ?side1 ?side2 ?side3 ?side4 A55.out).mono ?_
             (case side1=>repeat (first|exact (by repeat (first|(with_reducible exact HR255_3.out)|(with_reducible refine Kd.C_alloc ?_ _)|(with_reducible refine Kd.C_drewN ?_ _)|(with_reducible refine Kd.C_drew ?_)|exact HR255_3.out))|(with_reducible refine Kd.C_alloc ?_ _)|(with_reducible refine Kd.C_drewN ?_ _)|(with_reducible refine Kd.C_drew ?_)))
             (case side2=>exact HC255_3.out)
             (case side3=>repeat (first|exact (by repeat (first|(with_reducible exact HR256_3.out)|(with_reducible refine Kd.C_alloc ?_ _)|(with_reducible refine Kd.C_drewN ?_ _)|(with_reducible refine Kd.C_drew ?_)|exact HR256_3.out))|(with_reducible refine Kd.C_alloc ?_ _)|(with_reducible refine Kd.C_drewN ?_ _)|(with_reducible refine Kd.C_drew ?_)))
             (case side4=>exact HC256_3.out)
             rintro e w82 ⟨rfl,hb⟩
             have HS0_:=(hb.cell (World.block_lt_of_cell? _ _ (hHeld.1))).trans (hHeld.1)
             have HS1_:=(hb.cell (World.block_lt_of_cell? _ _ (hHeld.2.1))).trans (hHeld.2.1)
             have HS2_:=(hb.cell (World.block_lt_of_cell? _ _ (hHeld.2.2.1))).trans (hHeld.2.2.1)
             have HS3_:=(hb.cell (World.block_lt_of_cell? _ _ (hHeld.2.2.2.1))).trans (hHeld.2.2.2.1)
             have HS4_:=(hb.cell (World.block_lt_of_cell? _ _ (hHeld.2.2.2.2.1))).trans (hHeld.2.2.2.2.1)
             have HS5_:=(hb.cell (World.block_lt_of_cell? _ _ (hHeld.2.2.2.2.2.1))).trans (hHeld.2.2.2.2.2.1)
             have HS6_:=(hb.cell (World.block_lt_of_cell? _ _ (hHeld.2.2.2.2.2.2.1))).trans (hHeld.2.2.2.2.2.2.1)
             have HS7_:=(hb.cell (World.block_lt_of_cell? _ _ (hHeld.2.2.2.2.2.2.2))).trans (hHeld.2.2.2.2.2.2.2)
             refine ⟨_,rfl,?_⟩
             have n0_ := Aside0.mk (Kd.N_below (by (with_reducible repeat (first|apply Kd.N_alloc|apply Kd.N_drewN|apply Kd.N_drew)); exact HO_12.out) hb)
             have n1_ := Aside0.mk (Kd.V_below (by (with_reducible repeat (first|apply Kd.V_alloc|apply Kd.V_drewN|apply Kd.V_drew)); exact HL239_3.out) hb)
             have n2_ := Aside0.mk (Kd.V_below (by (with_reducible repeat (first|apply Kd.V_alloc|apply Kd.V_drewN|apply Kd.V_drew)); exact HL240_3.out) hb)
             have n3_ := Aside0.mk (Kd.V_below (by (with_reducible repeat (first|apply Kd.V_alloc|apply Kd.V_drewN|apply Kd.V_drew)); exact HL243_3.out) hb)
             have n4_ := Aside0.mk (Kd.V_below (by (with_reducible repeat (first|apply Kd.V_alloc|apply Kd.V_drewN|apply Kd.V_drew)); exact HL244_3.out) hb)
             have n5_ := Aside0.mk (Kd.V_below (by (with_reducible repeat (first|apply Kd.V_alloc|apply Kd.V_drewN|apply Kd.V_drew)); exact HL247_3.out) hb)
             have n6_ := Aside0.mk (Kd.V_below (by (with_reducible repeat (first|apply Kd.V_alloc|apply Kd.V_drewN|apply Kd.V_drew)); exact HL248_3.out) hb)
             have n7_ := Aside0.mk (Kd.V_below (by (with_reducible repeat (first|apply Kd.V_alloc|apply Kd.V_drewN|apply Kd.V_drew)); exact HL251_3.out) hb)
             have n8_ := Aside0.mk (Kd.V_below (by (with_reducible repeat (first|apply Kd.V_alloc|apply Kd.V_drewN|apply Kd.V_drew)); exact HL252_3.out) hb)
             have n9_ := Aside0.mk (Kd.V_below (by (with_reducible repeat (first|apply Kd.V_alloc|apply Kd.V_drewN|apply Kd.V_drew)); exact HL255_3.out) hb)
             have n10_ := Aside0.mk (Kd.V_below (by (with_reducible repeat (first|apply Kd.V_alloc|apply Kd.V_drewN|apply Kd.V_drew)); exact HL256_3.out) hb)
             have n11_ := Aside0.mk (Kd.C_below (by repeat (first|(with_reducible exact HR239_3.out)|(with_reducible refine Kd.C_alloc ?_ _)|(with_reducible refine Kd.C_drewN ?_ _)|(with_reducible refine Kd.C_drew ?_)|exact HR239_3.out)) hb)
             have n12_ := Aside0.mk (Kd.C_below (by repeat (first|(with_reducible exact HR240_3.out)|(with_reducible refine Kd.C_alloc ?_ _)|(with_reducible refine Kd.C_drewN ?_ _)|(with_reducible refine Kd.C_drew ?_)|exact HR240_3.out)) hb)
             have n13_ := Aside0.mk (Kd.C_below (by repeat (first|(with_reducible exact HR243_3.out)|(with_reducible refine Kd.C_alloc ?_ _)|(with_reducible refine Kd.C_drewN ?_ _)|(with_reducible refine Kd.C_drew ?_)|exact HR243_3.out)) hb)
             have n14_ := Aside0.mk (Kd.C_below (by repeat (first|(with_reducible exact HR244_3.out)|(with_reducible refine Kd.C_alloc ?_ _)|(with_reducible refine Kd.C_drewN ?_ _)|(with_reducible refine Kd.C_drew ?_)|exact HR244_3.out)) hb)
             have n15_ := Aside0.mk (Kd.C_below (by repeat (first|(with_reducible exact HR247_3.out)|(with_reducible refine Kd.C_alloc ?_ _)|(with_reducible refine Kd.C_drewN ?_ _)|(with_reducible refine Kd.C_drew ?_)|exact HR247_3.out)) hb)
             have n16_ := Aside0.mk (Kd.C_below (by repeat (first|(with_reducible exact HR248_3.out)|(with_reducible refine Kd.C_alloc ?_ _)|(with_reducible refine Kd.C_drewN ?_ _)|(with_reducible refine Kd.C_drew ?_)|exact HR248_3.out)) hb)
             have n17_ := Aside0.mk (Kd.C_below (by repeat (first|(with_reducible exact HR251_3.out)|(with_reducible refine Kd.C_alloc ?_ _)|(with_reducible refine Kd.C_drewN ?_ _)|(with_reducible refine Kd.C_drew ?_)|exact HR251_3.out)) hb)
             have n18_ := Aside0.mk (Kd.C_below (by repeat (first|(with_reducible exact HR252_3.out)|(with_reducible refine Kd.C_alloc ?_ _)|(with_reducible refine Kd.C_drewN ?_ _)|(with_reducible refine Kd.C_drew ?_)|exact HR252_3.out)) hb)
             have n19_ := Aside0.mk (Kd.C_below (by repeat (first|(with_reducible exact HR255_3.out)|(with_reducible refine Kd.C_alloc ?_ _)|(with_reducible refine Kd.C_drewN ?_ _)|(with_reducible refine Kd.C_drew ?_)|exact HR255_3.out)) hb)
             have n20_ := Aside0.mk (Kd.C_below (by repeat (first|(with_reducible exact HR256_3.out)|(with_reducible refine Kd.C_alloc ?_ _)|(with_reducible refine Kd.C_drewN ?_ _)|(with_reducible refine Kd.C_drew ?_)|exact HR256_3.out)) hb)
             have n21_ := Aside0.mk (below_step (by repeat (first|(with_reducible first|exact HB.out|apply zE|apply zB|apply zC)|exact HB.out)) hb)
             clear HO_12 HL239_3 HL240_3 HL243_3 HL244_3 HL247_3 HL248_3 HL251_3 HL252_3 HL255_3 HL256_3 HR239_3 HR240_3 HR243_3 HR244_3 HR247_3 HR248_3 HR251_3 HR252_3 HR255_3 HR256_3 HB; have HO_12 := n0_; have HL239_3 := n1_; have HL240_3 := n2_; have HL243_3 := n3_; have HL244_3 := n4_; have HL247_3 := n5_; have HL248_3 := n6_; have HL251_3 := n7_; have HL252_3 := n8_; have HL255_3 := n9_; have HL256_3 := n10_; have HR239_3 := n11_; have HR240_3 := n12_; have HR243_3 := n13_; have HR244_3 := n14_; have HR247_3 := n15_; have HR248_3 := n16_; have HR251_3 := n17_; have HR252_3 := n18_; have HR255_3 := n19_; have HR256_3 := n20_; have HB := n21_; clear n0_ n1_ n2_ n3_ n4_ n5_ n6_ n7_ n8_ n9_ n10_ n11_ n12_ n13_ n14_ n15_ n16_ n17_ n18_ n19_ n20_ n21_
             (try clear hb)
             (try clear hb2)
             (try clear hk)
             (try clear hi)
             (try clear hge)
             refine hK.out _ _ ⟨HS0_,HS1_,HS2_,HS3_,HS4_,HS5_,HS6_,HS7_⟩ (fun hHeld=>?_)
             clear hK K
             refine norm_ (a' := ?_) ?_ ?_
             rotate_left
             ·show Act.put _ (some 141) _ = _
              simp only [Act.put,List.setIfInBounds_toArray,List.set_cons_zero,List.set_cons_succ,i64_w,i32_w]
              rfl
             refine pure_ (i := 30) (N := some 142) (v := ?_) (a' := ?_) #[true,true,true,true,true,true,true,true,true,true,true,true,true,true,true,true,true,true,true,true,true,true,true,true,true,true,true,true,true,true,true,false] rfl rfl (any_of HT_.out (by kernel_rfl)) (fun _ _ _ h=>h) (Or.inl ⟨by rfl,?_⟩) ?_ ?_
             rotate_left
             ·intro w'
              go_simp
              with_reducible rfl
             rotate_left
             ·simp only [Act.put,List.setIfInBounds_toArray,List.set_cons_zero,List.set_cons_succ,i64_w,i32_w]
              rfl
             refine pure_ (i := 31) (N := some 143) (v := ?_) (a' := ?_) #[true,true,true,true,true,true,true,true,true,true,true,true,true,true,true,true,true,true,true,true,true,true,true,true,true,true,true,true,true,true,true,true] rfl rfl (any_of HT_.out (by kernel_rfl)) (fun _ _ _ h=>h) (Or.inl ⟨by rfl,?_⟩) ?_ ?_
             rotate_left
             ·intro w'
              go_simp
              with_reducible rfl
             rotate_left
             ·simp only [Act.put,List.setIfInBounds_toArray,List.set_cons_zero,List.set_cons_succ,i64_w,i32_w]
              rfl
             refine done_ (done_of HT_.out (by kernel_rfl)) ?_
             by_cases c68 : t241 ≤ 0
             ·rw [if_pos c68] at H
              have c68b0 : decide (t241 ≤ 0) = true := decide_eq_true c68
              clear c68
              by_cases c69 : t245 ≤ 0
              ·rw [if_pos c69] at H
               have c69b0 : decide (t245 ≤ 0) = true := decide_eq_true c69
               clear c69
               by_cases c70 : t249 ≤ 0
               ·rw [if_pos c70] at H
                have c70b0 : decide (t249 ≤ 0) = true := decide_eq_true c70
                clear c70
                by_cases c71 : t249 < 0
                ·rw [if_pos c71] at H
                 have c71b0 : decide (t249 < 0) = true := decide_eq_true c71
                 clear c71
                 obtain rfl := Option.some.inj H
                 try go_wp2
                 go_ret
                 exact ⟨by first|rfl|(simp [errW_none,errW_some]<;>rfl)|(simp [*,errW_none,errW_some]<;>rfl),by repeat (first|(with_reducible first|exact HB.out|apply zE|apply zB|apply zC)|exact HB.out)⟩
                ·rw [if_neg c71] at H
                 have c71b0 : decide (t249 < 0) = false := decide_eq_false c71
                 clear c71
                 by_cases c83 : t241 = 0
                 ·rw [if_pos c83] at H
                  have c83b0 : (t241 == 0) = true := beq_iff_eq.mpr c83
                  have c83b1 : (t241 != 0) = false := bne_eq_false_iff_eq.mpr c83
                  clear c83
                  obtain rfl := Option.some.inj H
                  try go_wp2
                  go_ret
                  exact ⟨by first|rfl|(simp [errW_none,errW_some]<;>rfl)|(simp [*,errW_none,errW_some]<;>rfl),by repeat (first|(with_reducible first|exact HB.out|apply zE|apply zB|apply zC)|exact HB.out)⟩
                 ·rw [if_neg c83] at H
                  exact absurd (Option.some.inj H) (by rw [hrt]; decide)
               ·rw [if_neg c70] at H
                exact absurd (Option.some.inj H) (by rw [hrt]; decide)
              ·rw [if_neg c69] at H
               have c69b0 : decide (t245 ≤ 0) = false := decide_eq_false c69
               clear c69
               obtain rfl := Option.some.inj H
               try go_wp2
               go_ret
               exact ⟨by first|rfl|(simp [errW_none,errW_some]<;>rfl)|(simp [*,errW_none,errW_some]<;>rfl),by repeat (first|(with_reducible first|exact HB.out|apply zE|apply zB|apply zC)|exact HB.out)⟩
             ·rw [if_neg c68] at H
              have c68b0 : decide (t241 ≤ 0) = false := decide_eq_false c68
              clear c68
              obtain rfl := Option.some.inj H
              try go_wp2
              go_ret
              exact ⟨by first|rfl|(simp [errW_none,errW_some]<;>rfl)|(simp [*,errW_none,errW_some]<;>rfl),by repeat (first|(with_reducible first|exact HB.out|apply zE|apply zB|apply zC)|exact HB.out)⟩
           ·rw [if_neg c54] at H
            exact absurd (Option.some.inj H) (by rw [hrt]; decide)
          ·rw [if_neg c53] at H
           exact absurd (Option.some.inj H) (by rw [hrt]; decide)
         ·rw [if_neg c52] at H
          exact absurd (Option.some.inj H) (by rw [hrt]; decide)
        ·rw [if_neg c51] at H
         exact absurd (Option.some.inj H) (by rw [hrt]; decide)
       ·rw [if_neg c50] at H
        exact absurd (Option.some.inj H) (by rw [hrt]; decide)
      ·rw [if_neg c46] at H
       exact absurd H (by simp)
     ·rw [if_neg c44] at H
      exact absurd H (by simp)
    ·rw [if_neg c43] at H
     exact absurd H (by simp)
 ·replace c7 := Bool.eq_false_iff.mpr c7
  subst c7
  have H1 : (some false) = some r := by rw [if_neg (show ¬ (false = true) by decide)] at H; exact H
  clear H; have H := H1; clear H1
  obtain rfl := Option.some.inj H
  go_enter Tryd.func4,Tryd.ntmps4
  go_wp2_with (first|((with_reducible refine gate_callee (f := 6) rfl ?_); refine goesL_ (some 23) rfl rfl Tryd.func6 (by kernel_rfl) rfl #[] rfl (by (try simp only [List.map_toArray,List.map_cons,List.map_nil]); first|done|rfl|(simp only [List.length_drop,List.length_take]; rfl)) ?_;(with_reducible refine (flagstonelaw3_awake.calls k  false _ ?side1 A6.out).mono ?_);(case side1=>exact GL.below HGL.out (by repeat (first|(with_reducible first|exact HB.out|apply zE|apply zB|apply zC)|exact HB.out))); rintro e w189 ⟨rfl,hb⟩; refine ⟨_,rfl,?_⟩; have n0_ := Aside0.mk (below_step (by repeat (first|(with_reducible first|exact HB.out|apply zE|apply zB|apply zC)|exact HB.out)) hb); clear HB; have HB := n0_; clear n0_;(try clear hb);(try clear hb2);(try clear hk);(try clear hi);(try clear hge)))
  go_ret
  exact ⟨by first|rfl|(simp [errW_none,errW_some]<;>rfl)|(simp [*,errW_none,errW_some]<;>rfl),by repeat (first|(with_reducible first|exact HB.out|apply zE|apply zB|apply zC)|exact HB.out)⟩

end Go.Proofs.YtannjakcnnefhaaDoor.O
