import Derived.Test.YtannjakcnnefhaaGreatDoorCU0
import Derived.Test.YtannjakcnnefhaaGreatDoorCU4
import Derived.Test.YtannjakcnnefhaaGreatDoorCU5
import Derived.Test.YtannjakcnnefhaaGreatDoorCU7
import Derived.Test.YtannjakcnnefhaaGreatDoorCU8
-- printed by wip/hp.py (the session's driver of the print, with hand-proved contracts)
namespace Go.Proofs.YtannjakcnnefhaaGreatDoor.U
open Go.RowKit Go.Proofs.YtannjakcnnefhaaGreatDoorW.PrintWords Go.Proofs.YtannjakcnnefhaaGreatDoorW.PrintLast Go.Proofs.YtannjakcnnefhaaGreatDoorW.PrintMore
attribute [local go_sem] max2_int min2_int max_two min_two max_three min_three max_four min_four   -- for this text's walks alone
set_option linter.unusedVariables false
set_option linter.unusedSimpArgs false

/-! ### flagstonelaw3_ValueCompares: function 6 -/
mutual
def flagstonelaw3_ValueCompares.j0 : Nat → List Int → Bool → Int → Int → ByteArray → List ByteArray → Int → Int → ByteArray → List ByteArray → Option (Bool)
 | 0,_,_,_,_,_,_,_,_,_,_=>none
 | k + 1,x2,x25,x234000,x234001,x234002,x234003,x235000,x235001,x235002,x235003=>if x25 = true then (some true) else ((flagstonedraw_New.f x2 30).bind fun bt238=>((flagstonedraw_Codes_Next.f bt238.1 bt238.2 5).bind fun bt241=>((flagstonedraw_Codes_Value.f bt238.1 bt241.2 (wrap64 (1 + bt241.1))).bind fun bt243=>((flagstonedraw_Codes_Value.f bt238.1 bt243.2.2.2.2 (wrap64 (1 + bt241.1))).bind fun bt250=>((flagstonedraw_Codes_Any.f bt238.1 bt250.2.2.2.2).bind fun bt257=>(flagstonelaw3_ValueCompares.l0 k (([(⟨x234000,x234001,x234002,x234003⟩ : S24),(⟨x235000,x235001,x235002,x235003⟩ : S24),(⟨bt243.1,bt243.2.1,bt243.2.2.1,bt243.2.2.2.1⟩ : S24),(⟨bt250.1,bt250.2.1,bt250.2.2.1,bt250.2.2.2.1⟩ : S24),(⟨bt257.1,bt257.2.1,bt257.2.2.1,bt257.2.2.2.1⟩ : S24)] : List (S24))) 0))))))
def flagstonelaw3_ValueCompares.l0 : Nat → List (S24) → Int → Option (Bool)
 | 0,_,_=>none
 | k + 1,x9,x10=>if x10 < (x9.length : Int) then (flagstonelaw3_ValueCompares.l1 k x9 x10 0) else (some true)
def flagstonelaw3_ValueCompares.l1 : Nat → List (S24) → Int → Int → Option (Bool)
 | 0,_,_,_=>none
 | k + 1,x9,x10,x11=>if x11 < (x9.length : Int) then (if 0 ≤ x10 then (if x10 < (x9.length : Int) then (if 0 ≤ x11 then ((value_Compare.f k ((rd_T24 x9 x10).f0) ((rd_T24 x9 x10).f1) ((rd_T24 x9 x10).f2) ((rd_T24 x9 x10).f3) ((rd_T24 x9 x11).f0) ((rd_T24 x9 x11).f1) ((rd_T24 x9 x11).f2) ((rd_T24 x9 x11).f3)).bind fun bt269=>((flagstoneref3_Compare.f k ((rd_T24 x9 x10).f0) ((rd_T24 x9 x10).f1) ((rd_T24 x9 x10).f2) ((rd_T24 x9 x10).f3) ((rd_T24 x9 x11).f0) ((rd_T24 x9 x11).f1) ((rd_T24 x9 x11).f2) ((rd_T24 x9 x11).f3)).bind fun bt273=>(if bt269.1 = bt273.1 then (if bt269.2 = bt273.2 then ((value_Equal.f k ((rd_T24 x9 x10).f0) ((rd_T24 x9 x10).f1) ((rd_T24 x9 x10).f2) ((rd_T24 x9 x10).f3) ((rd_T24 x9 x11).f0) ((rd_T24 x9 x11).f1) ((rd_T24 x9 x11).f2) ((rd_T24 x9 x11).f3)).bind fun t277=>((flagstoneref3_Equal.f k ((rd_T24 x9 x10).f0) ((rd_T24 x9 x10).f1) ((rd_T24 x9 x10).f2) ((rd_T24 x9 x10).f3) ((rd_T24 x9 x11).f0) ((rd_T24 x9 x11).f1) ((rd_T24 x9 x11).f2) ((rd_T24 x9 x11).f3)).bind fun t280=>(if (t277 != t280) = true then (some false) else (flagstonelaw3_ValueCompares.l1 k x9 x10 (wrap64 (x11 + 1)))))) else (some false)) else (some false)))) else (none)) else (none)) else (none)) else (flagstonelaw3_ValueCompares.l0 k x9 (wrap64 (x10 + 1)))
end
def flagstonelaw3_ValueCompares.f (k : Nat) (a0_0 : Int) (a0_1 : Int) (a0_2 : ByteArray) (l0_3 : List ByteArray) (a1_0 : Int) (a1_1 : Int) (a1_2 : ByteArray) (l1_3 : List ByteArray) (l2 : List Int) : Option (Bool) := (flagstonelaw3_awake.f k).bind fun t235 => (if t235 = true then ((flagstonelaw3_small.f k a0_0 a0_1 a0_2 l0_3).bind fun t236 => (if t236 = true then ((flagstonelaw3_small.f k a1_0 a1_1 a1_2 l1_3).bind fun t237 => (flagstonelaw3_ValueCompares.j0 k l2 (!t237) a0_0 a0_1 a0_2 l0_3 a1_0 a1_1 a1_2 l1_3)) else (flagstonelaw3_ValueCompares.j0 k l2 true a0_0 a0_1 a0_2 l0_3 a1_0 a1_1 a1_2 l1_3))) else (some false))
theorem flagstonelaw3_ValueCompares.mono_l : ∀ k, (∀ y0 y1 y2 y3 y4 y5 y6 y7 y8 y9, LeO (flagstonelaw3_ValueCompares.j0 k y0 y1 y2 y3 y4 y5 y6 y7 y8 y9) (flagstonelaw3_ValueCompares.j0 (k + 1) y0 y1 y2 y3 y4 y5 y6 y7 y8 y9)) ∧ (∀ y0 y1, LeO (flagstonelaw3_ValueCompares.l0 k y0 y1) (flagstonelaw3_ValueCompares.l0 (k + 1) y0 y1)) ∧ (∀ y0 y1 y2, LeO (flagstonelaw3_ValueCompares.l1 k y0 y1 y2) (flagstonelaw3_ValueCompares.l1 (k + 1) y0 y1 y2))
 | 0=>⟨fun _ _ _ _ _ _ _ _ _ _ r h=>by simp [flagstonelaw3_ValueCompares.j0] at h,fun _ _ r h=>by simp [flagstonelaw3_ValueCompares.l0] at h,fun _ _ _ r h=>by simp [flagstonelaw3_ValueCompares.l1] at h⟩
 | k + 1=>by
  obtain ⟨ih0,ih1,ih2⟩ := flagstonelaw3_ValueCompares.mono_l k
  refine ⟨?_,?_,?_⟩
  ·intro y0 y1 y2 y3 y4 y5 y6 y7 y8 y9
   unfold flagstonelaw3_ValueCompares.j0
   repeat' first
   | (with_reducible exact ih0 _ _ _ _ _ _ _ _ _ _)
   | (with_reducible exact ih1 _ _)
   | (with_reducible exact ih2 _ _ _)
   | (with_reducible exact flagstonelaw3_awake.mono _)
   | (with_reducible exact flagstonelaw3_small.mono _ _ _ _ _)
   | (with_reducible exact flagstoneref3_Compare.mono _ _ _ _ _ _ _ _ _)
   | (with_reducible exact flagstoneref3_Equal.mono _ _ _ _ _ _ _ _ _)
   | (with_reducible exact value_Compare.mono _ _ _ _ _ _ _ _ _)
   | (with_reducible exact value_Equal.mono _ _ _ _ _ _ _ _ _)
   | (with_reducible exact LeO.refl _)
   | (with_reducible exact LeO.none _)
   | (with_reducible refine LeO.ite ?_ ?_)
   | (with_reducible refine LeO.bind ?_ (fun _=>?_))
   | exact ih0 _ _ _ _ _ _ _ _ _ _
   | exact ih1 _ _
   | exact ih2 _ _ _
   | exact flagstonelaw3_awake.mono _
   | exact flagstonelaw3_small.mono _ _ _ _ _
   | exact flagstoneref3_Compare.mono _ _ _ _ _ _ _ _ _
   | exact flagstoneref3_Equal.mono _ _ _ _ _ _ _ _ _
   | exact value_Compare.mono _ _ _ _ _ _ _ _ _
   | exact value_Equal.mono _ _ _ _ _ _ _ _ _
   | exact LeO.none _
   | refine LeO.ite ?_ ?_
   | refine LeO.bind ?_ (fun _=>?_)
  ·intro y0 y1
   unfold flagstonelaw3_ValueCompares.l0
   repeat' first
   | (with_reducible exact ih0 _ _ _ _ _ _ _ _ _ _)
   | (with_reducible exact ih1 _ _)
   | (with_reducible exact ih2 _ _ _)
   | (with_reducible exact flagstonelaw3_awake.mono _)
   | (with_reducible exact flagstonelaw3_small.mono _ _ _ _ _)
   | (with_reducible exact flagstoneref3_Compare.mono _ _ _ _ _ _ _ _ _)
   | (with_reducible exact flagstoneref3_Equal.mono _ _ _ _ _ _ _ _ _)
   | (with_reducible exact value_Compare.mono _ _ _ _ _ _ _ _ _)
   | (with_reducible exact value_Equal.mono _ _ _ _ _ _ _ _ _)
   | (with_reducible exact LeO.refl _)
   | (with_reducible exact LeO.none _)
   | (with_reducible refine LeO.ite ?_ ?_)
   | (with_reducible refine LeO.bind ?_ (fun _=>?_))
   | exact ih0 _ _ _ _ _ _ _ _ _ _
   | exact ih1 _ _
   | exact ih2 _ _ _
   | exact flagstonelaw3_awake.mono _
   | exact flagstonelaw3_small.mono _ _ _ _ _
   | exact flagstoneref3_Compare.mono _ _ _ _ _ _ _ _ _
   | exact flagstoneref3_Equal.mono _ _ _ _ _ _ _ _ _
   | exact value_Compare.mono _ _ _ _ _ _ _ _ _
   | exact value_Equal.mono _ _ _ _ _ _ _ _ _
   | exact LeO.none _
   | refine LeO.ite ?_ ?_
   | refine LeO.bind ?_ (fun _=>?_)
  ·intro y0 y1 y2
   unfold flagstonelaw3_ValueCompares.l1
   repeat' first
   | (with_reducible exact ih0 _ _ _ _ _ _ _ _ _ _)
   | (with_reducible exact ih1 _ _)
   | (with_reducible exact ih2 _ _ _)
   | (with_reducible exact flagstonelaw3_awake.mono _)
   | (with_reducible exact flagstonelaw3_small.mono _ _ _ _ _)
   | (with_reducible exact flagstoneref3_Compare.mono _ _ _ _ _ _ _ _ _)
   | (with_reducible exact flagstoneref3_Equal.mono _ _ _ _ _ _ _ _ _)
   | (with_reducible exact value_Compare.mono _ _ _ _ _ _ _ _ _)
   | (with_reducible exact value_Equal.mono _ _ _ _ _ _ _ _ _)
   | (with_reducible exact LeO.refl _)
   | (with_reducible exact LeO.none _)
   | (with_reducible refine LeO.ite ?_ ?_)
   | (with_reducible refine LeO.bind ?_ (fun _=>?_))
   | exact ih0 _ _ _ _ _ _ _ _ _ _
   | exact ih1 _ _
   | exact ih2 _ _ _
   | exact flagstonelaw3_awake.mono _
   | exact flagstonelaw3_small.mono _ _ _ _ _
   | exact flagstoneref3_Compare.mono _ _ _ _ _ _ _ _ _
   | exact flagstoneref3_Equal.mono _ _ _ _ _ _ _ _ _
   | exact value_Compare.mono _ _ _ _ _ _ _ _ _
   | exact value_Equal.mono _ _ _ _ _ _ _ _ _
   | exact LeO.none _
   | refine LeO.ite ?_ ?_
   | refine LeO.bind ?_ (fun _=>?_)
theorem flagstonelaw3_ValueCompares.mono : ∀ a0 a1 a2 a3 a4 a5 a6 a7 a8 k, LeO (flagstonelaw3_ValueCompares.f k a0 a1 a2 a3 a4 a5 a6 a7 a8) (flagstonelaw3_ValueCompares.f (k + 1) a0 a1 a2 a3 a4 a5 a6 a7 a8) := by
 intro a0 a1 a2 a3 a4 a5 a6 a7 a8 k
 obtain ⟨ih0,ih1,ih2⟩ := flagstonelaw3_ValueCompares.mono_l k
 unfold flagstonelaw3_ValueCompares.f
 repeat' first
   | (with_reducible exact ih0 _ _ _ _ _ _ _ _ _ _)
   | (with_reducible exact ih1 _ _)
   | (with_reducible exact ih2 _ _ _)
   | (with_reducible exact flagstonelaw3_awake.mono _)
   | (with_reducible exact flagstonelaw3_small.mono _ _ _ _ _)
   | (with_reducible exact flagstoneref3_Compare.mono _ _ _ _ _ _ _ _ _)
   | (with_reducible exact flagstoneref3_Equal.mono _ _ _ _ _ _ _ _ _)
   | (with_reducible exact value_Compare.mono _ _ _ _ _ _ _ _ _)
   | (with_reducible exact value_Equal.mono _ _ _ _ _ _ _ _ _)
   | (with_reducible exact LeO.refl _)
   | (with_reducible exact LeO.none _)
   | (with_reducible refine LeO.ite ?_ ?_)
   | (with_reducible refine LeO.bind ?_ (fun _=>?_))
   | exact ih0 _ _ _ _ _ _ _ _ _ _
   | exact ih1 _ _
   | exact ih2 _ _ _
   | exact flagstonelaw3_awake.mono _
   | exact flagstonelaw3_small.mono _ _ _ _ _
   | exact flagstoneref3_Compare.mono _ _ _ _ _ _ _ _ _
   | exact flagstoneref3_Equal.mono _ _ _ _ _ _ _ _ _
   | exact value_Compare.mono _ _ _ _ _ _ _ _ _
   | exact value_Equal.mono _ _ _ _ _ _ _ _ _
   | exact LeO.none _
   | refine LeO.ite ?_ ?_
   | refine LeO.bind ?_ (fun _=>?_)
def flagstonelaw3_ValueCompares.T7 : Bool × List (List Nat × List Nat) := (true, [([], []), ([], []), ([], []), ([], []), ([2, 3], [2, 3]), ([], []), ([], []), ([5, 6, 4], [5, 6]), ([], []), ([8, 7], [8]), ([0, 1, 4, 7, 9], [0, 1, 4, 7, 9]), ([10, 9, 0, 1, 2, 3, 4, 5, 6, 7, 8, 9, 10], [10])])
def flagstonelaw3_ValueCompares.B7 : List Nat := [0, 0, 0, 0, 12, 0, 0, 124, 0, 508, 1023, 2047]
theorem flagstonelaw3_ValueCompares.tab7 : rtab .any (opsOf Tryz.f6 7) = flagstonelaw3_ValueCompares.T7 := by kernel_rfl
theorem flagstonelaw3_ValueCompares.bits7 : waitsOk flagstonelaw3_ValueCompares.T7.2 flagstonelaw3_ValueCompares.B7 = true := by kernel_rfl
def flagstonelaw3_ValueCompares.T14 : Bool × List (List Nat × List Nat) := (true, [([], []), ([], []), ([0, 1], [0, 1]), ([2], [2]), ([], []), ([], []), ([4, 5], [4, 5]), ([6], [6]), ([3, 7], [3, 7]), ([8], [8]), ([9], [9]), ([9], [9]), ([10, 8, 0, 1, 2, 3, 4, 5, 6, 7, 8, 9, 10], [10]), ([11, 12, 0, 1, 2, 3, 4, 5, 6, 7, 8, 9, 10, 11, 12], [11])])
def flagstonelaw3_ValueCompares.B14 : List Nat := [0, 0, 3, 7, 0, 0, 48, 112, 255, 511, 1023, 1023, 2047, 8191]
theorem flagstonelaw3_ValueCompares.tab14 : rtab .any (opsOf Tryz.f6 14) = flagstonelaw3_ValueCompares.T14 := by kernel_rfl
theorem flagstonelaw3_ValueCompares.bits14 : waitsOk flagstonelaw3_ValueCompares.T14.2 flagstonelaw3_ValueCompares.B14 = true := by kernel_rfl
def flagstonelaw3_ValueCompares.T15 : Bool × List (List Nat × List Nat) := (true, [([], []), ([], []), ([0, 1], [0, 1]), ([2], [2]), ([], []), ([], []), ([4, 5], [4, 5]), ([6], [6]), ([3, 7], [3, 7]), ([8], [8]), ([9], [9]), ([9], [9]), ([10, 8, 0, 1, 2, 3, 4, 5, 6, 7, 8, 9, 10], [10]), ([11, 12, 0, 1, 2, 3, 4, 5, 6, 7, 8, 9, 10, 11, 12], [11])])
def flagstonelaw3_ValueCompares.B15 : List Nat := [0, 0, 3, 7, 0, 0, 48, 112, 255, 511, 1023, 1023, 2047, 8191]
theorem flagstonelaw3_ValueCompares.tab15 : rtab .any (opsOf Tryz.f6 15) = flagstonelaw3_ValueCompares.T15 := by kernel_rfl
theorem flagstonelaw3_ValueCompares.bits15 : waitsOk flagstonelaw3_ValueCompares.T15.2 flagstonelaw3_ValueCompares.B15 = true := by kernel_rfl
def flagstonelaw3_ValueCompares.T16 : Bool × List (List Nat × List Nat) := (true, [([], []), ([], []), ([0, 1], [0, 1]), ([2], [2]), ([3], [3]), ([3], [3]), ([4, 5, 3], [3, 4, 5]), ([3, 6], [3, 6]), ([7, 3], [7]), ([8], [8]), ([8], [8]), ([9, 10, 8], [8, 9, 10]), ([11, 8], [8, 11]), ([8], [8]), ([8], [8]), ([13, 14, 8], [8, 13, 14]), ([15, 8], [8, 15]), ([12, 16, 8, 8], [8, 12, 16]), ([8], [8]), ([8], [8]), ([18, 19, 8], [8, 18, 19]), ([20, 8], [8, 20]), ([8], [8]), ([8], [8]), ([22, 23, 8], [8, 22, 23]), ([24, 8], [8, 24]), ([21, 25, 17, 8], [8, 21, 25]), ([17, 26, 8], [8, 17, 26]), ([8, 27], [8, 27])])
def flagstonelaw3_ValueCompares.B16 : List Nat := [0, 0, 3, 7, 15, 15, 63, 127, 255, 511, 511, 2047, 4095, 511, 511, 25087, 57855, 131071, 511, 511, 786943, 1835519, 511, 511, 12583423, 29360639, 67108863, 134217727, 268435455]
theorem flagstonelaw3_ValueCompares.tab16 : rtab .any (opsOf Tryz.f6 16) = flagstonelaw3_ValueCompares.T16 := by kernel_rfl
theorem flagstonelaw3_ValueCompares.bits16 : waitsOk flagstonelaw3_ValueCompares.T16.2 flagstonelaw3_ValueCompares.B16 = true := by kernel_rfl
set_option maxHeartbeats 8000000 in
set_option maxRecDepth 100000 in
theorem flagstonelaw3_ValueCompares.calls (k : Nat) (a0_0 : Int) (a0_1 : Int) (a0_2 : ByteArray) (P0_3_ : Nat → Prop) (A0_3 : Option Addr) (c0_3 : Nat) (l0_3 : List ByteArray) (a1_0 : Int) (a1_1 : Int) (a1_2 : ByteArray) (P1_3_ : Nat → Prop) (A1_3 : Option Addr) (c1_3 : Nat) (l1_3 : List ByteArray) (A2 : Option Addr) (c2 : Nat) (l2 : List Int) (r : Bool) (w : World) (hs0_3 : Kd.V Kd.string 9 w w.heap.size (fun k_ => P0_3_ k_) (.slice A0_3 l0_3.length c0_3) l0_3) (hs1_3 : Kd.V Kd.string 9 w w.heap.size (fun k_ => P1_3_ k_) (.slice A1_3 l1_3.length c1_3) l1_3) (hr2 : Kd.C (Kd.int .u8) w A2 l2.length l2) (hc2 : l2.length ≤ c2) (hGL : GL w) (h : flagstonelaw3_ValueCompares.f k a0_0 a0_1 a0_2 l0_3 a1_0 a1_1 a1_2 l1_3 l2 = some r) (hrt : r = true) :
  Calls Tryz.prog 6 #[.agg #[.int .i64 a0_0,.int .i64 a0_1,.string a0_2,.slice A0_3 l0_3.length c0_3],.agg #[.int .i64 a1_0,.int .i64 a1_1,.string a1_2,.slice A1_3 l1_3.length c1_3],.slice A2 l2.length c2] w fun e w'=>e = .returned (.bool r) ∧ Below w.heap.size w w' := by
 have hu24 := Tryz.underlying24
 have HO0_3 := Aside0.mk (show Kd.V Kd.string 9 w w.heap.size (fun k_=>((P0_3_ k_ ∨ P1_3_ k_) ∨ w.heap.size ≤ k_)) (.slice A0_3 l0_3.length c0_3) l0_3 from Kd.V_mono hs0_3 (fun k_ hk=>.inl (.inl hk)))
 have HO1_3 := Aside0.mk (show Kd.V Kd.string 9 w w.heap.size (fun k_=>((P0_3_ k_ ∨ P1_3_ k_) ∨ w.heap.size ≤ k_)) (.slice A1_3 l1_3.length c1_3) l1_3 from Kd.V_mono hs1_3 (fun k_ hk=>.inl (.inr hk)))
 have HR2 := Aside0.mk hr2; have HC2 := Aside0.mk hc2; clear hr2 hc2; have HGL := Aside0.mk hGL; clear hGL
 have HB := Aside0.mk (Below.refl w.heap.size w)
 have H : ((flagstonelaw3_awake.f k).bind fun t235=>(if t235 = true then ((flagstonelaw3_small.f k a0_0 a0_1 a0_2 l0_3).bind fun t236=>(if t236 = true then ((flagstonelaw3_small.f k a1_0 a1_1 a1_2 l1_3).bind fun t237=>(flagstonelaw3_ValueCompares.j0 k l2 (!t237) a0_0 a0_1 a0_2 l0_3 a1_0 a1_1 a1_2 l1_3)) else (flagstonelaw3_ValueCompares.j0 k l2 true a0_0 a0_1 a0_2 l0_3 a1_0 a1_1 a1_2 l1_3))) else (some false))) = some r := h
 clear h; replace H := Option.bind_eq_some_iff.mp H; obtain ⟨t235,A40,H⟩ := H
 replace H : (if t235 = true then ((flagstonelaw3_small.f k a0_0 a0_1 a0_2 l0_3).bind fun t236=>(if t236 = true then ((flagstonelaw3_small.f k a1_0 a1_1 a1_2 l1_3).bind fun t237=>(flagstonelaw3_ValueCompares.j0 k l2 (!t237) a0_0 a0_1 a0_2 l0_3 a1_0 a1_1 a1_2 l1_3)) else (flagstonelaw3_ValueCompares.j0 k l2 true a0_0 a0_1 a0_2 l0_3 a1_0 a1_1 a1_2 l1_3))) else (some false)) = some r := H
 have A4 := Aside0.mk A40; clear A40
 by_cases c5 : t235 = true
 ·subst c5
  have H1 : ((flagstonelaw3_small.f k a0_0 a0_1 a0_2 l0_3).bind fun t236=>(if t236 = true then ((flagstonelaw3_small.f k a1_0 a1_1 a1_2 l1_3).bind fun t237=>(flagstonelaw3_ValueCompares.j0 k l2 (!t237) a0_0 a0_1 a0_2 l0_3 a1_0 a1_1 a1_2 l1_3)) else (flagstonelaw3_ValueCompares.j0 k l2 true a0_0 a0_1 a0_2 l0_3 a1_0 a1_1 a1_2 l1_3))) = some r := by rw [if_pos rfl] at H; exact H
  clear H; have H := H1; clear H1; have HC6 := Aside0.mk H; clear H
  go_enter Tryz.func6,Tryz.ntmps6
  go_upto_region 3 with (first|((with_reducible refine gate_dst (N := 3) rfl ?_); refine box_event ?hg (N := 3) ?hd (cs := #[.int .i64 a0_0,.int .i64 a0_1,.string a0_2,.slice A0_3 l0_3.length c0_3]) (t := 24) ?hr ?_;(case hd=>rfl);(case hg=>rfl);(case hr=>first|(go_simp; done)|(go_simp; rfl)); intro gb233 hg w7 hbox hb; have n0_ := Aside0.mk (Kd.V_below (Kd.V_elderB (by (with_reducible repeat (first|apply Kd.V_alloc|apply Kd.V_drewN|apply Kd.V_drew)); exact HO0_3.out) gb233 (Nat.le_of_eq hg.symm)) hb); have n1_ := Aside0.mk (Kd.V_below (Kd.V_elderB (by (with_reducible repeat (first|apply Kd.V_alloc|apply Kd.V_drewN|apply Kd.V_drew)); exact HO1_3.out) gb233 (Nat.le_of_eq hg.symm)) hb); have n2_ := Aside0.mk (below_step (by repeat (first|(with_reducible first|exact HB.out|apply zE|apply zB|apply zC)|exact HB.out)) hb); have n3_ := Aside0.mk (hbox); have n4_ := Aside0.mk ((by rw [hg]; exact (below_size (by repeat (first|(with_reducible first|exact HB.out|apply zE|apply zB|apply zC)|exact HB.out))) : w.heap.size ≤ gb233)); have n5_ := Aside0.mk ((by rw [hg]; exact (below_size (by repeat (first|(with_reducible first|exact HB.out|apply zE|apply zB|apply zC)|exact HB.out))) : w.heap.size ≤ gb233)); clear HO0_3 HO1_3 HB; have HO0_3 := n0_; have HO1_3 := n1_; have HB := n2_; have BK233 := n3_; have GW233 := n4_; have GE233 := n5_; clear n0_ n1_ n2_ n3_ n4_ n5_ hb hbox hg)|((with_reducible refine gate_dst (N := 4) rfl ?_); refine box_event ?hg (N := 4) ?hd (cs := #[.int .i64 a1_0,.int .i64 a1_1,.string a1_2,.slice A1_3 l1_3.length c1_3]) (t := 24) ?hr ?_;(case hd=>rfl);(case hg=>rfl);(case hr=>first|(go_simp; done)|(go_simp; rfl)); intro gb234 hg w8 hbox hb; have n0_ := Aside0.mk (Kd.V_below (Kd.V_elderB (by (with_reducible repeat (first|apply Kd.V_alloc|apply Kd.V_drewN|apply Kd.V_drew)); exact HO0_3.out) gb234 (Nat.le_of_eq hg.symm)) hb); have n1_ := Aside0.mk (Kd.V_below (Kd.V_elderB (by (with_reducible repeat (first|apply Kd.V_alloc|apply Kd.V_drewN|apply Kd.V_drew)); exact HO1_3.out) gb234 (Nat.le_of_eq hg.symm)) hb); have n2_ := Aside0.mk (blk_below (g := gb233) (o := .cells #[.int .i64 a0_0,.int .i64 a0_1,.string a0_2,.slice A0_3 l0_3.length c0_3] 24 (0,0)) (by (with_reducible repeat (first|refine zN ?_ _|refine zD ?_|refine zA ?_ _)); exact BK233.out) hb); have n3_ := Aside0.mk (below_step (by repeat (first|(with_reducible first|exact HB.out|apply zE|apply zB|apply zC|refine zJ ?_ GE233.out)|exact HB.out)) hb); have n4_ := Aside0.mk (hbox); have n5_ := Aside0.mk ((by rw [hg]; exact (below_size (by repeat (first|(with_reducible first|exact HB.out|apply zE|apply zB|apply zC|refine zJ ?_ GE233.out)|exact HB.out))) : w.heap.size ≤ gb234)); have n6_ := Aside0.mk ((by rw [hg]; exact (below_size (by repeat (first|(with_reducible first|exact HB.out|apply zE|apply zB|apply zC|refine zJ ?_ GE233.out)|exact HB.out))) : w.heap.size ≤ gb234)); have n7_ := Aside0.mk ((by rw [hg]; exact Nat.ne_of_lt (blk_lt (g := gb233) (o := .cells #[.int .i64 a0_0,.int .i64 a0_1,.string a0_2,.slice A0_3 l0_3.length c0_3] 24 (0,0)) (by (with_reducible repeat (first|refine zN ?_ _|refine zD ?_|refine zA ?_ _)); exact BK233.out)) : gb233 ≠ gb234)); have n8_ := Aside0.mk ((by rw [hg]; exact Nat.ne_of_gt (blk_lt (g := gb233) (o := .cells #[.int .i64 a0_0,.int .i64 a0_1,.string a0_2,.slice A0_3 l0_3.length c0_3] 24 (0,0)) (by (with_reducible repeat (first|refine zN ?_ _|refine zD ?_|refine zA ?_ _)); exact BK233.out)) : gb234 ≠ gb233)); clear HO0_3 HO1_3 BK233 HB; have HO0_3 := n0_; have HO1_3 := n1_; have BK233 := n2_; have HB := n3_; have BK234 := n4_; have GW234 := n5_; have GE234 := n6_; have NB233_234 := n7_; have NB234_233 := n8_; clear n0_ n1_ n2_ n3_ n4_ n5_ n6_ n7_ n8_ hb hbox hg)|((with_reducible refine gate_callee (f := 7) rfl ?_); refine goesL_ (some 16) rfl rfl Tryz.func7 (by kernel_rfl) rfl #[] rfl (by (try simp only [List.map_toArray,List.map_cons,List.map_nil]); first|done|rfl|(simp only [List.length_drop,List.length_take]; rfl)) ?_;(with_reducible refine (flagstonelaw3_awake.calls k  true _ ?side1 A4.out).mono ?_);(case side1=>exact GL.below HGL.out (by repeat (first|(with_reducible first|exact HB.out|apply zE|apply zB|apply zC|refine zJ ?_ GE233.out|refine zJ ?_ GE234.out)|exact HB.out))); rintro e w9 ⟨rfl,hb⟩; refine ⟨_,rfl,?_⟩; have n0_ := Aside0.mk (Kd.V_below (by (with_reducible repeat (first|apply Kd.V_alloc|apply Kd.V_drewN|apply Kd.V_drew)); exact HO0_3.out) hb); have n1_ := Aside0.mk (Kd.V_below (by (with_reducible repeat (first|apply Kd.V_alloc|apply Kd.V_drewN|apply Kd.V_drew)); exact HO1_3.out) hb); have n2_ := Aside0.mk (blk_below (g := gb233) (o := .cells #[.int .i64 a0_0,.int .i64 a0_1,.string a0_2,.slice A0_3 l0_3.length c0_3] 24 (0,0)) (by (with_reducible repeat (first|refine zN ?_ _|refine zD ?_|refine zA ?_ _)); exact BK233.out) hb); have n3_ := Aside0.mk (blk_below (g := gb234) (o := .cells #[.int .i64 a1_0,.int .i64 a1_1,.string a1_2,.slice A1_3 l1_3.length c1_3] 24 (0,0)) (by (with_reducible repeat (first|refine zN ?_ _|refine zD ?_|refine zA ?_ _)); exact BK234.out) hb); have n4_ := Aside0.mk (below_step (by repeat (first|(with_reducible first|exact HB.out|apply zE|apply zB|apply zC|refine zJ ?_ GE233.out|refine zJ ?_ GE234.out)|exact HB.out)) hb); clear HO0_3 HO1_3 BK233 BK234 HB; have HO0_3 := n0_; have HO1_3 := n1_; have BK233 := n2_; have BK234 := n3_; have HB := n4_; clear n0_ n1_ n2_ n3_ n4_;(try clear hb);(try clear hb2);(try clear hk);(try clear hi);(try clear hge)))
  (try simp only [Act.put,List.setIfInBounds_toArray,List.set_cons_zero,List.set_cons_succ])
  go_cut [25] (fun v25 wc=>∃ (kq : Nat) (x25_5 : Bool),v25 = .bool x25_5 ∧ Aside0 (flagstonelaw3_ValueCompares.j0 kq l2 x25_5 a0_0 a0_1 a0_2 l0_3 a1_0 a1_1 a1_2 l1_3 = some r) ∧ Aside0 (kq ≤ k) ∧ Aside0 (Kd.V Kd.string 9 wc w.heap.size (fun k_=>((P0_3_ k_ ∨ P1_3_ k_) ∨ w.heap.size ≤ k_) ∧ k_ ≠ gb233 ∧ k_ ≠ gb234) (.slice A0_3 l0_3.length c0_3) l0_3) ∧ Aside0 (Kd.V Kd.string 9 wc w.heap.size (fun k_=>((P0_3_ k_ ∨ P1_3_ k_) ∨ w.heap.size ≤ k_) ∧ k_ ≠ gb233 ∧ k_ ≠ gb234) (.slice A1_3 l1_3.length c1_3) l1_3) ∧ Aside0 (wc.heap[gb233]? = some (.cells #[.int .i64 a0_0,.int .i64 a0_1,.string a0_2,(.slice A0_3 l0_3.length c0_3)] 24 (0,0))) ∧ Aside0 (wc.heap[gb234]? = some (.cells #[.int .i64 a1_0,.int .i64 a1_1,.string a1_2,(.slice A1_3 l1_3.length c1_3)] 24 (0,0))) ∧ Aside0 (Below w.heap.size w wc))
  case first =>
   have H := HC6.out; clear HC6; replace H := Option.bind_eq_some_iff.mp H; obtain ⟨t236,A100,H⟩ := H
   replace H : (if t236 = true then ((flagstonelaw3_small.f k a1_0 a1_1 a1_2 l1_3).bind fun t237=>(flagstonelaw3_ValueCompares.j0 k l2 (!t237) a0_0 a0_1 a0_2 l0_3 a1_0 a1_1 a1_2 l1_3)) else (flagstonelaw3_ValueCompares.j0 k l2 true a0_0 a0_1 a0_2 l0_3 a1_0 a1_1 a1_2 l1_3)) = some r := H
   have A10 := Aside0.mk A100; clear A100
   by_cases c11 : t236 = true
   ·subst c11
    have H1 : ((flagstonelaw3_small.f k a1_0 a1_1 a1_2 l1_3).bind fun t237=>(flagstonelaw3_ValueCompares.j0 k l2 (!t237) a0_0 a0_1 a0_2 l0_3 a1_0 a1_1 a1_2 l1_3)) = some r := by rw [if_pos rfl] at H; exact H
    clear H; have H := H1; clear H1; replace H := Option.bind_eq_some_iff.mp H; obtain ⟨t237,A120,H⟩ := H
    replace H : (flagstonelaw3_ValueCompares.j0 k l2 (!t237) a0_0 a0_1 a0_2 l0_3 a1_0 a1_1 a1_2 l1_3) = some r := H
    have A12 := Aside0.mk A120; clear A120; have H' := Aside0.mk H; clear H; have hnb13 := NB233_234.out; have hnc13 := NB234_233.out
    have hcz14_0 : w9.cell? ⟨gb233,0,none⟩ = some (.int .i64 a0_0):=(blk_cell BK233.out 0).trans rfl
    have hcz14_1 : w9.cell? ⟨gb233,1,none⟩ = some (.int .i64 a0_1):=(blk_cell BK233.out 1).trans rfl
    have hcz14_2 : w9.cell? ⟨gb233,2,none⟩ = some (.string a0_2):=(blk_cell BK233.out 2).trans rfl
    have hcz14_3 : w9.cell? ⟨gb233,3,none⟩ = some (.slice A0_3 l0_3.length c0_3):=(blk_cell BK233.out 3).trans rfl
    have hfz14_0 := blk_frozen BK233.out 0
    have hfz14_1 := blk_frozen BK233.out 1
    have hfz14_2 := blk_frozen BK233.out 2
    have hfz14_3 := blk_frozen BK233.out 3
    go_wp2_with (first|((with_reducible refine gate_callee (f := 8) rfl ?_); refine goesL_ (some 19) rfl rfl Tryz.func8 (by kernel_rfl) rfl #[.agg #[.int .i64 a0_0,.int .i64 a0_1,.string a0_2,.slice A0_3 l0_3.length c0_3]] rfl (by (try simp only [List.map_toArray,List.map_cons,List.map_nil]); first|done|rfl|(simp only [List.length_drop,List.length_take]; rfl)) ?_;(with_reducible refine (flagstonelaw3_small.calls k a0_0 a0_1 a0_2 _ _ l0_3 true _ ?side1 ?side2 A10.out).mono ?_);(case side1=>repeat (first|exact (Kd.V_reads' HO0_3.out).2.2|(with_reducible refine Kd.C_alloc ?_ _)|(with_reducible refine Kd.C_drewN ?_ _)|(with_reducible refine Kd.C_drew ?_)));(case side2=>exact (Kd.V_reads' HO0_3.out).2.1); rintro e w15 ⟨rfl,hb⟩; refine ⟨_,rfl,?_⟩; have n0_ := Aside0.mk (Kd.V_below (by (with_reducible repeat (first|apply Kd.V_alloc|apply Kd.V_drewN|apply Kd.V_drew)); exact HO0_3.out) hb); have n1_ := Aside0.mk (Kd.V_below (by (with_reducible repeat (first|apply Kd.V_alloc|apply Kd.V_drewN|apply Kd.V_drew)); exact HO1_3.out) hb); have n2_ := Aside0.mk (blk_below (g := gb233) (o := .cells #[.int .i64 a0_0,.int .i64 a0_1,.string a0_2,.slice A0_3 l0_3.length c0_3] 24 (0,0)) (by (with_reducible repeat (first|refine zN ?_ _|refine zD ?_|refine zA ?_ _)); exact BK233.out) hb); have n3_ := Aside0.mk (blk_below (g := gb234) (o := .cells #[.int .i64 a1_0,.int .i64 a1_1,.string a1_2,.slice A1_3 l1_3.length c1_3] 24 (0,0)) (by (with_reducible repeat (first|refine zN ?_ _|refine zD ?_|refine zA ?_ _)); exact BK234.out) hb); have n4_ := Aside0.mk (below_step (by repeat (first|(with_reducible first|exact HB.out|apply zE|apply zB|apply zC|refine zJ ?_ GE233.out|refine zJ ?_ GE234.out)|exact HB.out)) hb); clear HO0_3 HO1_3 BK233 BK234 HB; have HO0_3 := n0_; have HO1_3 := n1_; have BK233 := n2_; have BK234 := n3_; have HB := n4_; clear n0_ n1_ n2_ n3_ n4_;(try clear hb);(try clear hb2);(try clear hk);(try clear hi);(try clear hge); have hcz16_0 : w15.cell? ⟨gb234,0,none⟩ = some (.int .i64 a1_0):=(blk_cell BK234.out 0).trans rfl; have hcz16_1 : w15.cell? ⟨gb234,1,none⟩ = some (.int .i64 a1_1):=(blk_cell BK234.out 1).trans rfl; have hcz16_2 : w15.cell? ⟨gb234,2,none⟩ = some (.string a1_2):=(blk_cell BK234.out 2).trans rfl; have hcz16_3 : w15.cell? ⟨gb234,3,none⟩ = some (.slice A1_3 l1_3.length c1_3):=(blk_cell BK234.out 3).trans rfl; have hfz16_0 := blk_frozen BK234.out 0; have hfz16_1 := blk_frozen BK234.out 1; have hfz16_2 := blk_frozen BK234.out 2; have hfz16_3 := blk_frozen BK234.out 3)|(go_at_call 8;(with_reducible refine (flagstonelaw3_small.calls k a1_0 a1_1 a1_2 _ _ l1_3 t237 _ ?side1 ?side2 A12.out).mono ?_);(case side1=>repeat (first|exact (Kd.V_reads' HO1_3.out).2.2|(with_reducible refine Kd.C_alloc ?_ _)|(with_reducible refine Kd.C_drewN ?_ _)|(with_reducible refine Kd.C_drew ?_)));(case side2=>exact (Kd.V_reads' HO1_3.out).2.1); rintro e w17 ⟨rfl,hb⟩; have n0_ := Aside0.mk (Kd.V_below (by (with_reducible repeat (first|apply Kd.V_alloc|apply Kd.V_drewN|apply Kd.V_drew)); exact HO0_3.out) hb); have n1_ := Aside0.mk (Kd.V_below (by (with_reducible repeat (first|apply Kd.V_alloc|apply Kd.V_drewN|apply Kd.V_drew)); exact HO1_3.out) hb); have n2_ := Aside0.mk (blk_below (g := gb233) (o := .cells #[.int .i64 a0_0,.int .i64 a0_1,.string a0_2,.slice A0_3 l0_3.length c0_3] 24 (0,0)) (by (with_reducible repeat (first|refine zN ?_ _|refine zD ?_|refine zA ?_ _)); exact BK233.out) hb); have n3_ := Aside0.mk (blk_below (g := gb234) (o := .cells #[.int .i64 a1_0,.int .i64 a1_1,.string a1_2,.slice A1_3 l1_3.length c1_3] 24 (0,0)) (by (with_reducible repeat (first|refine zN ?_ _|refine zD ?_|refine zA ?_ _)); exact BK234.out) hb); have n4_ := Aside0.mk (below_step (by repeat (first|(with_reducible first|exact HB.out|apply zE|apply zB|apply zC|refine zJ ?_ GE233.out|refine zJ ?_ GE234.out)|exact HB.out)) hb); clear HO0_3 HO1_3 BK233 BK234 HB; have HO0_3 := n0_; have HO1_3 := n1_; have BK233 := n2_; have BK234 := n3_; have HB := n4_; clear n0_ n1_ n2_ n3_ n4_;(try clear hb);(try clear hb2);(try clear hk);(try clear hi);(try clear hge)))
    go_meet
    case rel=>exact ⟨_,(!t237),(by first|rfl|(simp; done)|(simp [*]; done)),H',⟨by first|omega|exact Nat.le_refl _⟩,⟨by (with_reducible repeat (first|apply Kd.V_alloc|apply Kd.V_drewN|apply Kd.V_drew)); exact Kd.V_mono HO0_3.out (fun _ hk=>⟨hk.1.1,⟨hk.1.2,hk.2⟩⟩)⟩,⟨by (with_reducible repeat (first|apply Kd.V_alloc|apply Kd.V_drewN|apply Kd.V_drew)); exact Kd.V_mono HO1_3.out (fun _ hk=>⟨hk.1.1,⟨hk.1.2,hk.2⟩⟩)⟩,⟨by (with_reducible repeat (first|refine zN ?_ _|refine zD ?_|refine zA ?_ _)); exact BK233.out⟩,⟨by (with_reducible repeat (first|refine zN ?_ _|refine zD ?_|refine zA ?_ _)); exact BK234.out⟩,⟨by repeat (first|(with_reducible first|exact HB.out|apply zE|apply zB|apply zC|refine zJ ?_ GE233.out|refine zJ ?_ GE234.out)|exact HB.out)⟩⟩
   ·replace c11 := Bool.eq_false_iff.mpr c11
    subst c11
    have H1 : (flagstonelaw3_ValueCompares.j0 k l2 true a0_0 a0_1 a0_2 l0_3 a1_0 a1_1 a1_2 l1_3) = some r := by rw [if_neg (show ¬ (false = true) by decide)] at H; exact H
    clear H; have H := H1; clear H1; have H' := Aside0.mk H; clear H; have hnb18 := NB233_234.out; have hnc18 := NB234_233.out
    have hcz19_0 : w9.cell? ⟨gb233,0,none⟩ = some (.int .i64 a0_0):=(blk_cell BK233.out 0).trans rfl
    have hcz19_1 : w9.cell? ⟨gb233,1,none⟩ = some (.int .i64 a0_1):=(blk_cell BK233.out 1).trans rfl
    have hcz19_2 : w9.cell? ⟨gb233,2,none⟩ = some (.string a0_2):=(blk_cell BK233.out 2).trans rfl
    have hcz19_3 : w9.cell? ⟨gb233,3,none⟩ = some (.slice A0_3 l0_3.length c0_3):=(blk_cell BK233.out 3).trans rfl
    have hfz19_0 := blk_frozen BK233.out 0
    have hfz19_1 := blk_frozen BK233.out 1
    have hfz19_2 := blk_frozen BK233.out 2
    have hfz19_3 := blk_frozen BK233.out 3
    go_wp2_with (first|((with_reducible refine gate_callee (f := 8) rfl ?_); refine goesL_ (some 19) rfl rfl Tryz.func8 (by kernel_rfl) rfl #[.agg #[.int .i64 a0_0,.int .i64 a0_1,.string a0_2,.slice A0_3 l0_3.length c0_3]] rfl (by (try simp only [List.map_toArray,List.map_cons,List.map_nil]); first|done|rfl|(simp only [List.length_drop,List.length_take]; rfl)) ?_;(with_reducible refine (flagstonelaw3_small.calls k a0_0 a0_1 a0_2 _ _ l0_3 false _ ?side1 ?side2 A10.out).mono ?_);(case side1=>repeat (first|exact (Kd.V_reads' HO0_3.out).2.2|(with_reducible refine Kd.C_alloc ?_ _)|(with_reducible refine Kd.C_drewN ?_ _)|(with_reducible refine Kd.C_drew ?_)));(case side2=>exact (Kd.V_reads' HO0_3.out).2.1); rintro e w20 ⟨rfl,hb⟩; refine ⟨_,rfl,?_⟩; have n0_ := Aside0.mk (Kd.V_below (by (with_reducible repeat (first|apply Kd.V_alloc|apply Kd.V_drewN|apply Kd.V_drew)); exact HO0_3.out) hb); have n1_ := Aside0.mk (Kd.V_below (by (with_reducible repeat (first|apply Kd.V_alloc|apply Kd.V_drewN|apply Kd.V_drew)); exact HO1_3.out) hb); have n2_ := Aside0.mk (blk_below (g := gb233) (o := .cells #[.int .i64 a0_0,.int .i64 a0_1,.string a0_2,.slice A0_3 l0_3.length c0_3] 24 (0,0)) (by (with_reducible repeat (first|refine zN ?_ _|refine zD ?_|refine zA ?_ _)); exact BK233.out) hb); have n3_ := Aside0.mk (blk_below (g := gb234) (o := .cells #[.int .i64 a1_0,.int .i64 a1_1,.string a1_2,.slice A1_3 l1_3.length c1_3] 24 (0,0)) (by (with_reducible repeat (first|refine zN ?_ _|refine zD ?_|refine zA ?_ _)); exact BK234.out) hb); have n4_ := Aside0.mk (below_step (by repeat (first|(with_reducible first|exact HB.out|apply zE|apply zB|apply zC|refine zJ ?_ GE233.out|refine zJ ?_ GE234.out)|exact HB.out)) hb); clear HO0_3 HO1_3 BK233 BK234 HB; have HO0_3 := n0_; have HO1_3 := n1_; have BK233 := n2_; have BK234 := n3_; have HB := n4_; clear n0_ n1_ n2_ n3_ n4_;(try clear hb);(try clear hb2);(try clear hk);(try clear hi);(try clear hge)))
    go_meet
    case rel=>exact ⟨_,(true),(by first|rfl|(simp; done)|(simp [*]; done)),H',⟨by first|omega|exact Nat.le_refl _⟩,⟨by (with_reducible repeat (first|apply Kd.V_alloc|apply Kd.V_drewN|apply Kd.V_drew)); exact Kd.V_mono HO0_3.out (fun _ hk=>⟨hk.1.1,⟨hk.1.2,hk.2⟩⟩)⟩,⟨by (with_reducible repeat (first|apply Kd.V_alloc|apply Kd.V_drewN|apply Kd.V_drew)); exact Kd.V_mono HO1_3.out (fun _ hk=>⟨hk.1.1,⟨hk.1.2,hk.2⟩⟩)⟩,⟨by (with_reducible repeat (first|refine zN ?_ _|refine zD ?_|refine zA ?_ _)); exact BK233.out⟩,⟨by (with_reducible repeat (first|refine zN ?_ _|refine zD ?_|refine zA ?_ _)); exact BK234.out⟩,⟨by repeat (first|(with_reducible first|exact HB.out|apply zE|apply zB|apply zC|refine zJ ?_ GE233.out|refine zJ ?_ GE234.out)|exact HB.out)⟩⟩
  case rest =>
   clear HC6;(try clear c1);(try clear c2);(try clear p2);(try clear c5);(try clear c6);(try clear c7);(try clear c8);(try clear c11);(try clear c13);(try clear c18);(try clear hcz14_0);(try clear hcz14_1);(try clear hcz14_2);(try clear hcz14_3);(try clear hcz16_0);(try clear hcz16_1);(try clear hcz16_2);(try clear hcz16_3);(try clear hcz19_0);(try clear hcz19_1);(try clear hcz19_2);(try clear hcz19_3);(try clear hfz14_0);(try clear hfz14_1);(try clear hfz14_2);(try clear hfz14_3);(try clear hfz16_0);(try clear hfz16_1);(try clear hfz16_2);(try clear hfz16_3);(try clear hfz19_0);(try clear hfz19_1);(try clear hfz19_2);(try clear hfz19_3)
   obtain ⟨kq,x25_5,rfl,HA,HJ5,HO_234003,HO_235003,BK233,BK234,HB⟩ := hcut
   cases kq with
   | zero=>exact absurd HA.out (by simp [flagstonelaw3_ValueCompares.j0])
   | succ kj5 =>
    have H := HA.out; clear HA
    simp only [flagstonelaw3_ValueCompares.j0] at H
    by_cases c21 : x25_5 = true
    ·subst c21
     have H1 : (some true) = some r := by rw [if_pos rfl] at H; exact H
     clear H; have H := H1; clear H1
     obtain rfl := Option.some.inj H
     go_wp2
     go_ret
     exact ⟨by first|rfl|(simp [errW_none,errW_some]<;>rfl)|(simp [*,errW_none,errW_some]<;>rfl),by repeat (first|(with_reducible first|exact HB.out|apply zE|apply zB|apply zC|refine zJ ?_ GE233.out|refine zJ ?_ GE234.out)|exact HB.out)⟩
    ·replace c21 := Bool.eq_false_iff.mpr c21
     subst c21
     have H1 : ((flagstonedraw_New.f l2 30).bind fun bt238=>((flagstonedraw_Codes_Next.f bt238.1 bt238.2 5).bind fun bt241=>((flagstonedraw_Codes_Value.f bt238.1 bt241.2 (wrap64 (1 + bt241.1))).bind fun bt243=>((flagstonedraw_Codes_Value.f bt238.1 bt243.2.2.2.2 (wrap64 (1 + bt241.1))).bind fun bt250=>((flagstonedraw_Codes_Any.f bt238.1 bt250.2.2.2.2).bind fun bt257=>(flagstonelaw3_ValueCompares.l0 kj5 (([(⟨a0_0,a0_1,a0_2,l0_3⟩ : S24),(⟨a1_0,a1_1,a1_2,l1_3⟩ : S24),(⟨bt243.1,bt243.2.1,bt243.2.2.1,bt243.2.2.2.1⟩ : S24),(⟨bt250.1,bt250.2.1,bt250.2.2.1,bt250.2.2.2.1⟩ : S24),(⟨bt257.1,bt257.2.1,bt257.2.2.1,bt257.2.2.2.1⟩ : S24)] : List (S24))) 0)))))) = some r := by rw [if_neg (show ¬ (false = true) by decide)] at H; exact H
     clear H; have H := H1; clear H1; replace H := Option.bind_eq_some_iff.mp H
     obtain ⟨⟨t238,t239⟩,A220,H⟩ := H
     replace H : ((flagstonedraw_Codes_Next.f t238 t239 5).bind fun bt241=>((flagstonedraw_Codes_Value.f t238 bt241.2 (wrap64 (1 + bt241.1))).bind fun bt243=>((flagstonedraw_Codes_Value.f t238 bt243.2.2.2.2 (wrap64 (1 + bt241.1))).bind fun bt250=>((flagstonedraw_Codes_Any.f t238 bt250.2.2.2.2).bind fun bt257=>(flagstonelaw3_ValueCompares.l0 kj5 (([(⟨a0_0,a0_1,a0_2,l0_3⟩ : S24),(⟨a1_0,a1_1,a1_2,l1_3⟩ : S24),(⟨bt243.1,bt243.2.1,bt243.2.2.1,bt243.2.2.2.1⟩ : S24),(⟨bt250.1,bt250.2.1,bt250.2.2.1,bt250.2.2.2.1⟩ : S24),(⟨bt257.1,bt257.2.1,bt257.2.2.1,bt257.2.2.2.1⟩ : S24)] : List (S24))) 0))))) = some r := H
     have A22 := Aside0.mk A220; clear A220; replace H := Option.bind_eq_some_iff.mp H
     obtain ⟨⟨t241,t242⟩,A230,H⟩ := H
     replace H : ((flagstonedraw_Codes_Value.f t238 t242 (wrap64 (1 + t241))).bind fun bt243=>((flagstonedraw_Codes_Value.f t238 bt243.2.2.2.2 (wrap64 (1 + t241))).bind fun bt250=>((flagstonedraw_Codes_Any.f t238 bt250.2.2.2.2).bind fun bt257=>(flagstonelaw3_ValueCompares.l0 kj5 (([(⟨a0_0,a0_1,a0_2,l0_3⟩ : S24),(⟨a1_0,a1_1,a1_2,l1_3⟩ : S24),(⟨bt243.1,bt243.2.1,bt243.2.2.1,bt243.2.2.2.1⟩ : S24),(⟨bt250.1,bt250.2.1,bt250.2.2.1,bt250.2.2.2.1⟩ : S24),(⟨bt257.1,bt257.2.1,bt257.2.2.1,bt257.2.2.2.1⟩ : S24)] : List (S24))) 0)))) = some r := H
     have A23 := Aside0.mk A230; clear A230; replace H := Option.bind_eq_some_iff.mp H
     obtain ⟨⟨t243,t244,t245,t246,t249⟩,A240,H⟩ := H
     replace H : ((flagstonedraw_Codes_Value.f t238 t249 (wrap64 (1 + t241))).bind fun bt250=>((flagstonedraw_Codes_Any.f t238 bt250.2.2.2.2).bind fun bt257=>(flagstonelaw3_ValueCompares.l0 kj5 (([(⟨a0_0,a0_1,a0_2,l0_3⟩ : S24),(⟨a1_0,a1_1,a1_2,l1_3⟩ : S24),(⟨t243,t244,t245,t246⟩ : S24),(⟨bt250.1,bt250.2.1,bt250.2.2.1,bt250.2.2.2.1⟩ : S24),(⟨bt257.1,bt257.2.1,bt257.2.2.1,bt257.2.2.2.1⟩ : S24)] : List (S24))) 0))) = some r := H
     have A24 := Aside0.mk A240; clear A240; replace H := Option.bind_eq_some_iff.mp H
     obtain ⟨⟨t250,t251,t252,t253,t256⟩,A250,H⟩ := H
     replace H : ((flagstonedraw_Codes_Any.f t238 t256).bind fun bt257=>(flagstonelaw3_ValueCompares.l0 kj5 (([(⟨a0_0,a0_1,a0_2,l0_3⟩ : S24),(⟨a1_0,a1_1,a1_2,l1_3⟩ : S24),(⟨t243,t244,t245,t246⟩ : S24),(⟨t250,t251,t252,t253⟩ : S24),(⟨bt257.1,bt257.2.1,bt257.2.2.1,bt257.2.2.2.1⟩ : S24)] : List (S24))) 0)) = some r := H
     have A25 := Aside0.mk A250; clear A250; replace H := Option.bind_eq_some_iff.mp H
     obtain ⟨⟨t257,t258,t259,t260,t263⟩,A260,H⟩ := H
     replace H : (flagstonelaw3_ValueCompares.l0 kj5 (([(⟨a0_0,a0_1,a0_2,l0_3⟩ : S24),(⟨a1_0,a1_1,a1_2,l1_3⟩ : S24),(⟨t243,t244,t245,t246⟩ : S24),(⟨t250,t251,t252,t253⟩ : S24),(⟨t257,t258,t259,t260⟩ : S24)] : List (S24))) 0) = some r := H
     have A26 := Aside0.mk A260; clear A260
     obtain ⟨y264,hy264⟩ : ∃ y_ : List (S24),y_ = (([(⟨a0_0,a0_1,a0_2,l0_3⟩ : S24),(⟨a1_0,a1_1,a1_2,l1_3⟩ : S24),(⟨t243,t244,t245,t246⟩ : S24),(⟨t250,t251,t252,t253⟩ : S24),(⟨t257,t258,t259,t260⟩ : S24)] : List (S24))):=⟨_,rfl⟩
     replace H : (flagstonelaw3_ValueCompares.l0 kj5 y264 0) = some r := by first|(rw [hy264]; with_reducible exact H)|(have H2_:=(Option.bind_some _ _).symm.trans H; rw [hy264]; with_reducible exact H2_)|(have H2_:=(Option.bind_some _ _).symm.trans H; with_reducible exact H2_)|with_reducible exact H|(rw [hy264]; exact H)|exact H
     have Ny264 := Aside0.mk hy264; clear hy264; have H' := Aside0.mk H; clear H
     try go_wp2_with (first|((with_reducible refine gate_callee (f := 9) rfl ?_); refine goesL_ (some 27) rfl rfl Tryz.func9 (by kernel_rfl) rfl #[.slice A2 l2.length c2,.int .i64 30] rfl (by (try simp only [List.map_toArray,List.map_cons,List.map_nil]); first|done|rfl|(simp only [List.length_drop,List.length_take]; rfl)) ?_;(with_reducible refine (flagstonedraw_New.calls _ _ l2 30 t238 t239 w _ ?side1 ?side2 ?side3 A22.out).mono ?_);(case side1=>repeat (first|(with_reducible first|exact HB.out|apply zE|apply zB|apply zC|refine zJ ?_ GE233.out|refine zJ ?_ GE234.out)|exact HB.out));(case side2=>exact HR2.out);(case side3=>exact HC2.out); rintro e w27 ⟨g240,rfl,hi,hb,hb2,hge⟩; refine ⟨_,rfl,?_⟩; have n0_ := Aside0.mk (Kd.V_below (Kd.V_elderB (by (with_reducible repeat (first|apply Kd.V_alloc|apply Kd.V_drewN|apply Kd.V_drew)); exact HO_234003.out) g240 hge) hb2); have n1_ := Aside0.mk (Kd.V_below (Kd.V_elderB (by (with_reducible repeat (first|apply Kd.V_alloc|apply Kd.V_drewN|apply Kd.V_drew)); exact HO_235003.out) g240 hge) hb2); have n2_ := Aside0.mk (blk_below (g := gb233) (o := .cells #[.int .i64 a0_0,.int .i64 a0_1,.string a0_2,.slice A0_3 l0_3.length c0_3] 24 (0,0)) (by (with_reducible repeat (first|refine zN ?_ _|refine zD ?_|refine zA ?_ _)); exact BK233.out) hb2); have n3_ := Aside0.mk (blk_below (g := gb234) (o := .cells #[.int .i64 a1_0,.int .i64 a1_1,.string a1_2,.slice A1_3 l1_3.length c1_3] 24 (0,0)) (by (with_reducible repeat (first|refine zN ?_ _|refine zD ?_|refine zA ?_ _)); exact BK234.out) hb2); have n4_ := Aside0.mk (hb); have n5_ := Aside0.mk (hi); have n6_ := Aside0.mk (IsS50.ne_blk hi (blk_below (g := gb233) (o := .cells #[.int .i64 a0_0,.int .i64 a0_1,.string a0_2,.slice A0_3 l0_3.length c0_3] 24 (0,0)) (by (with_reducible repeat (first|refine zN ?_ _|refine zD ?_|refine zA ?_ _)); exact BK233.out) hb2) (by decide)); have n7_ := Aside0.mk (Ne.symm (IsS50.ne_blk hi (blk_below (g := gb233) (o := .cells #[.int .i64 a0_0,.int .i64 a0_1,.string a0_2,.slice A0_3 l0_3.length c0_3] 24 (0,0)) (by (with_reducible repeat (first|refine zN ?_ _|refine zD ?_|refine zA ?_ _)); exact BK233.out) hb2) (by decide))); have n8_ := Aside0.mk (IsS50.ne_blk hi (blk_below (g := gb234) (o := .cells #[.int .i64 a1_0,.int .i64 a1_1,.string a1_2,.slice A1_3 l1_3.length c1_3] 24 (0,0)) (by (with_reducible repeat (first|refine zN ?_ _|refine zD ?_|refine zA ?_ _)); exact BK234.out) hb2) (by decide)); have n9_ := Aside0.mk (Ne.symm (IsS50.ne_blk hi (blk_below (g := gb234) (o := .cells #[.int .i64 a1_0,.int .i64 a1_1,.string a1_2,.slice A1_3 l1_3.length c1_3] 24 (0,0)) (by (with_reducible repeat (first|refine zN ?_ _|refine zD ?_|refine zA ?_ _)); exact BK234.out) hb2) (by decide))); clear HO_234003 HO_235003 BK233 BK234 HB; have HO_234003 := n0_; have HO_235003 := n1_; have BK233 := n2_; have BK234 := n3_; have HB := n4_; have HI240 := n5_; have NB240_233 := n6_; have NB233_240 := n7_; have NB240_234 := n8_; have NB234_240 := n9_; clear n0_ n1_ n2_ n3_ n4_ n5_ n6_ n7_ n8_ n9_;(try clear hb);(try clear hb2);(try clear hk);(try clear hi);(try clear hge))|((with_reducible refine gate_callee (f := 11) rfl ?_); refine goesL_ (some 29) rfl rfl Tryz.func11 (by kernel_rfl) rfl #[.pointer (some ⟨g240,0,none⟩),.int .i64 5] rfl (by (try simp only [List.map_toArray,List.map_cons,List.map_nil]); first|done|rfl|(simp only [List.length_drop,List.length_take]; rfl)) ?_;(with_reducible refine (flagstonedraw_Codes_Next.calls g240 t238 t239 5 t241 t242 w _ ?side1 ?side2 A23.out).mono ?_);(case side1=>repeat (first|(with_reducible first|exact HI240.out|apply IsS50.alloc|apply IsS50.drewN|apply IsS50.drew|apply IsS50.set_1|refine IsS50.far ?_ NB240_233.out _|refine IsS50.far ?_ NB240_234.out _)|exact HI240.out));(case side2=>repeat (first|(with_reducible first|exact HB.out|apply zE|apply zB|apply zC|refine zJ ?_ (IsS50.ge HI240.out)|refine zJ ?_ GE233.out|refine zJ ?_ GE234.out)|exact HB.out)); rintro e w28 ⟨rfl,hi,hb,hk⟩; refine ⟨_,rfl,?_⟩; have n0_ := Aside0.mk (Kd.V_mono (Kd.V_keep (Kd.V_mono (ok := fun k_=>(((((P0_3_ k_ ∨ P1_3_ k_) ∨ w.heap.size ≤ k_)) ∧ (k_ ≠ gb233 ∧ k_ ≠ gb234)) ∧ k_ ≠ g240)) (by (with_reducible repeat (first|apply Kd.V_alloc|apply Kd.V_drewN|apply Kd.V_drew)); exact HO_234003.out) (fun k_ hk_=>(⟨hk_,hk_.2⟩ : _ ∧ k_ ≠ g240))) hk (fun _ h=>h.2)) (fun _ h=>h.1)); have n1_ := Aside0.mk (Kd.V_mono (Kd.V_keep (Kd.V_mono (ok := fun k_=>(((((P0_3_ k_ ∨ P1_3_ k_) ∨ w.heap.size ≤ k_)) ∧ (k_ ≠ gb233 ∧ k_ ≠ gb234)) ∧ k_ ≠ g240)) (by (with_reducible repeat (first|apply Kd.V_alloc|apply Kd.V_drewN|apply Kd.V_drew)); exact HO_235003.out) (fun k_ hk_=>(⟨hk_,hk_.2⟩ : _ ∧ k_ ≠ g240))) hk (fun _ h=>h.2)) (fun _ h=>h.1)); have n2_ := Aside0.mk (KeepBut.blk hk (g' := gb233) (o := .cells #[.int .i64 a0_0,.int .i64 a0_1,.string a0_2,.slice A0_3 l0_3.length c0_3] 24 (0,0)) (by (with_reducible repeat (first|refine zN ?_ _|refine zD ?_|refine zA ?_ _)); exact BK233.out) NB233_240.out (by simp)); have n3_ := Aside0.mk (KeepBut.blk hk (g' := gb234) (o := .cells #[.int .i64 a1_0,.int .i64 a1_1,.string a1_2,.slice A1_3 l1_3.length c1_3] 24 (0,0)) (by (with_reducible repeat (first|refine zN ?_ _|refine zD ?_|refine zA ?_ _)); exact BK234.out) NB234_240.out (by simp)); have n4_ := Aside0.mk (hb); have n5_ := Aside0.mk (hi); clear HO_234003 HO_235003 BK233 BK234 HB HI240; have HO_234003 := n0_; have HO_235003 := n1_; have BK233 := n2_; have BK234 := n3_; have HB := n4_; have HI240 := n5_; clear n0_ n1_ n2_ n3_ n4_ n5_;(try clear hb);(try clear hb2);(try clear hk);(try clear hi);(try clear hge)))
     have n0_ := Aside0.mk (Kd.V_drew HO_234003.out)
     have n1_ := Aside0.mk (Kd.V_drew HO_235003.out)
     have n2_ := Aside0.mk (zD BK233.out)
     have n3_ := Aside0.mk (zD BK234.out)
     have n4_ := Aside0.mk (IsS50.drew HI240.out)
     have n5_ := Aside0.mk (zC HB.out)
     clear HO_234003 HO_235003 BK233 BK234 HI240 HB; have HO_234003 := n0_; have HO_235003 := n1_; have BK233 := n2_; have BK234 := n3_; have HI240 := n4_; have HB := n5_; clear n0_ n1_ n2_ n3_ n4_ n5_
     refine start_ (n := 12) (S := fun w'=>w'.cell? ⟨gb233,0,none⟩ = some (.int .i64 a0_0) ∧ w'.cell? ⟨gb233,1,none⟩ = some (.int .i64 a0_1) ∧ w'.cell? ⟨gb233,2,none⟩ = some (.string a0_2) ∧ w'.cell? ⟨gb233,3,none⟩ = some (.slice A0_3 l0_3.length c0_3) ∧ w'.cell? ⟨gb234,0,none⟩ = some (.int .i64 a1_0) ∧ w'.cell? ⟨gb234,1,none⟩ = some (.int .i64 a1_1) ∧ w'.cell? ⟨gb234,2,none⟩ = some (.string a1_2) ∧ w'.cell? ⟨gb234,3,none⟩ = some (.slice A1_3 l1_3.length c1_3)) (ds := []) #[false,false,false,false,false,false,false,false,false,false,false,false] (by kernel_rfl) rfl rfl ⟨(blk_cell BK233.out 0).trans rfl,(blk_cell BK233.out 1).trans rfl,(blk_cell BK233.out 2).trans rfl,(blk_cell BK233.out 3).trans rfl,(blk_cell BK234.out 0).trans rfl,(blk_cell BK234.out 1).trans rfl,(blk_cell BK234.out 2).trans rfl,(blk_cell BK234.out 3).trans rfl⟩ (fun hHeld=>?_); refine with_tabW flagstonelaw3_ValueCompares.tab7 flagstonelaw3_ValueCompares.bits7 (fun HT_ HW_=>?_)
     generalize w28.drew = w29 at HO_234003 HO_235003 BK233 BK234 HI240 HB hHeld ⊢
     refine pure_ (i := 2) (N := some 33) (v := ?_) (a' := ?_) #[false,false,true,false,false,false,false,false,false,false,false,false] rfl rfl (any_of HT_.out (by kernel_rfl)) (fun _ _ _ h=>h) (Or.inl ⟨by rfl,?_⟩) ?_ ?_
     rotate_left
     ·intro w'
      go_simp
      with_reducible rfl
     rotate_left
     ·simp only [Act.put,List.setIfInBounds_toArray,List.set_cons_zero,List.set_cons_succ,i64_w,i32_w]
      rfl
     refine pure_ (i := 3) (N := some 34) (v := ?_) (a' := ?_) #[false,false,true,true,false,false,false,false,false,false,false,false] rfl rfl (any_of HT_.out (by kernel_rfl)) (fun _ _ _ h=>h) (Or.inl ⟨by rfl,?_⟩) ?_ ?_
     rotate_left
     ·intro w'
      go_simp
      with_reducible rfl
     rotate_left
     ·simp only [Act.put,List.setIfInBounds_toArray,List.set_cons_zero,List.set_cons_succ,i64_w,i32_w]
      rfl
     refine pure_ (i := 5) (N := some 36) (v := ?_) (a' := ?_) #[false,false,true,true,false,true,false,false,false,false,false,false] rfl rfl (any_of HT_.out (by kernel_rfl)) (fun _ _ _ h=>h) (Or.inl ⟨by rfl,?_⟩) ?_ ?_
     rotate_left
     ·intro w'
      go_simp
      with_reducible rfl
     rotate_left
     ·simp only [Act.put,List.setIfInBounds_toArray,List.set_cons_zero,List.set_cons_succ,i64_w,i32_w]
      rfl
     refine pure_ (i := 6) (N := some 37) (v := ?_) (a' := ?_) #[false,false,true,true,false,true,true,false,false,false,false,false] rfl rfl (any_of HT_.out (by kernel_rfl)) (fun _ _ _ h=>h) (Or.inl ⟨by rfl,?_⟩) ?_ ?_
     rotate_left
     ·intro w'
      go_simp
      with_reducible rfl
     rotate_left
     ·simp only [Act.put,List.setIfInBounds_toArray,List.set_cons_zero,List.set_cons_succ,i64_w,i32_w]
      rfl
     refine pure_ (i := 8) (N := some 39) (v := ?_) (a' := ?_) #[false,false,true,true,false,true,true,false,true,false,false,false] rfl rfl (any_of HT_.out (by kernel_rfl)) (fun _ _ _ h=>h) (Or.inl ⟨by rfl,?_⟩) ?_ ?_
     rotate_left
     ·intro w'
      go_simp
      with_reducible rfl
     rotate_left
     ·simp only [Act.put,List.setIfInBounds_toArray,List.set_cons_zero,List.set_cons_succ,i64_w,i32_w]
      rfl
     refine take_ (i := 0) (N := some 31) (v := ?_) (a' := ?_) #[true,false,true,true,false,true,true,false,true,false,false,false] rfl rfl (take_ofW HT_.out HW_.out (by kernel_rfl)) (fun _ _ _ h=>h) (Or.inl ⟨by rfl,?_⟩) hHeld ?_ ?_
     rotate_left
     ·rintro w' ⟨s0,s1,s2,s3,s4,s5,s6,s7⟩
      go_simp
      with_reducible rfl
     rotate_left
     ·simp only [Act.put,List.setIfInBounds_toArray,List.set_cons_zero,List.set_cons_succ,i64_w,i32_w]
      rfl
     refine take_ (i := 1) (N := some 32) (v := ?_) (a' := ?_) #[true,true,true,true,false,true,true,false,true,false,false,false] rfl rfl (take_ofW HT_.out HW_.out (by kernel_rfl)) (fun _ _ _ h=>h) (Or.inl ⟨by rfl,?_⟩) hHeld ?_ ?_
     rotate_left
     ·rintro w' ⟨s0,s1,s2,s3,s4,s5,s6,s7⟩
      go_simp
      with_reducible rfl
     rotate_left
     ·simp only [Act.put,List.setIfInBounds_toArray,List.set_cons_zero,List.set_cons_succ,i64_w,i32_w]
      rfl
     refine one_ (i := 4) (N := some 35) #[true,true,true,true,true,true,true,false,true,false,false,false] rfl rfl (one_of HT_.out (by kernel_rfl)) (by decide) (fun K hK=>?_)
     refine goes_ Tryz.func22 (by kernel_rfl) rfl #[.pointer (some ⟨g240,0,none⟩),.int .i64 (wrap64 (1 + t241))] (by rfl) rfl rfl (by (try simp only [List.map_toArray,List.map_cons,List.map_nil]); first|done|rfl|(simp only [List.length_drop,List.length_take]; rfl)) ?_
     with_reducible refine (flagstonedraw_Codes_Value.calls g240 t238 t242 (wrap64 (1 + t241)) t243 t244 t245 t246 t249 w _ ?side1 ?side2 ?side3 A24.out).mono ?_
     (case side1=>repeat (first|(with_reducible first|exact HI240.out|apply IsS50.alloc|apply IsS50.drewN|apply IsS50.drew|apply IsS50.set_1|refine IsS50.far ?_ NB240_233.out _|refine IsS50.far ?_ NB240_234.out _)|exact HI240.out))
     (case side2=>repeat (first|(with_reducible first|exact HB.out|apply zE|apply zB|apply zC|refine zJ ?_ (IsS50.ge HI240.out)|refine zJ ?_ GE233.out|refine zJ ?_ GE234.out)|exact HB.out))
     (case side3=>exact HGL.out)
     rintro e w30 ⟨v247,rfl,ho0,hi,hb,hk⟩
     refine ⟨_,rfl,?_⟩
     have n0_ := Aside0.mk (Kd.V_mono (Kd.V_told (Kd.V_oldK (Kd.V_mono (ok := fun k_=>(((((P0_3_ k_ ∨ P1_3_ k_) ∨ w.heap.size ≤ k_)) ∧ (k_ ≠ gb233 ∧ k_ ≠ gb234)) ∧ k_ ≠ g240)) (by (with_reducible repeat (first|apply Kd.V_alloc|apply Kd.V_drewN|apply Kd.V_drew)); exact HO_234003.out) (fun k_ hk_=>(⟨hk_,hk_.2⟩ : _ ∧ k_ ≠ g240))) hk) (Kd.R_base ho0)) (fun _ h_=>h_.1))
     have n1_ := Aside0.mk (Kd.V_mono (Kd.V_told (Kd.V_oldK (Kd.V_mono (ok := fun k_=>(((((P0_3_ k_ ∨ P1_3_ k_) ∨ w.heap.size ≤ k_)) ∧ (k_ ≠ gb233 ∧ k_ ≠ gb234)) ∧ k_ ≠ g240)) (by (with_reducible repeat (first|apply Kd.V_alloc|apply Kd.V_drewN|apply Kd.V_drew)); exact HO_235003.out) (fun k_ hk_=>(⟨hk_,hk_.2⟩ : _ ∧ k_ ≠ g240))) hk) (Kd.R_base ho0)) (fun _ h_=>h_.1))
     have n2_ := Aside0.mk (KeepBut.blk hk (g' := gb233) (o := .cells #[.int .i64 a0_0,.int .i64 a0_1,.string a0_2,.slice A0_3 l0_3.length c0_3] 24 (0,0)) (by (with_reducible repeat (first|refine zN ?_ _|refine zD ?_|refine zA ?_ _)); exact BK233.out) NB233_240.out (by simp))
     have n3_ := Aside0.mk (KeepBut.blk hk (g' := gb234) (o := .cells #[.int .i64 a1_0,.int .i64 a1_1,.string a1_2,.slice A1_3 l1_3.length c1_3] 24 (0,0)) (by (with_reducible repeat (first|refine zN ?_ _|refine zD ?_|refine zA ?_ _)); exact BK234.out) NB234_240.out (by simp))
     have n4_ := Aside0.mk (Kd.R_lower (Kd.R_newM (M := fun k_=>(w.heap.size ≤ k_)) ho0 (below_size (by repeat (first|(with_reducible first|exact HB.out|apply zE|apply zB|apply zC|refine zJ ?_ (IsS50.ge HI240.out)|refine zJ ?_ GE233.out|refine zJ ?_ GE234.out)|exact HB.out))) (fun k_ h_=>h_)) (below_size (by repeat (first|(with_reducible first|exact HB.out|apply zE|apply zB|apply zC|refine zJ ?_ (IsS50.ge HI240.out)|refine zJ ?_ GE233.out|refine zJ ?_ GE234.out)|exact HB.out))))
     have n5_ := Aside0.mk (hb)
     have n6_ := Aside0.mk (hi)
     clear HO_234003 HO_235003 BK233 BK234 HB HI240; have HO_234003 := n0_; have HO_235003 := n1_; have BK233 := n2_; have BK234 := n3_; have HO248 := n4_; have HB := n5_; have HI240 := n6_; clear n0_ n1_ n2_ n3_ n4_ n5_ n6_
     (try clear hb)
     (try clear hb2)
     (try clear hk)
     (try clear hi)
     (try clear hge)
     (try clear ho0)
     refine hK.out _ _ ⟨(blk_cell BK233.out 0).trans rfl,(blk_cell BK233.out 1).trans rfl,(blk_cell BK233.out 2).trans rfl,(blk_cell BK233.out 3).trans rfl,(blk_cell BK234.out 0).trans rfl,(blk_cell BK234.out 1).trans rfl,(blk_cell BK234.out 2).trans rfl,(blk_cell BK234.out 3).trans rfl⟩ (fun hHeld=>?_)
     clear hK K
     refine norm_ (a' := ?_) ?_ ?_
     rotate_left
     ·show Act.put _ (some 35) _ = _
      simp only [Act.put,List.setIfInBounds_toArray,List.set_cons_zero,List.set_cons_succ,i64_w,i32_w]
      rfl
     refine one_ (i := 7) (N := some 38) #[true,true,true,true,true,true,true,true,true,false,false,false] rfl rfl (one_of HT_.out (by kernel_rfl)) (by decide) (fun K hK=>?_)
     refine goes_ Tryz.func22 (by kernel_rfl) rfl #[.pointer (some ⟨g240,0,none⟩),.int .i64 (wrap64 (1 + t241))] (by rfl) rfl rfl (by (try simp only [List.map_toArray,List.map_cons,List.map_nil]); first|done|rfl|(simp only [List.length_drop,List.length_take]; rfl)) ?_
     with_reducible refine (flagstonedraw_Codes_Value.calls g240 t238 t249 (wrap64 (1 + t241)) t250 t251 t252 t253 t256 w _ ?side1 ?side2 ?side3 A25.out).mono ?_
     (case side1=>repeat (first|(with_reducible first|exact HI240.out|apply IsS50.alloc|apply IsS50.drewN|apply IsS50.drew|apply IsS50.set_1|refine IsS50.far ?_ NB240_233.out _|refine IsS50.far ?_ NB240_234.out _)|exact HI240.out))
     (case side2=>repeat (first|(with_reducible first|exact HB.out|apply zE|apply zB|apply zC|refine zJ ?_ (IsS50.ge HI240.out)|refine zJ ?_ GE233.out|refine zJ ?_ GE234.out)|exact HB.out))
     (case side3=>exact HGL.out)
     rintro e w31 ⟨v254,rfl,ho0,hi,hb,hk⟩
     refine ⟨_,rfl,?_⟩
     have n0_ := Aside0.mk (Kd.V_mono (Kd.V_told (Kd.V_oldK (Kd.V_mono (ok := fun k_=>((((((P0_3_ k_ ∨ P1_3_ k_) ∨ w.heap.size ≤ k_)) ∧ (k_ ≠ gb233 ∧ k_ ≠ gb234)) ∧ k_ ≠ g240) ∧ some k_ ≠ (v247 : Value).ownBlock)) (by (with_reducible repeat (first|apply Kd.V_alloc|apply Kd.V_drewN|apply Kd.V_drew)); exact HO_234003.out) (fun k_ hk_=>(⟨hk_,hk_.1.2⟩ : _ ∧ k_ ≠ g240))) hk) (Kd.R_base ho0)) (fun _ h_=>h_.1))
     have n1_ := Aside0.mk (Kd.V_mono (Kd.V_told (Kd.V_oldK (Kd.V_mono (ok := fun k_=>((((((P0_3_ k_ ∨ P1_3_ k_) ∨ w.heap.size ≤ k_)) ∧ (k_ ≠ gb233 ∧ k_ ≠ gb234)) ∧ k_ ≠ g240) ∧ some k_ ≠ (v247 : Value).ownBlock)) (by (with_reducible repeat (first|apply Kd.V_alloc|apply Kd.V_drewN|apply Kd.V_drew)); exact HO_235003.out) (fun k_ hk_=>(⟨hk_,hk_.1.2⟩ : _ ∧ k_ ≠ g240))) hk) (Kd.R_base ho0)) (fun _ h_=>h_.1))
     have n2_ := Aside0.mk (KeepBut.blk hk (g' := gb233) (o := .cells #[.int .i64 a0_0,.int .i64 a0_1,.string a0_2,.slice A0_3 l0_3.length c0_3] 24 (0,0)) (by (with_reducible repeat (first|refine zN ?_ _|refine zD ?_|refine zA ?_ _)); exact BK233.out) NB233_240.out (by simp))
     have n3_ := Aside0.mk (KeepBut.blk hk (g' := gb234) (o := .cells #[.int .i64 a1_0,.int .i64 a1_1,.string a1_2,.slice A1_3 l1_3.length c1_3] 24 (0,0)) (by (with_reducible repeat (first|refine zN ?_ _|refine zD ?_|refine zA ?_ _)); exact BK234.out) NB234_240.out (by simp))
     have n4_ := Aside0.mk (Kd.R_mono (Kd.R_told (Kd.R_oldK (IsS50.apart (show IsS50 w _ g240 t238 t249 from by repeat (first|(with_reducible first|exact HI240.out|apply IsS50.alloc|apply IsS50.drewN|apply IsS50.drew|apply IsS50.set_1|refine IsS50.far ?_ NB240_233.out _|refine IsS50.far ?_ NB240_234.out _)|exact HI240.out)) (by (with_reducible repeat (first|apply Kd.R_alloc|apply Kd.R_drewN|apply Kd.R_drew)); exact HO248.out) (by decide)) hk) (Kd.R_base ho0)) (fun _ h_=>h_.1))
     have n5_ := Aside0.mk (Kd.R_lower (Kd.R_new' (Kd.R_newM (M := fun k_=>(w.heap.size ≤ k_)) ho0 (below_size (by repeat (first|(with_reducible first|exact HB.out|apply zE|apply zB|apply zC|refine zJ ?_ (IsS50.ge HI240.out)|refine zJ ?_ GE233.out|refine zJ ?_ GE234.out)|exact HB.out))) (fun k_ h_=>h_)) (Kd.R_lt (by (with_reducible repeat (first|apply Kd.R_alloc|apply Kd.R_drewN|apply Kd.R_drew)); exact HO248.out))) (below_size (by repeat (first|(with_reducible first|exact HB.out|apply zE|apply zB|apply zC|refine zJ ?_ (IsS50.ge HI240.out)|refine zJ ?_ GE233.out|refine zJ ?_ GE234.out)|exact HB.out))))
     have n6_ := Aside0.mk (hb)
     have n7_ := Aside0.mk (hi)
     clear HO_234003 HO_235003 BK233 BK234 HO248 HB HI240; have HO_234003 := n0_; have HO_235003 := n1_; have BK233 := n2_; have BK234 := n3_; have HO248 := n4_; have HO255 := n5_; have HB := n6_; have HI240 := n7_; clear n0_ n1_ n2_ n3_ n4_ n5_ n6_ n7_
     (try clear hb)
     (try clear hb2)
     (try clear hk)
     (try clear hi)
     (try clear hge)
     (try clear ho0)
     refine hK.out _ _ ⟨(blk_cell BK233.out 0).trans rfl,(blk_cell BK233.out 1).trans rfl,(blk_cell BK233.out 2).trans rfl,(blk_cell BK233.out 3).trans rfl,(blk_cell BK234.out 0).trans rfl,(blk_cell BK234.out 1).trans rfl,(blk_cell BK234.out 2).trans rfl,(blk_cell BK234.out 3).trans rfl⟩ (fun hHeld=>?_)
     clear hK K
     refine norm_ (a' := ?_) ?_ ?_
     rotate_left
     ·show Act.put _ (some 38) _ = _
      simp only [Act.put,List.setIfInBounds_toArray,List.set_cons_zero,List.set_cons_succ,i64_w,i32_w]
      rfl
     refine one_ (i := 9) (N := some 40) #[true,true,true,true,true,true,true,true,true,true,false,false] rfl rfl (one_of HT_.out (by kernel_rfl)) (by decide) (fun K hK=>?_)
     refine goes_ Tryz.func10 (by kernel_rfl) rfl #[.pointer (some ⟨g240,0,none⟩)] (by rfl) rfl rfl (by (try simp only [List.map_toArray,List.map_cons,List.map_nil]); first|done|rfl|(simp only [List.length_drop,List.length_take]; rfl)) ?_
     with_reducible refine (flagstonedraw_Codes_Any.calls g240 t238 t256 t257 t258 t259 t260 t263 w _ ?side1 ?side2 ?side3 A26.out).mono ?_
     (case side1=>repeat (first|(with_reducible first|exact HI240.out|apply IsS50.alloc|apply IsS50.drewN|apply IsS50.drew|apply IsS50.set_1|refine IsS50.far ?_ NB240_233.out _|refine IsS50.far ?_ NB240_234.out _)|exact HI240.out))
     (case side2=>repeat (first|(with_reducible first|exact HB.out|apply zE|apply zB|apply zC|refine zJ ?_ (IsS50.ge HI240.out)|refine zJ ?_ GE233.out|refine zJ ?_ GE234.out)|exact HB.out))
     (case side3=>exact HGL.out)
     rintro e w32 ⟨v261,rfl,ho0,hi,hb,hk⟩
     refine ⟨_,rfl,?_⟩
     have n0_ := Aside0.mk (Kd.V_mono (Kd.V_told (Kd.V_oldK (Kd.V_mono (ok := fun k_=>(((((((P0_3_ k_ ∨ P1_3_ k_) ∨ w.heap.size ≤ k_)) ∧ (k_ ≠ gb233 ∧ k_ ≠ gb234)) ∧ k_ ≠ g240) ∧ some k_ ≠ (v247 : Value).ownBlock) ∧ some k_ ≠ (v254 : Value).ownBlock)) (by (with_reducible repeat (first|apply Kd.V_alloc|apply Kd.V_drewN|apply Kd.V_drew)); exact HO_234003.out) (fun k_ hk_=>(⟨hk_,hk_.1.1.2⟩ : _ ∧ k_ ≠ g240))) hk) (Kd.R_base ho0)) (fun _ h_=>h_.1))
     have n1_ := Aside0.mk (Kd.V_mono (Kd.V_told (Kd.V_oldK (Kd.V_mono (ok := fun k_=>(((((((P0_3_ k_ ∨ P1_3_ k_) ∨ w.heap.size ≤ k_)) ∧ (k_ ≠ gb233 ∧ k_ ≠ gb234)) ∧ k_ ≠ g240) ∧ some k_ ≠ (v247 : Value).ownBlock) ∧ some k_ ≠ (v254 : Value).ownBlock)) (by (with_reducible repeat (first|apply Kd.V_alloc|apply Kd.V_drewN|apply Kd.V_drew)); exact HO_235003.out) (fun k_ hk_=>(⟨hk_,hk_.1.1.2⟩ : _ ∧ k_ ≠ g240))) hk) (Kd.R_base ho0)) (fun _ h_=>h_.1))
     have n2_ := Aside0.mk (KeepBut.blk hk (g' := gb233) (o := .cells #[.int .i64 a0_0,.int .i64 a0_1,.string a0_2,.slice A0_3 l0_3.length c0_3] 24 (0,0)) (by (with_reducible repeat (first|refine zN ?_ _|refine zD ?_|refine zA ?_ _)); exact BK233.out) NB233_240.out (by simp))
     have n3_ := Aside0.mk (KeepBut.blk hk (g' := gb234) (o := .cells #[.int .i64 a1_0,.int .i64 a1_1,.string a1_2,.slice A1_3 l1_3.length c1_3] 24 (0,0)) (by (with_reducible repeat (first|refine zN ?_ _|refine zD ?_|refine zA ?_ _)); exact BK234.out) NB234_240.out (by simp))
     have n4_ := Aside0.mk (Kd.R_mono (Kd.R_told (Kd.R_oldK (IsS50.apart (show IsS50 w _ g240 t238 t256 from by repeat (first|(with_reducible first|exact HI240.out|apply IsS50.alloc|apply IsS50.drewN|apply IsS50.drew|apply IsS50.set_1|refine IsS50.far ?_ NB240_233.out _|refine IsS50.far ?_ NB240_234.out _)|exact HI240.out)) (by (with_reducible repeat (first|apply Kd.R_alloc|apply Kd.R_drewN|apply Kd.R_drew)); exact HO248.out) (by decide)) hk) (Kd.R_base ho0)) (fun _ h_=>h_.1))
     have n5_ := Aside0.mk (Kd.R_mono (Kd.R_told (Kd.R_oldK (IsS50.apart (show IsS50 w _ g240 t238 t256 from by repeat (first|(with_reducible first|exact HI240.out|apply IsS50.alloc|apply IsS50.drewN|apply IsS50.drew|apply IsS50.set_1|refine IsS50.far ?_ NB240_233.out _|refine IsS50.far ?_ NB240_234.out _)|exact HI240.out)) (by (with_reducible repeat (first|apply Kd.R_alloc|apply Kd.R_drewN|apply Kd.R_drew)); exact HO255.out) (by decide)) hk) (Kd.R_base ho0)) (fun _ h_=>h_.1))
     have n6_ := Aside0.mk (Kd.R_lower (Kd.R_new' (Kd.R_new' (Kd.R_newM (M := fun k_=>(w.heap.size ≤ k_)) ho0 (below_size (by repeat (first|(with_reducible first|exact HB.out|apply zE|apply zB|apply zC|refine zJ ?_ (IsS50.ge HI240.out)|refine zJ ?_ GE233.out|refine zJ ?_ GE234.out)|exact HB.out))) (fun k_ h_=>h_)) (Kd.R_lt (by (with_reducible repeat (first|apply Kd.R_alloc|apply Kd.R_drewN|apply Kd.R_drew)); exact HO248.out))) (Kd.R_lt (by (with_reducible repeat (first|apply Kd.R_alloc|apply Kd.R_drewN|apply Kd.R_drew)); exact HO255.out))) (below_size (by repeat (first|(with_reducible first|exact HB.out|apply zE|apply zB|apply zC|refine zJ ?_ (IsS50.ge HI240.out)|refine zJ ?_ GE233.out|refine zJ ?_ GE234.out)|exact HB.out))))
     have n7_ := Aside0.mk (hb)
     have n8_ := Aside0.mk (hi)
     clear HO_234003 HO_235003 BK233 BK234 HO248 HO255 HB HI240; have HO_234003 := n0_; have HO_235003 := n1_; have BK233 := n2_; have BK234 := n3_; have HO248 := n4_; have HO255 := n5_; have HO262 := n6_; have HB := n7_; have HI240 := n8_; clear n0_ n1_ n2_ n3_ n4_ n5_ n6_ n7_ n8_
     (try clear hb)
     (try clear hb2)
     (try clear hk)
     (try clear hi)
     (try clear hge)
     (try clear ho0)
     obtain ⟨Ao33,co33,eo33⟩ := Kd.R_slice HO248.out
     (first|subst eo33|(injection eo33 with f1_ f2_ f3_; have f4_ := f1_.symm; have f5_ := f3_.symm; clear f1_ f2_ f3_; subst f4_; subst f5_))
     obtain ⟨Ao34,co34,eo34⟩ := Kd.R_slice HO255.out
     (first|subst eo34|(injection eo34 with f1_ f2_ f3_; have f4_ := f1_.symm; have f5_ := f3_.symm; clear f1_ f2_ f3_; subst f4_; subst f5_))
     obtain ⟨Ao35,co35,eo35⟩ := Kd.R_slice HO262.out
     (first|subst eo35|(injection eo35 with f1_ f2_ f3_; have f4_ := f1_.symm; have f5_ := f3_.symm; clear f1_ f2_ f3_; subst f4_; subst f5_))
     refine hK.out _ _ ⟨(blk_cell BK233.out 0).trans rfl,(blk_cell BK233.out 1).trans rfl,(blk_cell BK233.out 2).trans rfl,(blk_cell BK233.out 3).trans rfl,(blk_cell BK234.out 0).trans rfl,(blk_cell BK234.out 1).trans rfl,(blk_cell BK234.out 2).trans rfl,(blk_cell BK234.out 3).trans rfl⟩ (fun hHeld=>?_)
     clear hK K
     refine norm_ (a' := ?_) ?_ ?_
     rotate_left
     ·show Act.put _ (some 40) _ = _
      simp only [Act.put,List.setIfInBounds_toArray,List.set_cons_zero,List.set_cons_succ,i64_w,i32_w]
      rfl
     refine one_ (i := 10) (N := some 41) #[true,true,true,true,true,true,true,true,true,true,true,false] rfl rfl (one_of HT_.out (by kernel_rfl)) (by decide) (fun K hK=>?_)
     refine Kd.N_lit_step k24 _ 24 ?hg (N' := 41) ?hd (xs:=([(⟨a0_0,a0_1,a0_2,l0_3⟩ : S24),(⟨a1_0,a1_1,a1_2,l1_3⟩ : S24),(⟨t243,t244,t245,t246⟩ : S24),(⟨t250,t251,t252,t253⟩ : S24),(⟨t257,t258,t259,t260⟩ : S24)] : List (S24))) (inner := [.int .i64 a0_0,.int .i64 a0_1,.string a0_2,.slice A0_3 l0_3.length c0_3,.int .i64 a1_0,.int .i64 a1_1,.string a1_2,.slice A1_3 l1_3.length c1_3,.int .i64 t243,.int .i64 t244,.string t245,.slice Ao33 t246.length co33,.int .i64 t250,.int .i64 t251,.string t252,.slice Ao34 t253.length co34,.int .i64 t257,.int .i64 t258,.string t259,.slice Ao35 t260.length co35]) (ok:=(fun k_=>((P0_3_ k_ ∨ P1_3_ k_) ∨ w.heap.size ≤ k_) ∧ k_ ≠ gb233 ∧ k_ ≠ gb234 ∧ k_ ≠ g240)) (okp:=(fun k_=>((P0_3_ k_ ∨ P1_3_ k_) ∨ w.heap.size ≤ k_) ∧ k_ ≠ gb233 ∧ k_ ≠ gb234 ∧ k_ ≠ g240)) ?hr ?hp (fun _ hk=>hk) ((show ∀ k_,w32.heap.size ≤ k_ → (fun k_=>((P0_3_ k_ ∨ P1_3_ k_) ∨ w.heap.size ≤ k_) ∧ k_ ≠ gb233 ∧ k_ ≠ gb234 ∧ k_ ≠ g240) k_ from fun k_ hk=>⟨(.inr (Nat.le_trans (below_size (by repeat (first|(with_reducible first|exact HB.out|apply zE|apply zB|apply zC|refine zJ ?_ (IsS50.ge HI240.out)|refine zJ ?_ GE233.out|refine zJ ?_ GE234.out)|exact HB.out))) hk)),Kd.freshB (g := gb233) (o := .cells #[.int .i64 a0_0,.int .i64 a0_1,.string a0_2,.slice A0_3 l0_3.length c0_3] 24 (0,0)) (by (with_reducible repeat (first|refine zN ?_ _|refine zD ?_|refine zA ?_ _)); exact BK233.out) k_ hk,Kd.freshB (g := gb234) (o := .cells #[.int .i64 a1_0,.int .i64 a1_1,.string a1_2,.slice A1_3 l1_3.length c1_3] 24 (0,0)) (by (with_reducible repeat (first|refine zN ?_ _|refine zD ?_|refine zA ?_ _)); exact BK234.out) k_ hk,IsS50.fresh (by repeat (first|(with_reducible first|exact HI240.out|apply IsS50.alloc|apply IsS50.drewN|apply IsS50.drew|apply IsS50.set_1|refine IsS50.far ?_ NB240_233.out _|refine IsS50.far ?_ NB240_234.out _)|exact HI240.out)) k_ hk⟩) _ (Nat.le_refl _)) (Below.refl _ _) (Nat.le_refl _) (by simp) ?_;(case hd=>rfl);(case hg=>rfl);(case hr=>first|(go_simp; done)|(go_simp; rfl));(case hp=>exact (Reps.c4 (show Kd.FK k24 _ _ (⟨a0_0,a0_1,a0_2,l0_3⟩ : S24) [.int .i64 a0_0,.int .i64 a0_1,.string a0_2,.slice A0_3 l0_3.length c0_3] from (k24_mkF _ _ (⟨a0_0,a0_1,a0_2,l0_3⟩ : S24) (Kd.V_reads' (Kd.V_mono (ok':=(fun k_=>((P0_3_ k_ ∨ P1_3_ k_) ∨ w.heap.size ≤ k_) ∧ k_ ≠ gb233 ∧ k_ ≠ gb234 ∧ k_ ≠ g240)) (HO_234003.out) (fun k_ hk=>⟨hk.1.1.1.1.1,⟨hk.1.1.1.1.2.1,⟨hk.1.1.1.1.2.2,hk.1.1.1.2⟩⟩⟩))).2.1 (Kd.V_F (Kd.V_mono (ok':=(fun k_=>((P0_3_ k_ ∨ P1_3_ k_) ∨ w.heap.size ≤ k_) ∧ k_ ≠ gb233 ∧ k_ ≠ gb234 ∧ k_ ≠ g240)) (HO_234003.out) (fun k_ hk=>⟨hk.1.1.1.1.1,⟨hk.1.1.1.1.2.1,⟨hk.1.1.1.1.2.2,hk.1.1.1.2⟩⟩⟩))))) (Reps.c4 (show Kd.FK k24 _ _ (⟨a1_0,a1_1,a1_2,l1_3⟩ : S24) [.int .i64 a1_0,.int .i64 a1_1,.string a1_2,.slice A1_3 l1_3.length c1_3] from (k24_mkF _ _ (⟨a1_0,a1_1,a1_2,l1_3⟩ : S24) (Kd.V_reads' (Kd.V_mono (ok':=(fun k_=>((P0_3_ k_ ∨ P1_3_ k_) ∨ w.heap.size ≤ k_) ∧ k_ ≠ gb233 ∧ k_ ≠ gb234 ∧ k_ ≠ g240)) (HO_235003.out) (fun k_ hk=>⟨hk.1.1.1.1.1,⟨hk.1.1.1.1.2.1,⟨hk.1.1.1.1.2.2,hk.1.1.1.2⟩⟩⟩))).2.1 (Kd.V_F (Kd.V_mono (ok':=(fun k_=>((P0_3_ k_ ∨ P1_3_ k_) ∨ w.heap.size ≤ k_) ∧ k_ ≠ gb233 ∧ k_ ≠ gb234 ∧ k_ ≠ g240)) (HO_235003.out) (fun k_ hk=>⟨hk.1.1.1.1.1,⟨hk.1.1.1.1.2.1,⟨hk.1.1.1.1.2.2,hk.1.1.1.2⟩⟩⟩))))) (Reps.c4 (show Kd.FK k24 _ _ (⟨t243,t244,t245,t246⟩ : S24) [.int .i64 t243,.int .i64 t244,.string t245,.slice Ao33 t246.length co33] from (k24_mkF _ _ (⟨t243,t244,t245,t246⟩ : S24) (Kd.R_reads' (Kd.R_mono (ok':=(fun k_=>((P0_3_ k_ ∨ P1_3_ k_) ∨ w.heap.size ≤ k_) ∧ k_ ≠ gb233 ∧ k_ ≠ gb234 ∧ k_ ≠ g240)) (IsS50.apart HI240.out (Kd.R_types (Kd.R_types (HO248.out) BK233.out (by decide)) BK234.out (by decide)) (by decide)) (fun k_ hk=>⟨(.inr (hk.1.1.1.1.1.1)),⟨hk.1.1.2,⟨hk.1.2,hk.2⟩⟩⟩))).2.1 (Kd.R_F (Kd.R_mono (ok':=(fun k_=>((P0_3_ k_ ∨ P1_3_ k_) ∨ w.heap.size ≤ k_) ∧ k_ ≠ gb233 ∧ k_ ≠ gb234 ∧ k_ ≠ g240)) (IsS50.apart HI240.out (Kd.R_types (Kd.R_types (HO248.out) BK233.out (by decide)) BK234.out (by decide)) (by decide)) (fun k_ hk=>⟨(.inr (hk.1.1.1.1.1.1)),⟨hk.1.1.2,⟨hk.1.2,hk.2⟩⟩⟩))))) (Reps.c4 (show Kd.FK k24 _ _ (⟨t250,t251,t252,t253⟩ : S24) [.int .i64 t250,.int .i64 t251,.string t252,.slice Ao34 t253.length co34] from (k24_mkF _ _ (⟨t250,t251,t252,t253⟩ : S24) (Kd.R_reads' (Kd.R_mono (ok':=(fun k_=>((P0_3_ k_ ∨ P1_3_ k_) ∨ w.heap.size ≤ k_) ∧ k_ ≠ gb233 ∧ k_ ≠ gb234 ∧ k_ ≠ g240)) (IsS50.apart HI240.out (Kd.R_types (Kd.R_types (HO255.out) BK233.out (by decide)) BK234.out (by decide)) (by decide)) (fun k_ hk=>⟨(.inr (hk.1.1.1.1.1.1)),⟨hk.1.1.2,⟨hk.1.2,hk.2⟩⟩⟩))).2.1 (Kd.R_F (Kd.R_mono (ok':=(fun k_=>((P0_3_ k_ ∨ P1_3_ k_) ∨ w.heap.size ≤ k_) ∧ k_ ≠ gb233 ∧ k_ ≠ gb234 ∧ k_ ≠ g240)) (IsS50.apart HI240.out (Kd.R_types (Kd.R_types (HO255.out) BK233.out (by decide)) BK234.out (by decide)) (by decide)) (fun k_ hk=>⟨(.inr (hk.1.1.1.1.1.1)),⟨hk.1.1.2,⟨hk.1.2,hk.2⟩⟩⟩))))) (Reps.c4 (show Kd.FK k24 _ _ (⟨t257,t258,t259,t260⟩ : S24) [.int .i64 t257,.int .i64 t258,.string t259,.slice Ao35 t260.length co35] from (k24_mkF _ _ (⟨t257,t258,t259,t260⟩ : S24) (Kd.R_reads' (Kd.R_mono (ok':=(fun k_=>((P0_3_ k_ ∨ P1_3_ k_) ∨ w.heap.size ≤ k_) ∧ k_ ≠ gb233 ∧ k_ ≠ gb234 ∧ k_ ≠ g240)) (IsS50.apart HI240.out (Kd.R_types (Kd.R_types (HO262.out) BK233.out (by decide)) BK234.out (by decide)) (by decide)) (fun k_ hk=>⟨(.inr (hk.1.1.1.1.1.1)),⟨hk.1.1.2,⟨hk.1.2,hk.2⟩⟩⟩))).2.1 (Kd.R_F (Kd.R_mono (ok':=(fun k_=>((P0_3_ k_ ∨ P1_3_ k_) ∨ w.heap.size ≤ k_) ∧ k_ ≠ gb233 ∧ k_ ≠ gb234 ∧ k_ ≠ g240)) (IsS50.apart HI240.out (Kd.R_types (Kd.R_types (HO262.out) BK233.out (by decide)) BK234.out (by decide)) (by decide)) (fun k_ hk=>⟨(.inr (hk.1.1.1.1.1.1)),⟨hk.1.1.2,⟨hk.1.2,hk.2⟩⟩⟩))))) (Reps.none _ _)))))))
     intro v265 w36 ho37 hb hg_ hnew_
     clear hg_ hnew_
     (first|rw [← Ny264.out] at ho37|(simp only [Int.reduceToNat] at ho37; rw [← Ny264.out] at ho37))
     have n0_ := Aside0.mk (Kd.V_elder' (by (with_reducible repeat (first|apply Kd.V_alloc|apply Kd.V_drewN|apply Kd.V_drew)); exact HO_234003.out) (Kd.N_base ho37) hb)
     have n1_ := Aside0.mk (Kd.V_elder' (by (with_reducible repeat (first|apply Kd.V_alloc|apply Kd.V_drewN|apply Kd.V_drew)); exact HO_235003.out) (Kd.N_base ho37) hb)
     have n2_ := Aside0.mk (Kd.N_lower ho37 (below_size (by repeat (first|(with_reducible first|exact HB.out|apply zE|apply zB|apply zC|refine zJ ?_ (IsS50.ge HI240.out)|refine zJ ?_ GE233.out|refine zJ ?_ GE234.out)|exact HB.out))))
     have n3_ := Aside0.mk (blk_below (g := gb233) (o := .cells #[.int .i64 a0_0,.int .i64 a0_1,.string a0_2,.slice A0_3 l0_3.length c0_3] 24 (0,0)) (by (with_reducible repeat (first|refine zN ?_ _|refine zD ?_|refine zA ?_ _)); exact BK233.out) hb)
     have n4_ := Aside0.mk (blk_below (g := gb234) (o := .cells #[.int .i64 a1_0,.int .i64 a1_1,.string a1_2,.slice A1_3 l1_3.length c1_3] 24 (0,0)) (by (with_reducible repeat (first|refine zN ?_ _|refine zD ?_|refine zA ?_ _)); exact BK234.out) hb)
     have n5_ := Aside0.mk (IsS50.below (by repeat (first|(with_reducible first|exact HI240.out|apply IsS50.alloc|apply IsS50.drewN|apply IsS50.drew|apply IsS50.set_1|refine IsS50.far ?_ NB240_233.out _|refine IsS50.far ?_ NB240_234.out _)|exact HI240.out)) hb)
     have n6_ := Aside0.mk (below_step (by repeat (first|(with_reducible first|exact HB.out|apply zE|apply zB|apply zC|refine zJ ?_ (IsS50.ge HI240.out)|refine zJ ?_ GE233.out|refine zJ ?_ GE234.out)|exact HB.out)) hb)
     clear HO_234003 HO_235003 BK233 BK234 HI240 HB HO248 HO255 HO262; have HO_234003 := n0_; have HO_235003 := n1_; have HO266 := n2_; have BK233 := n3_; have BK234 := n4_; have HI240 := n5_; have HB := n6_; clear n0_ n1_ n2_ n3_ n4_ n5_ n6_ hb ho37
     refine hK.out _ _ ⟨(blk_cell BK233.out 0).trans rfl,(blk_cell BK233.out 1).trans rfl,(blk_cell BK233.out 2).trans rfl,(blk_cell BK233.out 3).trans rfl,(blk_cell BK234.out 0).trans rfl,(blk_cell BK234.out 1).trans rfl,(blk_cell BK234.out 2).trans rfl,(blk_cell BK234.out 3).trans rfl⟩ (fun hHeld=>?_)
     clear hK K
     refine norm_ (a' := ?_) ?_ ?_
     rotate_left
     ·show Act.put _ (some 41) _ = _
      simp only [Act.put,List.setIfInBounds_toArray,List.set_cons_zero,List.set_cons_succ,i64_w,i32_w]
      rfl
     refine pure_ (i := 11) (N := some 9) (v := ?_) (a' := ?_) #[true,true,true,true,true,true,true,true,true,true,true,true] rfl rfl (any_of HT_.out (by kernel_rfl)) (fun _ _ _ h=>h) (Or.inl ⟨by rfl,?_⟩) ?_ ?_
     rotate_left
     ·intro w'
      go_simp
      with_reducible rfl
     rotate_left
     ·simp only [Act.put,List.setIfInBounds_toArray,List.set_cons_zero,List.set_cons_succ,i64_w,i32_w]
      rfl
     refine done_ (done_of HT_.out (by kernel_rfl)) ?_
     try go_wp2
     go_loopg [10] kj5 (fun kq v10 w'=>∃ (x10_2 : Int),v10 = .int .i64 x10_2 ∧ Aside0 (flagstonelaw3_ValueCompares.l0 kq y264 x10_2 = some r) ∧ Aside0 (kq ≤ kj5) ∧ Aside0 (Kd.N k24 24 w' w.heap.size (fun k_=>((P0_3_ k_ ∨ P1_3_ k_) ∨ w.heap.size ≤ k_) ∧ k_ ≠ gb233 ∧ k_ ≠ gb234) v265 y264) ∧ Aside0 (Kd.V Kd.string 9 w' w.heap.size (fun k_=>((P0_3_ k_ ∨ P1_3_ k_) ∨ w.heap.size ≤ k_) ∧ some k_ ≠ (v265 : Value).ownBlock ∧ k_ ≠ gb233 ∧ k_ ≠ gb234) (.slice A0_3 l0_3.length c0_3) l0_3) ∧ Aside0 (Kd.V Kd.string 9 w' w.heap.size (fun k_=>((P0_3_ k_ ∨ P1_3_ k_) ∨ w.heap.size ≤ k_) ∧ some k_ ≠ (v265 : Value).ownBlock ∧ k_ ≠ gb233 ∧ k_ ≠ gb234) (.slice A1_3 l1_3.length c1_3) l1_3) ∧ Aside0 (w'.heap[gb233]? = some (.cells #[.int .i64 a0_0,.int .i64 a0_1,.string a0_2,(.slice A0_3 l0_3.length c0_3)] 24 (0,0))) ∧ Aside0 (w'.heap[gb234]? = some (.cells #[.int .i64 a1_0,.int .i64 a1_1,.string a1_2,(.slice A1_3 l1_3.length c1_3)] 24 (0,0))) ∧ Aside0 (Below w.heap.size w w'))
     case atStart=>exact ⟨(0),(by first|rfl|(simp; done)|(simp [*]; done)),H',⟨Nat.le_refl _⟩,⟨by (with_reducible repeat (first|apply Kd.N_alloc|apply Kd.N_drewN|apply Kd.N_drew)); exact Kd.N_mono HO266.out (fun _ hk=>⟨hk.1,⟨hk.2.1,hk.2.2.1⟩⟩)⟩,⟨by (with_reducible repeat (first|apply Kd.V_alloc|apply Kd.V_drewN|apply Kd.V_drew)); exact Kd.V_mono HO_234003.out (fun _ hk=>⟨hk.1.1.1.1.1.1,⟨hk.2,⟨hk.1.1.1.1.1.2.1,hk.1.1.1.1.1.2.2⟩⟩⟩)⟩,⟨by (with_reducible repeat (first|apply Kd.V_alloc|apply Kd.V_drewN|apply Kd.V_drew)); exact Kd.V_mono HO_235003.out (fun _ hk=>⟨hk.1.1.1.1.1.1,⟨hk.2,⟨hk.1.1.1.1.1.2.1,hk.1.1.1.1.1.2.2⟩⟩⟩)⟩,⟨by (with_reducible repeat (first|refine zN ?_ _|refine zD ?_|refine zA ?_ _)); exact BK233.out⟩,⟨by (with_reducible repeat (first|refine zN ?_ _|refine zD ?_|refine zA ?_ _)); exact BK234.out⟩,⟨by repeat (first|(with_reducible first|exact HB.out|apply zE|apply zB|apply zC|refine zJ ?_ (IsS50.ge HI240.out)|refine zJ ?_ GE233.out|refine zJ ?_ GE234.out)|exact HB.out)⟩⟩
     case round =>
      clear H';(try clear c1);(try clear c2);(try clear p2);(try clear c4);(try clear c5);(try clear c6);(try clear p6);(try clear c7);(try clear c8);(try clear c9);(try clear c10);(try clear c11);(try clear c13);(try clear c18);(try clear c21);(try clear c22);(try clear hcz14_0);(try clear hcz14_1);(try clear hcz14_2);(try clear hcz14_3);(try clear hcz16_0);(try clear hcz16_1);(try clear hcz16_2);(try clear hcz16_3);(try clear hcz19_0);(try clear hcz19_1);(try clear hcz19_2);(try clear hcz19_3);(try clear hfz14_0);(try clear hfz14_1);(try clear hfz14_2);(try clear hfz14_3);(try clear hfz16_0);(try clear hfz16_1);(try clear hfz16_2);(try clear hfz16_3);(try clear hfz19_0);(try clear hfz19_1);(try clear hfz19_2);(try clear hfz19_3);(try clear p2)
      obtain ⟨x10_2,rfl,HA,HK2,HO_9,HO_234003,HO_235003,BK233,BK234,HB⟩ := hrel
      cases gk with
      | zero=>exact absurd HA.out (by simp [flagstonelaw3_ValueCompares.l0])
      | succ k2 =>
       have H := HA.out; clear HA
       simp only [flagstonelaw3_ValueCompares.l0] at H
       by_cases c38 : x10_2 < (y264.length : Int)
       ·rw [if_pos c38] at H
        have c38b0 : decide (x10_2 < (y264.length : Int)) = true := decide_eq_true c38
        clear c38; have H' := Aside0.mk H; clear H
        obtain ⟨Ao39,co39,eo39⟩ := Kd.N_slice HO_9.out
        subst eo39
        go_wp2
        go_loopg [11] k2 (fun kq v11 w'=>∃ (x11_3 : Int),v11 = .int .i64 x11_3 ∧ Aside0 (flagstonelaw3_ValueCompares.l1 kq y264 x10_2 x11_3 = some r) ∧ Aside0 (kq ≤ k2) ∧ Aside0 (Kd.N k24 24 w' w.heap.size (fun k_=>((P0_3_ k_ ∨ P1_3_ k_) ∨ w.heap.size ≤ k_) ∧ k_ ≠ gb233 ∧ k_ ≠ gb234) (.slice Ao39 y264.length co39) y264) ∧ Aside0 (Kd.V Kd.string 9 w' w.heap.size (fun k_=>((P0_3_ k_ ∨ P1_3_ k_) ∨ w.heap.size ≤ k_) ∧ some k_ ≠ ((.slice Ao39 y264.length co39) : Value).ownBlock ∧ k_ ≠ gb233 ∧ k_ ≠ gb234) (.slice A0_3 l0_3.length c0_3) l0_3) ∧ Aside0 (Kd.V Kd.string 9 w' w.heap.size (fun k_=>((P0_3_ k_ ∨ P1_3_ k_) ∨ w.heap.size ≤ k_) ∧ some k_ ≠ ((.slice Ao39 y264.length co39) : Value).ownBlock ∧ k_ ≠ gb233 ∧ k_ ≠ gb234) (.slice A1_3 l1_3.length c1_3) l1_3) ∧ Aside0 (w'.heap[gb233]? = some (.cells #[.int .i64 a0_0,.int .i64 a0_1,.string a0_2,(.slice A0_3 l0_3.length c0_3)] 24 (0,0))) ∧ Aside0 (w'.heap[gb234]? = some (.cells #[.int .i64 a1_0,.int .i64 a1_1,.string a1_2,(.slice A1_3 l1_3.length c1_3)] 24 (0,0))) ∧ Aside0 (Below w.heap.size w w'))
        case atStart=>exact ⟨(0),(by first|rfl|(simp; done)|(simp [*]; done)),H',⟨Nat.le_refl _⟩,⟨by (with_reducible repeat (first|apply Kd.N_alloc|apply Kd.N_drewN|apply Kd.N_drew)); exact HO_9.out⟩,⟨by (with_reducible repeat (first|apply Kd.V_alloc|apply Kd.V_drewN|apply Kd.V_drew)); exact HO_234003.out⟩,⟨by (with_reducible repeat (first|apply Kd.V_alloc|apply Kd.V_drewN|apply Kd.V_drew)); exact HO_235003.out⟩,⟨by (with_reducible repeat (first|refine zN ?_ _|refine zD ?_|refine zA ?_ _)); exact BK233.out⟩,⟨by (with_reducible repeat (first|refine zN ?_ _|refine zD ?_|refine zA ?_ _)); exact BK234.out⟩,⟨by repeat (first|(with_reducible first|exact HB.out|apply zE|apply zB|apply zC|refine zJ ?_ GE233.out|refine zJ ?_ GE234.out)|exact HB.out)⟩⟩
        case round =>
         clear H';(try clear c1);(try clear c2);(try clear p2);(try clear c3);(try clear c4);(try clear c5);(try clear c6);(try clear p6);(try clear c7);(try clear c8);(try clear c9);(try clear c10);(try clear c11);(try clear c13);(try clear c18);(try clear c21);(try clear c22);(try clear c38);(try clear c38b0);(try clear hcz14_0);(try clear hcz14_1);(try clear hcz14_2);(try clear hcz14_3);(try clear hcz16_0);(try clear hcz16_1);(try clear hcz16_2);(try clear hcz16_3);(try clear hcz19_0);(try clear hcz19_1);(try clear hcz19_2);(try clear hcz19_3);(try clear hfz14_0);(try clear hfz14_1);(try clear hfz14_2);(try clear hfz14_3);(try clear hfz16_0);(try clear hfz16_1);(try clear hfz16_2);(try clear hfz16_3);(try clear hfz19_0);(try clear hfz19_1);(try clear hfz19_2);(try clear hfz19_3);(try clear p2);(try clear p6)
         obtain ⟨x11_3,rfl,HA,HK3,HO_9,HO_234003,HO_235003,BK233,BK234,HB⟩ := hrel
         cases gk with
         | zero=>exact absurd HA.out (by simp [flagstonelaw3_ValueCompares.l1])
         | succ k3 =>
          have H := HA.out; clear HA
          simp only [flagstonelaw3_ValueCompares.l1] at H
          by_cases c40 : x11_3 < (y264.length : Int)
          ·rw [if_pos c40] at H
           have c40b0 : decide (x11_3 < (y264.length : Int)) = true := decide_eq_true c40
           clear c40
           by_cases c41 : 0 ≤ x10_2
           ·rw [if_pos c41] at H
            have c41b0 : decide (0 ≤ x10_2) = true := decide_eq_true c41
            clear c41
            by_cases c42 : x10_2 < (y264.length : Int)
            ·rw [if_pos c42] at H
             have c42b0 : decide (x10_2 < (y264.length : Int)) = true := decide_eq_true c42
             clear c42
             by_cases c43 : 0 ≤ x11_3
             ·rw [if_pos c43] at H
              have c43b0 : decide (0 ≤ x11_3) = true := decide_eq_true c43
              clear c43; replace H := Option.bind_eq_some_iff.mp H
              obtain ⟨⟨t269,t270⟩,A440,H⟩ := H
              replace H : ((flagstoneref3_Compare.f k3 ((rd_T24 y264 x10_2).f0) ((rd_T24 y264 x10_2).f1) ((rd_T24 y264 x10_2).f2) ((rd_T24 y264 x10_2).f3) ((rd_T24 y264 x11_3).f0) ((rd_T24 y264 x11_3).f1) ((rd_T24 y264 x11_3).f2) ((rd_T24 y264 x11_3).f3)).bind fun bt273=>(if t269 = bt273.1 then (if t270 = bt273.2 then ((value_Equal.f k3 ((rd_T24 y264 x10_2).f0) ((rd_T24 y264 x10_2).f1) ((rd_T24 y264 x10_2).f2) ((rd_T24 y264 x10_2).f3) ((rd_T24 y264 x11_3).f0) ((rd_T24 y264 x11_3).f1) ((rd_T24 y264 x11_3).f2) ((rd_T24 y264 x11_3).f3)).bind fun t277=>((flagstoneref3_Equal.f k3 ((rd_T24 y264 x10_2).f0) ((rd_T24 y264 x10_2).f1) ((rd_T24 y264 x10_2).f2) ((rd_T24 y264 x10_2).f3) ((rd_T24 y264 x11_3).f0) ((rd_T24 y264 x11_3).f1) ((rd_T24 y264 x11_3).f2) ((rd_T24 y264 x11_3).f3)).bind fun t280=>(if (t277 != t280) = true then (some false) else (flagstonelaw3_ValueCompares.l1 k3 y264 x10_2 (wrap64 (x11_3 + 1)))))) else (some false)) else (some false))) = some r := H
              have A44 := Aside0.mk A440; clear A440; replace H := Option.bind_eq_some_iff.mp H
              obtain ⟨⟨t273,t274⟩,A450,H⟩ := H
              replace H : (if t269 = t273 then (if t270 = t274 then ((value_Equal.f k3 ((rd_T24 y264 x10_2).f0) ((rd_T24 y264 x10_2).f1) ((rd_T24 y264 x10_2).f2) ((rd_T24 y264 x10_2).f3) ((rd_T24 y264 x11_3).f0) ((rd_T24 y264 x11_3).f1) ((rd_T24 y264 x11_3).f2) ((rd_T24 y264 x11_3).f3)).bind fun t277=>((flagstoneref3_Equal.f k3 ((rd_T24 y264 x10_2).f0) ((rd_T24 y264 x10_2).f1) ((rd_T24 y264 x10_2).f2) ((rd_T24 y264 x10_2).f3) ((rd_T24 y264 x11_3).f0) ((rd_T24 y264 x11_3).f1) ((rd_T24 y264 x11_3).f2) ((rd_T24 y264 x11_3).f3)).bind fun t280=>(if (t277 != t280) = true then (some false) else (flagstonelaw3_ValueCompares.l1 k3 y264 x10_2 (wrap64 (x11_3 + 1)))))) else (some false)) else (some false)) = some r := H
              have A45 := Aside0.mk A450; clear A450
              by_cases c46 : t269 = t273
              ·rw [if_pos c46] at H
               have c46b0 : (t269 == t273) = true := beq_iff_eq.mpr c46
               have c46b1 : (t269 != t273) = false := bne_eq_false_iff_eq.mpr c46
               clear c46
               by_cases c47 : t270 = t274
               ·rw [if_pos c47] at H
                have c47b0 : (t270 == t274) = true := beq_iff_eq.mpr c47
                have c47b1 : (t270 != t274) = false := bne_eq_false_iff_eq.mpr c47
                clear c47; replace H := Option.bind_eq_some_iff.mp H; obtain ⟨t277,A480,H⟩ := H
                replace H : ((flagstoneref3_Equal.f k3 ((rd_T24 y264 x10_2).f0) ((rd_T24 y264 x10_2).f1) ((rd_T24 y264 x10_2).f2) ((rd_T24 y264 x10_2).f3) ((rd_T24 y264 x11_3).f0) ((rd_T24 y264 x11_3).f1) ((rd_T24 y264 x11_3).f2) ((rd_T24 y264 x11_3).f3)).bind fun t280=>(if (t277 != t280) = true then (some false) else (flagstonelaw3_ValueCompares.l1 k3 y264 x10_2 (wrap64 (x11_3 + 1))))) = some r := H
                have A48 := Aside0.mk A480; clear A480; replace H := Option.bind_eq_some_iff.mp H; obtain ⟨t280,A490,H⟩ := H
                replace H : (if (t277 != t280) = true then (some false) else (flagstonelaw3_ValueCompares.l1 k3 y264 x10_2 (wrap64 (x11_3 + 1)))) = some r := H
                have A49 := Aside0.mk A490; clear A490
                by_cases c50 : (t277 != t280) = true
                ·rw [if_pos c50] at H
                 exact absurd (Option.some.inj H) (by rw [hrt]; decide)
                ·rw [if_neg c50] at H
                 have c50b0 : (t277 != t280) = false := by simpa using c50
                 (try (have c50b1 : decide (t277 = t280) = true := by simpa using c50))
                 (try (have c50b2 : (t277 == t280) = true := by simpa using c50))
                 clear c50; have H' := Aside0.mk H; clear H
                 try go_wp2
                 have n0_ := Aside0.mk (Kd.N_drew HO_9.out)
                 have n1_ := Aside0.mk (Kd.V_drew HO_234003.out)
                 have n2_ := Aside0.mk (Kd.V_drew HO_235003.out)
                 have n3_ := Aside0.mk (zD BK233.out)
                 have n4_ := Aside0.mk (zD BK234.out)
                 have n5_ := Aside0.mk (zC HB.out)
                 clear HO_9 HO_234003 HO_235003 BK233 BK234 HB; have HO_9 := n0_; have HO_234003 := n1_; have HO_235003 := n2_; have BK233 := n3_; have BK234 := n4_; have HB := n5_; clear n0_ n1_ n2_ n3_ n4_ n5_
                 have p267 : 0 ≤ (x10_2 : Int) := of_decide_eq_true (by first|(with_reducible assumption)|assumption)
                 have q267 : x10_2 < (y264.length : Int) := of_decide_eq_true (by first|(with_reducible assumption)|assumption)
                 obtain ⟨ad267,A267_3,c267_3,e267,hx267_0,hx267_1,hx267_2,hx267_3,hl267_3,hi267_3⟩ := at_T24 (Kd.N_reads' HO_9.out).2.2 x10_2 p267 q267
                 cases e267
                 obtain ⟨ce267,hce267,hMe267,hcc267⟩ := Kd.N_get HO_9.out z24 x10_2 p267 (by first|exact q267|exact of_decide_eq_true (by first|(with_reducible assumption)|assumption)|(have e_:=(Kd.N_reads' HO_9.out).1; omega))
                 obtain ⟨ua267_3,uc267_3,rfl,ul267_3,ge267_3⟩ := k24_openF hMe267
                 have hv267_3 := hcc267 3 _ rfl
                 rw [add_field _ _ 3 (by omega)] at hv267_3
                 replace hv267_3 := Option.some.inj (hv267_3.symm.trans hx267_3)
                 injection hv267_3 with hva_ hvn_ hvc_
                 rw [hva_] at ge267_3
                 rw [hvc_] at ul267_3
                 have HL267_3 := Aside0.mk (show Kd.V Kd.string 9 _ w.heap.size _ _ ((rd_T24 y264 x10_2).f3) from Kd.V_mk ul267_3 ge267_3)
                 clear hva_ hvn_ hvc_ ge267_3 ul267_3 hcc267 hce267; have HR267_3 := Aside0.mk hi267_3; have HC267_3 := Aside0.mk hl267_3; clear hi267_3 hl267_3
                 replace p267 := eq_true p267
                 replace q267 := eq_true q267
                 have p268 : 0 ≤ (x11_3 : Int) := of_decide_eq_true (by first|(with_reducible assumption)|assumption)
                 have q268 : x11_3 < (y264.length : Int) := of_decide_eq_true (by first|(with_reducible assumption)|assumption)
                 obtain ⟨ad268,A268_3,c268_3,e268,hx268_0,hx268_1,hx268_2,hx268_3,hl268_3,hi268_3⟩ := at_T24 (Kd.N_reads' HO_9.out).2.2 x11_3 p268 q268
                 obtain rfl : ad267 = ad268:=(by injection e268)
                 obtain ⟨ce268,hce268,hMe268,hcc268⟩ := Kd.N_get HO_9.out z24 x11_3 p268 (by first|exact q268|exact of_decide_eq_true (by first|(with_reducible assumption)|assumption)|(have e_:=(Kd.N_reads' HO_9.out).1; omega))
                 obtain ⟨ua268_3,uc268_3,rfl,ul268_3,ge268_3⟩ := k24_openF hMe268
                 have hv268_3 := hcc268 3 _ rfl
                 rw [add_field _ _ 3 (by omega)] at hv268_3
                 replace hv268_3 := Option.some.inj (hv268_3.symm.trans hx268_3)
                 injection hv268_3 with hva_ hvn_ hvc_
                 rw [hva_] at ge268_3
                 rw [hvc_] at ul268_3
                 have HL268_3 := Aside0.mk (show Kd.V Kd.string 9 _ w.heap.size _ _ ((rd_T24 y264 x11_3).f3) from Kd.V_mk ul268_3 ge268_3)
                 clear hva_ hvn_ hvc_ ge268_3 ul268_3 hcc268 hce268; have HR268_3 := Aside0.mk hi268_3; have HC268_3 := Aside0.mk hl268_3; clear hi268_3 hl268_3
                 replace p268 := eq_true p268
                 replace q268 := eq_true q268
                 refine start_ (n := 14) (S := fun w'=>w'.cell? (ad267.add ((x10_2).toNat * 4)) = some (.int .i64 ((rd_T24 y264 x10_2).f0)) ∧ w'.cell? ⟨(ad267.add ((x10_2).toNat * 4)).block,(ad267.add ((x10_2).toNat * 4)).off + 1,none⟩ = some (.int .i64 ((rd_T24 y264 x10_2).f1)) ∧ w'.cell? ⟨(ad267.add ((x10_2).toNat * 4)).block,(ad267.add ((x10_2).toNat * 4)).off + 2,none⟩ = some (.string ((rd_T24 y264 x10_2).f2)) ∧ w'.cell? ⟨(ad267.add ((x10_2).toNat * 4)).block,(ad267.add ((x10_2).toNat * 4)).off + 3,none⟩ = some (.slice A267_3 ((rd_T24 y264 x10_2).f3).length c267_3) ∧ w'.cell? (ad267.add ((x11_3).toNat * 4)) = some (.int .i64 ((rd_T24 y264 x11_3).f0)) ∧ w'.cell? ⟨(ad267.add ((x11_3).toNat * 4)).block,(ad267.add ((x11_3).toNat * 4)).off + 1,none⟩ = some (.int .i64 ((rd_T24 y264 x11_3).f1)) ∧ w'.cell? ⟨(ad267.add ((x11_3).toNat * 4)).block,(ad267.add ((x11_3).toNat * 4)).off + 2,none⟩ = some (.string ((rd_T24 y264 x11_3).f2)) ∧ w'.cell? ⟨(ad267.add ((x11_3).toNat * 4)).block,(ad267.add ((x11_3).toNat * 4)).off + 3,none⟩ = some (.slice A268_3 ((rd_T24 y264 x11_3).f3).length c268_3)) (ds := []) #[false,false,false,false,false,false,false,false,false,false,false,false,false,false] (by kernel_rfl) rfl rfl ⟨hx267_0,hx267_1,hx267_2,hx267_3,hx268_0,hx268_1,hx268_2,hx268_3⟩ (fun hHeld=>?_); refine with_tabW flagstonelaw3_ValueCompares.tab14 flagstonelaw3_ValueCompares.bits14 (fun HT_ HW_=>?_)
                 generalize wr.drew = w58 at HO_9 HO_234003 HO_235003 BK233 BK234 HB HL267_3 HL268_3 HR267_3 HR268_3 hx267_0 hx267_1 hx267_2 hx267_3 hx268_0 hx268_1 hx268_2 hx268_3 hHeld ⊢
                 refine pure_ (i := 0) (N := some 55) (v := ?_) (a' := ?_) #[true,false,false,false,false,false,false,false,false,false,false,false,false,false] rfl rfl (any_of HT_.out (by kernel_rfl)) (fun _ _ _ h=>h) (Or.inl ⟨by rfl,?_⟩) ?_ ?_
                 rotate_left
                 ·intro w'
                  go_simp
                  with_reducible rfl
                 rotate_left
                 ·simp only [Act.put,List.setIfInBounds_toArray,List.set_cons_zero,List.set_cons_succ,i64_w,i32_w]
                  rfl
                 refine pure_ (i := 1) (N := some 56) (v := ?_) (a' := ?_) #[true,true,false,false,false,false,false,false,false,false,false,false,false,false] rfl rfl (any_of HT_.out (by kernel_rfl)) (fun _ _ _ h=>h) (Or.inl ⟨by rfl,?_⟩) ?_ ?_
                 rotate_left
                 ·intro w'
                  go_simp
                  with_reducible rfl
                 rotate_left
                 ·simp only [Act.put,List.setIfInBounds_toArray,List.set_cons_zero,List.set_cons_succ,i64_w,i32_w]
                  rfl
                 refine pure_ (i := 2) (N := some 57) (v := ?_) (a' := ?_) #[true,true,true,false,false,false,false,false,false,false,false,false,false,false] rfl rfl (any_of HT_.out (by kernel_rfl)) (fun _ _ _ h=>h) (Or.inl ⟨by rfl,?_⟩) ?_ ?_
                 rotate_left
                 ·intro w'
                  go_simp
                  with_reducible rfl
                 rotate_left
                 ·simp only [Act.put,List.setIfInBounds_toArray,List.set_cons_zero,List.set_cons_succ,i64_w,i32_w]
                  rfl
                 refine pure_ (i := 4) (N := some 59) (v := ?_) (a' := ?_) #[true,true,true,false,true,false,false,false,false,false,false,false,false,false] rfl rfl (any_of HT_.out (by kernel_rfl)) (fun _ _ _ h=>h) (Or.inl ⟨by rfl,?_⟩) ?_ ?_
                 rotate_left
                 ·intro w'
                  go_simp
                  with_reducible rfl
                 rotate_left
                 ·simp only [Act.put,List.setIfInBounds_toArray,List.set_cons_zero,List.set_cons_succ,i64_w,i32_w]
                  rfl
                 refine pure_ (i := 5) (N := some 60) (v := ?_) (a' := ?_) #[true,true,true,false,true,true,false,false,false,false,false,false,false,false] rfl rfl (any_of HT_.out (by kernel_rfl)) (fun _ _ _ h=>h) (Or.inl ⟨by rfl,?_⟩) ?_ ?_
                 rotate_left
                 ·intro w'
                  go_simp
                  with_reducible rfl
                 rotate_left
                 ·simp only [Act.put,List.setIfInBounds_toArray,List.set_cons_zero,List.set_cons_succ,i64_w,i32_w]
                  rfl
                 refine pure_ (i := 6) (N := some 61) (v := ?_) (a' := ?_) #[true,true,true,false,true,true,true,false,false,false,false,false,false,false] rfl rfl (any_of HT_.out (by kernel_rfl)) (fun _ _ _ h=>h) (Or.inl ⟨by rfl,?_⟩) ?_ ?_
                 rotate_left
                 ·intro w'
                  go_simp
                  with_reducible rfl
                 rotate_left
                 ·simp only [Act.put,List.setIfInBounds_toArray,List.set_cons_zero,List.set_cons_succ,i64_w,i32_w]
                  rfl
                 refine take_ (i := 3) (N := some 58) (v := ?_) (a' := ?_) #[true,true,true,true,true,true,true,false,false,false,false,false,false,false] rfl rfl (take_ofW HT_.out HW_.out (by kernel_rfl)) (fun _ _ _ h=>h) (Or.inl ⟨by rfl,?_⟩) hHeld ?_ ?_
                 rotate_left
                 ·rintro w' ⟨s0,s1,s2,s3,s4,s5,s6,s7⟩
                  go_simp
                  with_reducible rfl
                 rotate_left
                 ·simp only [Act.put,List.setIfInBounds_toArray,List.set_cons_zero,List.set_cons_succ,i64_w,i32_w]
                  rfl
                 refine take_ (i := 7) (N := some 62) (v := ?_) (a' := ?_) #[true,true,true,true,true,true,true,true,false,false,false,false,false,false] rfl rfl (take_ofW HT_.out HW_.out (by kernel_rfl)) (fun _ _ _ h=>h) (Or.inl ⟨by rfl,?_⟩) hHeld ?_ ?_
                 rotate_left
                 ·rintro w' ⟨s0,s1,s2,s3,s4,s5,s6,s7⟩
                  go_simp
                  with_reducible rfl
                 rotate_left
                 ·simp only [Act.put,List.setIfInBounds_toArray,List.set_cons_zero,List.set_cons_succ,i64_w,i32_w]
                  rfl
                 refine one_ (i := 8) (N := some 63) #[true,true,true,true,true,true,true,true,true,false,false,false,false,false] rfl rfl (one_of HT_.out (by kernel_rfl)) (by decide) (fun K hK=>?_)
                 refine goes_ Tryz.func23 (by kernel_rfl) rfl #[.agg #[.int .i64 ((rd_T24 y264 x10_2).f0),.int .i64 ((rd_T24 y264 x10_2).f1),.string ((rd_T24 y264 x10_2).f2),.slice A267_3 ((rd_T24 y264 x10_2).f3).length c267_3],.agg #[.int .i64 ((rd_T24 y264 x11_3).f0),.int .i64 ((rd_T24 y264 x11_3).f1),.string ((rd_T24 y264 x11_3).f2),.slice A268_3 ((rd_T24 y264 x11_3).f3).length c268_3]] (by rfl) rfl rfl (by (try simp only [List.map_toArray,List.map_cons,List.map_nil]); first|done|rfl|(simp only [List.length_drop,List.length_take]; rfl)) ?_
                 with_reducible refine (value_Compare.calls k3 ((rd_T24 y264 x10_2).f0) ((rd_T24 y264 x10_2).f1) ((rd_T24 y264 x10_2).f2) _ _ ((rd_T24 y264 x10_2).f3) ((rd_T24 y264 x11_3).f0) ((rd_T24 y264 x11_3).f1) ((rd_T24 y264 x11_3).f2) _ _ ((rd_T24 y264 x11_3).f3) t269 t270 _ ?side1 ?side2 ?side3 ?side4 ?side5 A44.out).mono ?_
                 (case side1=>repeat (first|exact (by repeat (first|(with_reducible exact HR267_3.out)|(with_reducible refine Kd.C_alloc ?_ _)|(with_reducible refine Kd.C_drewN ?_ _)|(with_reducible refine Kd.C_drew ?_)|exact HR267_3.out))|(with_reducible refine Kd.C_alloc ?_ _)|(with_reducible refine Kd.C_drewN ?_ _)|(with_reducible refine Kd.C_drew ?_)))
                 (case side2=>exact HC267_3.out)
                 (case side3=>repeat (first|exact (by repeat (first|(with_reducible exact HR268_3.out)|(with_reducible refine Kd.C_alloc ?_ _)|(with_reducible refine Kd.C_drewN ?_ _)|(with_reducible refine Kd.C_drew ?_)|exact HR268_3.out))|(with_reducible refine Kd.C_alloc ?_ _)|(with_reducible refine Kd.C_drewN ?_ _)|(with_reducible refine Kd.C_drew ?_)))
                 (case side4=>exact HC268_3.out)
                 (case side5=>exact GL.below HGL.out (by repeat (first|(with_reducible first|exact HB.out|apply zE|apply zB|apply zC|refine zJ ?_ GE233.out|refine zJ ?_ GE234.out)|exact HB.out)))
                 rintro e w59 ⟨rfl,hb⟩
                 have HS0_:=(hb.cell (World.block_lt_of_cell? _ _ (hHeld.1))).trans (hHeld.1)
                 have HS1_:=(hb.cell (World.block_lt_of_cell? _ _ (hHeld.2.1))).trans (hHeld.2.1)
                 have HS2_:=(hb.cell (World.block_lt_of_cell? _ _ (hHeld.2.2.1))).trans (hHeld.2.2.1)
                 have HS3_:=(hb.cell (World.block_lt_of_cell? _ _ (hHeld.2.2.2.1))).trans (hHeld.2.2.2.1)
                 have HS4_:=(hb.cell (World.block_lt_of_cell? _ _ (hHeld.2.2.2.2.1))).trans (hHeld.2.2.2.2.1)
                 have HS5_:=(hb.cell (World.block_lt_of_cell? _ _ (hHeld.2.2.2.2.2.1))).trans (hHeld.2.2.2.2.2.1)
                 have HS6_:=(hb.cell (World.block_lt_of_cell? _ _ (hHeld.2.2.2.2.2.2.1))).trans (hHeld.2.2.2.2.2.2.1)
                 have HS7_:=(hb.cell (World.block_lt_of_cell? _ _ (hHeld.2.2.2.2.2.2.2))).trans (hHeld.2.2.2.2.2.2.2)
                 refine ⟨_,rfl,?_⟩
                 have n0_ := Aside0.mk (Kd.N_below (by (with_reducible repeat (first|apply Kd.N_alloc|apply Kd.N_drewN|apply Kd.N_drew)); exact HO_9.out) hb)
                 have n1_ := Aside0.mk (Kd.V_below (by (with_reducible repeat (first|apply Kd.V_alloc|apply Kd.V_drewN|apply Kd.V_drew)); exact HO_234003.out) hb)
                 have n2_ := Aside0.mk (Kd.V_below (by (with_reducible repeat (first|apply Kd.V_alloc|apply Kd.V_drewN|apply Kd.V_drew)); exact HO_235003.out) hb)
                 have n3_ := Aside0.mk (Kd.V_below (by (with_reducible repeat (first|apply Kd.V_alloc|apply Kd.V_drewN|apply Kd.V_drew)); exact HL267_3.out) hb)
                 have n4_ := Aside0.mk (Kd.V_below (by (with_reducible repeat (first|apply Kd.V_alloc|apply Kd.V_drewN|apply Kd.V_drew)); exact HL268_3.out) hb)
                 have n5_ := Aside0.mk (blk_below (g := gb233) (o := .cells #[.int .i64 a0_0,.int .i64 a0_1,.string a0_2,.slice A0_3 l0_3.length c0_3] 24 (0,0)) (by (with_reducible repeat (first|refine zN ?_ _|refine zD ?_|refine zA ?_ _)); exact BK233.out) hb)
                 have n6_ := Aside0.mk (blk_below (g := gb234) (o := .cells #[.int .i64 a1_0,.int .i64 a1_1,.string a1_2,.slice A1_3 l1_3.length c1_3] 24 (0,0)) (by (with_reducible repeat (first|refine zN ?_ _|refine zD ?_|refine zA ?_ _)); exact BK234.out) hb)
                 have n7_ := Aside0.mk (Kd.C_below (by repeat (first|(with_reducible exact HR267_3.out)|(with_reducible refine Kd.C_alloc ?_ _)|(with_reducible refine Kd.C_drewN ?_ _)|(with_reducible refine Kd.C_drew ?_)|exact HR267_3.out)) hb)
                 have n8_ := Aside0.mk (Kd.C_below (by repeat (first|(with_reducible exact HR268_3.out)|(with_reducible refine Kd.C_alloc ?_ _)|(with_reducible refine Kd.C_drewN ?_ _)|(with_reducible refine Kd.C_drew ?_)|exact HR268_3.out)) hb)
                 have n9_ := Aside0.mk (below_step (by repeat (first|(with_reducible first|exact HB.out|apply zE|apply zB|apply zC|refine zJ ?_ GE233.out|refine zJ ?_ GE234.out)|exact HB.out)) hb)
                 clear HO_9 HO_234003 HO_235003 HL267_3 HL268_3 BK233 BK234 HR267_3 HR268_3 HB; have HO_9 := n0_; have HO_234003 := n1_; have HO_235003 := n2_; have HL267_3 := n3_; have HL268_3 := n4_; have BK233 := n5_; have BK234 := n6_; have HR267_3 := n7_; have HR268_3 := n8_; have HB := n9_; clear n0_ n1_ n2_ n3_ n4_ n5_ n6_ n7_ n8_ n9_
                 (try clear hb)
                 (try clear hb2)
                 (try clear hk)
                 (try clear hi)
                 (try clear hge)
                 refine hK.out _ _ ⟨HS0_,HS1_,HS2_,HS3_,HS4_,HS5_,HS6_,HS7_⟩ (fun hHeld=>?_)
                 clear hK K
                 refine norm_ (a' := ?_) ?_ ?_
                 rotate_left
                 ·show Act.put _ (some 63) _ = _
                  simp only [Act.put,List.setIfInBounds_toArray,List.set_cons_zero,List.set_cons_succ,i64_w,i32_w]
                  rfl
                 refine pure_ (i := 9) (N := some 54) (v := ?_) (a' := ?_) #[true,true,true,true,true,true,true,true,true,true,false,false,false,false] rfl rfl (any_of HT_.out (by kernel_rfl)) (fun _ _ _ h=>h) (Or.inl ⟨by rfl,?_⟩) ?_ ?_
                 rotate_left
                 ·intro w'
                  go_simp
                  with_reducible rfl
                 rotate_left
                 ·simp only [Act.put,List.setIfInBounds_toArray,List.set_cons_zero,List.set_cons_succ,i64_w,i32_w]
                  rfl
                 refine pure_ (i := 10) (N := some 64) (v := ?_) (a' := ?_) #[true,true,true,true,true,true,true,true,true,true,true,false,false,false] rfl rfl (any_of HT_.out (by kernel_rfl)) (fun _ _ _ h=>h) (Or.inl ⟨by rfl,?_⟩) ?_ ?_
                 rotate_left
                 ·intro w'
                  go_simp
                  with_reducible rfl
                 rotate_left
                 ·simp only [Act.put,List.setIfInBounds_toArray,List.set_cons_zero,List.set_cons_succ,i64_w,i32_w]
                  rfl
                 refine pure_ (i := 11) (N := some 65) (v := ?_) (a' := ?_) #[true,true,true,true,true,true,true,true,true,true,true,true,false,false] rfl rfl (any_of HT_.out (by kernel_rfl)) (fun _ _ _ h=>h) (Or.inl ⟨by rfl,?_⟩) ?_ ?_
                 rotate_left
                 ·intro w'
                  go_simp
                  with_reducible rfl
                 rotate_left
                 ·simp only [Act.put,List.setIfInBounds_toArray,List.set_cons_zero,List.set_cons_succ,i64_w,i32_w]
                  rfl
                 refine pure_ (i := 12) (N := some 12) (v := ?_) (a' := ?_) #[true,true,true,true,true,true,true,true,true,true,true,true,true,false] rfl rfl (any_of HT_.out (by kernel_rfl)) (fun _ _ _ h=>h) (Or.inl ⟨by rfl,?_⟩) ?_ ?_
                 rotate_left
                 ·intro w'
                  go_simp
                  with_reducible rfl
                 rotate_left
                 ·simp only [Act.put,List.setIfInBounds_toArray,List.set_cons_zero,List.set_cons_succ,i64_w,i32_w]
                  rfl
                 refine pure_ (i := 13) (N := some 13) (v := ?_) (a' := ?_) #[true,true,true,true,true,true,true,true,true,true,true,true,true,true] rfl rfl (any_of HT_.out (by kernel_rfl)) (fun _ _ _ h=>h) (Or.inl ⟨by rfl,?_⟩) ?_ ?_
                 rotate_left
                 ·intro w'
                  go_simp
                  with_reducible rfl
                 rotate_left
                 ·simp only [Act.put,List.setIfInBounds_toArray,List.set_cons_zero,List.set_cons_succ,i64_w,i32_w]
                  rfl
                 refine done_ (done_of HT_.out (by kernel_rfl)) ?_
                 try go_wp2
                 have n0_ := Aside0.mk (Kd.N_drew HO_9.out)
                 have n1_ := Aside0.mk (Kd.V_drew HO_234003.out)
                 have n2_ := Aside0.mk (Kd.V_drew HO_235003.out)
                 have n3_ := Aside0.mk (Kd.V_drew HL267_3.out)
                 have n4_ := Aside0.mk (Kd.V_drew HL268_3.out)
                 have n5_ := Aside0.mk (zD BK233.out)
                 have n6_ := Aside0.mk (zD BK234.out)
                 have n7_ := Aside0.mk (Kd.C_drew HR267_3.out)
                 have n8_ := Aside0.mk (Kd.C_drew HR268_3.out)
                 have n9_ := Aside0.mk (zC HB.out)
                 clear HO_9 HO_234003 HO_235003 HL267_3 HL268_3 BK233 BK234 HR267_3 HR268_3 HB; have HO_9 := n0_; have HO_234003 := n1_; have HO_235003 := n2_; have HL267_3 := n3_; have HL268_3 := n4_; have BK233 := n5_; have BK234 := n6_; have HR267_3 := n7_; have HR268_3 := n8_; have HB := n9_; clear n0_ n1_ n2_ n3_ n4_ n5_ n6_ n7_ n8_ n9_
                 have p271 : 0 ≤ (x10_2 : Int) := of_decide_eq_true (by first|(with_reducible assumption)|assumption)
                 have q271 : x10_2 < (y264.length : Int) := of_decide_eq_true (by first|(with_reducible assumption)|assumption)
                 obtain ⟨ad271,A271_3,c271_3,e271,hx271_0,hx271_1,hx271_2,hx271_3,hl271_3,hi271_3⟩ := at_T24 (Kd.N_reads' HO_9.out).2.2 x10_2 p271 q271
                 obtain rfl : ad267 = ad271:=(by injection e271)
                 obtain ⟨ce271,hce271,hMe271,hcc271⟩ := Kd.N_get HO_9.out z24 x10_2 p271 (by first|exact q271|exact of_decide_eq_true (by first|(with_reducible assumption)|assumption)|(have e_:=(Kd.N_reads' HO_9.out).1; omega))
                 obtain ⟨ua271_3,uc271_3,rfl,ul271_3,ge271_3⟩ := k24_openF hMe271
                 have hv271_3 := hcc271 3 _ rfl
                 rw [add_field _ _ 3 (by omega)] at hv271_3
                 replace hv271_3 := Option.some.inj (hv271_3.symm.trans hx271_3)
                 injection hv271_3 with hva_ hvn_ hvc_
                 rw [hva_] at ge271_3
                 rw [hvc_] at ul271_3
                 have HL271_3 := Aside0.mk (show Kd.V Kd.string 9 _ w.heap.size _ _ ((rd_T24 y264 x10_2).f3) from Kd.V_mk ul271_3 ge271_3)
                 clear hva_ hvn_ hvc_ ge271_3 ul271_3 hcc271 hce271; have HR271_3 := Aside0.mk hi271_3; have HC271_3 := Aside0.mk hl271_3; clear hi271_3 hl271_3
                 replace p271 := eq_true p271
                 replace q271 := eq_true q271
                 have p272 : 0 ≤ (x11_3 : Int) := of_decide_eq_true (by first|(with_reducible assumption)|assumption)
                 have q272 : x11_3 < (y264.length : Int) := of_decide_eq_true (by first|(with_reducible assumption)|assumption)
                 obtain ⟨ad272,A272_3,c272_3,e272,hx272_0,hx272_1,hx272_2,hx272_3,hl272_3,hi272_3⟩ := at_T24 (Kd.N_reads' HO_9.out).2.2 x11_3 p272 q272
                 obtain rfl : ad267 = ad272:=(by injection e272)
                 obtain ⟨ce272,hce272,hMe272,hcc272⟩ := Kd.N_get HO_9.out z24 x11_3 p272 (by first|exact q272|exact of_decide_eq_true (by first|(with_reducible assumption)|assumption)|(have e_:=(Kd.N_reads' HO_9.out).1; omega))
                 obtain ⟨ua272_3,uc272_3,rfl,ul272_3,ge272_3⟩ := k24_openF hMe272
                 have hv272_3 := hcc272 3 _ rfl
                 rw [add_field _ _ 3 (by omega)] at hv272_3
                 replace hv272_3 := Option.some.inj (hv272_3.symm.trans hx272_3)
                 injection hv272_3 with hva_ hvn_ hvc_
                 rw [hva_] at ge272_3
                 rw [hvc_] at ul272_3
                 have HL272_3 := Aside0.mk (show Kd.V Kd.string 9 _ w.heap.size _ _ ((rd_T24 y264 x11_3).f3) from Kd.V_mk ul272_3 ge272_3)
                 clear hva_ hvn_ hvc_ ge272_3 ul272_3 hcc272 hce272; have HR272_3 := Aside0.mk hi272_3; have HC272_3 := Aside0.mk hl272_3; clear hi272_3 hl272_3
                 replace p272 := eq_true p272
                 replace q272 := eq_true q272
                 refine start_ (n := 14) (S := fun w'=>w'.cell? (ad267.add ((x10_2).toNat * 4)) = some (.int .i64 ((rd_T24 y264 x10_2).f0)) ∧ w'.cell? ⟨(ad267.add ((x10_2).toNat * 4)).block,(ad267.add ((x10_2).toNat * 4)).off + 1,none⟩ = some (.int .i64 ((rd_T24 y264 x10_2).f1)) ∧ w'.cell? ⟨(ad267.add ((x10_2).toNat * 4)).block,(ad267.add ((x10_2).toNat * 4)).off + 2,none⟩ = some (.string ((rd_T24 y264 x10_2).f2)) ∧ w'.cell? ⟨(ad267.add ((x10_2).toNat * 4)).block,(ad267.add ((x10_2).toNat * 4)).off + 3,none⟩ = some (.slice A271_3 ((rd_T24 y264 x10_2).f3).length c271_3) ∧ w'.cell? (ad267.add ((x11_3).toNat * 4)) = some (.int .i64 ((rd_T24 y264 x11_3).f0)) ∧ w'.cell? ⟨(ad267.add ((x11_3).toNat * 4)).block,(ad267.add ((x11_3).toNat * 4)).off + 1,none⟩ = some (.int .i64 ((rd_T24 y264 x11_3).f1)) ∧ w'.cell? ⟨(ad267.add ((x11_3).toNat * 4)).block,(ad267.add ((x11_3).toNat * 4)).off + 2,none⟩ = some (.string ((rd_T24 y264 x11_3).f2)) ∧ w'.cell? ⟨(ad267.add ((x11_3).toNat * 4)).block,(ad267.add ((x11_3).toNat * 4)).off + 3,none⟩ = some (.slice A272_3 ((rd_T24 y264 x11_3).f3).length c272_3)) (ds := []) #[false,false,false,false,false,false,false,false,false,false,false,false,false,false] (by kernel_rfl) rfl rfl ⟨hx271_0,hx271_1,hx271_2,hx271_3,hx272_0,hx272_1,hx272_2,hx272_3⟩ (fun hHeld=>?_); refine with_tabW flagstonelaw3_ValueCompares.tab15 flagstonelaw3_ValueCompares.bits15 (fun HT_ HW_=>?_)
                 generalize w59.drew = w60 at HO_9 HO_234003 HO_235003 HL267_3 HL268_3 BK233 BK234 HR267_3 HR268_3 HB HL271_3 HL272_3 HR271_3 HR272_3 hx271_0 hx271_1 hx271_2 hx271_3 hx272_0 hx272_1 hx272_2 hx272_3 hHeld ⊢
                 refine pure_ (i := 0) (N := some 67) (v := ?_) (a' := ?_) #[true,false,false,false,false,false,false,false,false,false,false,false,false,false] rfl rfl (any_of HT_.out (by kernel_rfl)) (fun _ _ _ h=>h) (Or.inl ⟨by rfl,?_⟩) ?_ ?_
                 rotate_left
                 ·intro w'
                  go_simp
                  with_reducible rfl
                 rotate_left
                 ·simp only [Act.put,List.setIfInBounds_toArray,List.set_cons_zero,List.set_cons_succ,i64_w,i32_w]
                  rfl
                 refine pure_ (i := 1) (N := some 68) (v := ?_) (a' := ?_) #[true,true,false,false,false,false,false,false,false,false,false,false,false,false] rfl rfl (any_of HT_.out (by kernel_rfl)) (fun _ _ _ h=>h) (Or.inl ⟨by rfl,?_⟩) ?_ ?_
                 rotate_left
                 ·intro w'
                  go_simp
                  with_reducible rfl
                 rotate_left
                 ·simp only [Act.put,List.setIfInBounds_toArray,List.set_cons_zero,List.set_cons_succ,i64_w,i32_w]
                  rfl
                 refine pure_ (i := 2) (N := some 69) (v := ?_) (a' := ?_) #[true,true,true,false,false,false,false,false,false,false,false,false,false,false] rfl rfl (any_of HT_.out (by kernel_rfl)) (fun _ _ _ h=>h) (Or.inl ⟨by rfl,?_⟩) ?_ ?_
                 rotate_left
                 ·intro w'
                  go_simp
                  with_reducible rfl
                 rotate_left
                 ·simp only [Act.put,List.setIfInBounds_toArray,List.set_cons_zero,List.set_cons_succ,i64_w,i32_w]
                  rfl
                 refine pure_ (i := 4) (N := some 71) (v := ?_) (a' := ?_) #[true,true,true,false,true,false,false,false,false,false,false,false,false,false] rfl rfl (any_of HT_.out (by kernel_rfl)) (fun _ _ _ h=>h) (Or.inl ⟨by rfl,?_⟩) ?_ ?_
                 rotate_left
                 ·intro w'
                  go_simp
                  with_reducible rfl
                 rotate_left
                 ·simp only [Act.put,List.setIfInBounds_toArray,List.set_cons_zero,List.set_cons_succ,i64_w,i32_w]
                  rfl
                 refine pure_ (i := 5) (N := some 72) (v := ?_) (a' := ?_) #[true,true,true,false,true,true,false,false,false,false,false,false,false,false] rfl rfl (any_of HT_.out (by kernel_rfl)) (fun _ _ _ h=>h) (Or.inl ⟨by rfl,?_⟩) ?_ ?_
                 rotate_left
                 ·intro w'
                  go_simp
                  with_reducible rfl
                 rotate_left
                 ·simp only [Act.put,List.setIfInBounds_toArray,List.set_cons_zero,List.set_cons_succ,i64_w,i32_w]
                  rfl
                 refine pure_ (i := 6) (N := some 73) (v := ?_) (a' := ?_) #[true,true,true,false,true,true,true,false,false,false,false,false,false,false] rfl rfl (any_of HT_.out (by kernel_rfl)) (fun _ _ _ h=>h) (Or.inl ⟨by rfl,?_⟩) ?_ ?_
                 rotate_left
                 ·intro w'
                  go_simp
                  with_reducible rfl
                 rotate_left
                 ·simp only [Act.put,List.setIfInBounds_toArray,List.set_cons_zero,List.set_cons_succ,i64_w,i32_w]
                  rfl
                 refine take_ (i := 3) (N := some 70) (v := ?_) (a' := ?_) #[true,true,true,true,true,true,true,false,false,false,false,false,false,false] rfl rfl (take_ofW HT_.out HW_.out (by kernel_rfl)) (fun _ _ _ h=>h) (Or.inl ⟨by rfl,?_⟩) hHeld ?_ ?_
                 rotate_left
                 ·rintro w' ⟨s0,s1,s2,s3,s4,s5,s6,s7⟩
                  go_simp
                  with_reducible rfl
                 rotate_left
                 ·simp only [Act.put,List.setIfInBounds_toArray,List.set_cons_zero,List.set_cons_succ,i64_w,i32_w]
                  rfl
                 refine take_ (i := 7) (N := some 74) (v := ?_) (a' := ?_) #[true,true,true,true,true,true,true,true,false,false,false,false,false,false] rfl rfl (take_ofW HT_.out HW_.out (by kernel_rfl)) (fun _ _ _ h=>h) (Or.inl ⟨by rfl,?_⟩) hHeld ?_ ?_
                 rotate_left
                 ·rintro w' ⟨s0,s1,s2,s3,s4,s5,s6,s7⟩
                  go_simp
                  with_reducible rfl
                 rotate_left
                 ·simp only [Act.put,List.setIfInBounds_toArray,List.set_cons_zero,List.set_cons_succ,i64_w,i32_w]
                  rfl
                 refine one_ (i := 8) (N := some 75) #[true,true,true,true,true,true,true,true,true,false,false,false,false,false] rfl rfl (one_of HT_.out (by kernel_rfl)) (by decide) (fun K hK=>?_)
                 refine goes_ Tryz.func24 (by kernel_rfl) rfl #[.agg #[.int .i64 ((rd_T24 y264 x10_2).f0),.int .i64 ((rd_T24 y264 x10_2).f1),.string ((rd_T24 y264 x10_2).f2),.slice A271_3 ((rd_T24 y264 x10_2).f3).length c271_3],.agg #[.int .i64 ((rd_T24 y264 x11_3).f0),.int .i64 ((rd_T24 y264 x11_3).f1),.string ((rd_T24 y264 x11_3).f2),.slice A272_3 ((rd_T24 y264 x11_3).f3).length c272_3]] (by rfl) rfl rfl (by (try simp only [List.map_toArray,List.map_cons,List.map_nil]); first|done|rfl|(simp only [List.length_drop,List.length_take]; rfl)) ?_
                 with_reducible refine (flagstoneref3_Compare.calls k3 ((rd_T24 y264 x10_2).f0) ((rd_T24 y264 x10_2).f1) ((rd_T24 y264 x10_2).f2) _ _ ((rd_T24 y264 x10_2).f3) ((rd_T24 y264 x11_3).f0) ((rd_T24 y264 x11_3).f1) ((rd_T24 y264 x11_3).f2) _ _ ((rd_T24 y264 x11_3).f3) t273 t274 _ ?side1 ?side2 ?side3 ?side4 ?side5 A45.out).mono ?_
                 (case side1=>repeat (first|exact (by repeat (first|(with_reducible exact HR271_3.out)|(with_reducible refine Kd.C_alloc ?_ _)|(with_reducible refine Kd.C_drewN ?_ _)|(with_reducible refine Kd.C_drew ?_)|exact HR271_3.out))|(with_reducible refine Kd.C_alloc ?_ _)|(with_reducible refine Kd.C_drewN ?_ _)|(with_reducible refine Kd.C_drew ?_)))
                 (case side2=>exact HC271_3.out)
                 (case side3=>repeat (first|exact (by repeat (first|(with_reducible exact HR272_3.out)|(with_reducible refine Kd.C_alloc ?_ _)|(with_reducible refine Kd.C_drewN ?_ _)|(with_reducible refine Kd.C_drew ?_)|exact HR272_3.out))|(with_reducible refine Kd.C_alloc ?_ _)|(with_reducible refine Kd.C_drewN ?_ _)|(with_reducible refine Kd.C_drew ?_)))
                 (case side4=>exact HC272_3.out)
                 (case side5=>exact GL.below HGL.out (by repeat (first|(with_reducible first|exact HB.out|apply zE|apply zB|apply zC|refine zJ ?_ GE233.out|refine zJ ?_ GE234.out)|exact HB.out)))
                 rintro e w61 ⟨rfl,hb⟩
                 have HS0_:=(hb.cell (World.block_lt_of_cell? _ _ (hHeld.1))).trans (hHeld.1)
                 have HS1_:=(hb.cell (World.block_lt_of_cell? _ _ (hHeld.2.1))).trans (hHeld.2.1)
                 have HS2_:=(hb.cell (World.block_lt_of_cell? _ _ (hHeld.2.2.1))).trans (hHeld.2.2.1)
                 have HS3_:=(hb.cell (World.block_lt_of_cell? _ _ (hHeld.2.2.2.1))).trans (hHeld.2.2.2.1)
                 have HS4_:=(hb.cell (World.block_lt_of_cell? _ _ (hHeld.2.2.2.2.1))).trans (hHeld.2.2.2.2.1)
                 have HS5_:=(hb.cell (World.block_lt_of_cell? _ _ (hHeld.2.2.2.2.2.1))).trans (hHeld.2.2.2.2.2.1)
                 have HS6_:=(hb.cell (World.block_lt_of_cell? _ _ (hHeld.2.2.2.2.2.2.1))).trans (hHeld.2.2.2.2.2.2.1)
                 have HS7_:=(hb.cell (World.block_lt_of_cell? _ _ (hHeld.2.2.2.2.2.2.2))).trans (hHeld.2.2.2.2.2.2.2)
                 refine ⟨_,rfl,?_⟩
                 have n0_ := Aside0.mk (Kd.N_below (by (with_reducible repeat (first|apply Kd.N_alloc|apply Kd.N_drewN|apply Kd.N_drew)); exact HO_9.out) hb)
                 have n1_ := Aside0.mk (Kd.V_below (by (with_reducible repeat (first|apply Kd.V_alloc|apply Kd.V_drewN|apply Kd.V_drew)); exact HO_234003.out) hb)
                 have n2_ := Aside0.mk (Kd.V_below (by (with_reducible repeat (first|apply Kd.V_alloc|apply Kd.V_drewN|apply Kd.V_drew)); exact HO_235003.out) hb)
                 have n3_ := Aside0.mk (Kd.V_below (by (with_reducible repeat (first|apply Kd.V_alloc|apply Kd.V_drewN|apply Kd.V_drew)); exact HL267_3.out) hb)
                 have n4_ := Aside0.mk (Kd.V_below (by (with_reducible repeat (first|apply Kd.V_alloc|apply Kd.V_drewN|apply Kd.V_drew)); exact HL268_3.out) hb)
                 have n5_ := Aside0.mk (Kd.V_below (by (with_reducible repeat (first|apply Kd.V_alloc|apply Kd.V_drewN|apply Kd.V_drew)); exact HL271_3.out) hb)
                 have n6_ := Aside0.mk (Kd.V_below (by (with_reducible repeat (first|apply Kd.V_alloc|apply Kd.V_drewN|apply Kd.V_drew)); exact HL272_3.out) hb)
                 have n7_ := Aside0.mk (blk_below (g := gb233) (o := .cells #[.int .i64 a0_0,.int .i64 a0_1,.string a0_2,.slice A0_3 l0_3.length c0_3] 24 (0,0)) (by (with_reducible repeat (first|refine zN ?_ _|refine zD ?_|refine zA ?_ _)); exact BK233.out) hb)
                 have n8_ := Aside0.mk (blk_below (g := gb234) (o := .cells #[.int .i64 a1_0,.int .i64 a1_1,.string a1_2,.slice A1_3 l1_3.length c1_3] 24 (0,0)) (by (with_reducible repeat (first|refine zN ?_ _|refine zD ?_|refine zA ?_ _)); exact BK234.out) hb)
                 have n9_ := Aside0.mk (Kd.C_below (by repeat (first|(with_reducible exact HR267_3.out)|(with_reducible refine Kd.C_alloc ?_ _)|(with_reducible refine Kd.C_drewN ?_ _)|(with_reducible refine Kd.C_drew ?_)|exact HR267_3.out)) hb)
                 have n10_ := Aside0.mk (Kd.C_below (by repeat (first|(with_reducible exact HR268_3.out)|(with_reducible refine Kd.C_alloc ?_ _)|(with_reducible refine Kd.C_drewN ?_ _)|(with_reducible refine Kd.C_drew ?_)|exact HR268_3.out)) hb)
                 have n11_ := Aside0.mk (Kd.C_below (by repeat (first|(with_reducible exact HR271_3.out)|(with_reducible refine Kd.C_alloc ?_ _)|(with_reducible refine Kd.C_drewN ?_ _)|(with_reducible refine Kd.C_drew ?_)|exact HR271_3.out)) hb)
                 have n12_ := Aside0.mk (Kd.C_below (by repeat (first|(with_reducible exact HR272_3.out)|(with_reducible refine Kd.C_alloc ?_ _)|(with_reducible refine Kd.C_drewN ?_ _)|(with_reducible refine Kd.C_drew ?_)|exact HR272_3.out)) hb)
                 have n13_ := Aside0.mk (below_step (by repeat (first|(with_reducible first|exact HB.out|apply zE|apply zB|apply zC|refine zJ ?_ GE233.out|refine zJ ?_ GE234.out)|exact HB.out)) hb)
                 clear HO_9 HO_234003 HO_235003 HL267_3 HL268_3 HL271_3 HL272_3 BK233 BK234 HR267_3 HR268_3 HR271_3 HR272_3 HB; have HO_9 := n0_; have HO_234003 := n1_; have HO_235003 := n2_; have HL267_3 := n3_; have HL268_3 := n4_; have HL271_3 := n5_; have HL272_3 := n6_; have BK233 := n7_; have BK234 := n8_; have HR267_3 := n9_; have HR268_3 := n10_; have HR271_3 := n11_; have HR272_3 := n12_; have HB := n13_; clear n0_ n1_ n2_ n3_ n4_ n5_ n6_ n7_ n8_ n9_ n10_ n11_ n12_ n13_
                 (try clear hb)
                 (try clear hb2)
                 (try clear hk)
                 (try clear hi)
                 (try clear hge)
                 refine hK.out _ _ ⟨HS0_,HS1_,HS2_,HS3_,HS4_,HS5_,HS6_,HS7_⟩ (fun hHeld=>?_)
                 clear hK K
                 refine norm_ (a' := ?_) ?_ ?_
                 rotate_left
                 ·show Act.put _ (some 75) _ = _
                  simp only [Act.put,List.setIfInBounds_toArray,List.set_cons_zero,List.set_cons_succ,i64_w,i32_w]
                  rfl
                 refine pure_ (i := 9) (N := some 66) (v := ?_) (a' := ?_) #[true,true,true,true,true,true,true,true,true,true,false,false,false,false] rfl rfl (any_of HT_.out (by kernel_rfl)) (fun _ _ _ h=>h) (Or.inl ⟨by rfl,?_⟩) ?_ ?_
                 rotate_left
                 ·intro w'
                  go_simp
                  with_reducible rfl
                 rotate_left
                 ·simp only [Act.put,List.setIfInBounds_toArray,List.set_cons_zero,List.set_cons_succ,i64_w,i32_w]
                  rfl
                 refine pure_ (i := 10) (N := some 76) (v := ?_) (a' := ?_) #[true,true,true,true,true,true,true,true,true,true,true,false,false,false] rfl rfl (any_of HT_.out (by kernel_rfl)) (fun _ _ _ h=>h) (Or.inl ⟨by rfl,?_⟩) ?_ ?_
                 rotate_left
                 ·intro w'
                  go_simp
                  with_reducible rfl
                 rotate_left
                 ·simp only [Act.put,List.setIfInBounds_toArray,List.set_cons_zero,List.set_cons_succ,i64_w,i32_w]
                  rfl
                 refine pure_ (i := 11) (N := some 77) (v := ?_) (a' := ?_) #[true,true,true,true,true,true,true,true,true,true,true,true,false,false] rfl rfl (any_of HT_.out (by kernel_rfl)) (fun _ _ _ h=>h) (Or.inl ⟨by rfl,?_⟩) ?_ ?_
                 rotate_left
                 ·intro w'
                  go_simp
                  with_reducible rfl
                 rotate_left
                 ·simp only [Act.put,List.setIfInBounds_toArray,List.set_cons_zero,List.set_cons_succ,i64_w,i32_w]
                  rfl
                 refine pure_ (i := 12) (N := some 14) (v := ?_) (a' := ?_) #[true,true,true,true,true,true,true,true,true,true,true,true,true,false] rfl rfl (any_of HT_.out (by kernel_rfl)) (fun _ _ _ h=>h) (Or.inl ⟨by rfl,?_⟩) ?_ ?_
                 rotate_left
                 ·intro w'
                  go_simp
                  with_reducible rfl
                 rotate_left
                 ·simp only [Act.put,List.setIfInBounds_toArray,List.set_cons_zero,List.set_cons_succ,i64_w,i32_w]
                  rfl
                 refine pure_ (i := 13) (N := some 15) (v := ?_) (a' := ?_) #[true,true,true,true,true,true,true,true,true,true,true,true,true,true] rfl rfl (any_of HT_.out (by kernel_rfl)) (fun _ _ _ h=>h) (Or.inl ⟨by rfl,?_⟩) ?_ ?_
                 rotate_left
                 ·intro w'
                  go_simp
                  with_reducible rfl
                 rotate_left
                 ·simp only [Act.put,List.setIfInBounds_toArray,List.set_cons_zero,List.set_cons_succ,i64_w,i32_w]
                  rfl
                 refine done_ (done_of HT_.out (by kernel_rfl)) ?_
                 try go_wp2
                 have n0_ := Aside0.mk (Kd.N_drew HO_9.out)
                 have n1_ := Aside0.mk (Kd.V_drew HO_234003.out)
                 have n2_ := Aside0.mk (Kd.V_drew HO_235003.out)
                 have n3_ := Aside0.mk (Kd.V_drew HL267_3.out)
                 have n4_ := Aside0.mk (Kd.V_drew HL268_3.out)
                 have n5_ := Aside0.mk (Kd.V_drew HL271_3.out)
                 have n6_ := Aside0.mk (Kd.V_drew HL272_3.out)
                 have n7_ := Aside0.mk (zD BK233.out)
                 have n8_ := Aside0.mk (zD BK234.out)
                 have n9_ := Aside0.mk (Kd.C_drew HR267_3.out)
                 have n10_ := Aside0.mk (Kd.C_drew HR268_3.out)
                 have n11_ := Aside0.mk (Kd.C_drew HR271_3.out)
                 have n12_ := Aside0.mk (Kd.C_drew HR272_3.out)
                 have n13_ := Aside0.mk (zC HB.out)
                 clear HO_9 HO_234003 HO_235003 HL267_3 HL268_3 HL271_3 HL272_3 BK233 BK234 HR267_3 HR268_3 HR271_3 HR272_3 HB; have HO_9 := n0_; have HO_234003 := n1_; have HO_235003 := n2_; have HL267_3 := n3_; have HL268_3 := n4_; have HL271_3 := n5_; have HL272_3 := n6_; have BK233 := n7_; have BK234 := n8_; have HR267_3 := n9_; have HR268_3 := n10_; have HR271_3 := n11_; have HR272_3 := n12_; have HB := n13_; clear n0_ n1_ n2_ n3_ n4_ n5_ n6_ n7_ n8_ n9_ n10_ n11_ n12_ n13_
                 have p275 : 0 ≤ (x10_2 : Int) := of_decide_eq_true (by first|(with_reducible assumption)|assumption)
                 have q275 : x10_2 < (y264.length : Int) := of_decide_eq_true (by first|(with_reducible assumption)|assumption)
                 obtain ⟨ad275,A275_3,c275_3,e275,hx275_0,hx275_1,hx275_2,hx275_3,hl275_3,hi275_3⟩ := at_T24 (Kd.N_reads' HO_9.out).2.2 x10_2 p275 q275
                 obtain rfl : ad267 = ad275:=(by injection e275)
                 obtain ⟨ce275,hce275,hMe275,hcc275⟩ := Kd.N_get HO_9.out z24 x10_2 p275 (by first|exact q275|exact of_decide_eq_true (by first|(with_reducible assumption)|assumption)|(have e_:=(Kd.N_reads' HO_9.out).1; omega))
                 obtain ⟨ua275_3,uc275_3,rfl,ul275_3,ge275_3⟩ := k24_openF hMe275
                 have hv275_3 := hcc275 3 _ rfl
                 rw [add_field _ _ 3 (by omega)] at hv275_3
                 replace hv275_3 := Option.some.inj (hv275_3.symm.trans hx275_3)
                 injection hv275_3 with hva_ hvn_ hvc_
                 rw [hva_] at ge275_3
                 rw [hvc_] at ul275_3
                 have HL275_3 := Aside0.mk (show Kd.V Kd.string 9 _ w.heap.size _ _ ((rd_T24 y264 x10_2).f3) from Kd.V_mk ul275_3 ge275_3)
                 clear hva_ hvn_ hvc_ ge275_3 ul275_3 hcc275 hce275; have HR275_3 := Aside0.mk hi275_3; have HC275_3 := Aside0.mk hl275_3; clear hi275_3 hl275_3
                 replace p275 := eq_true p275
                 replace q275 := eq_true q275
                 have p276 : 0 ≤ (x11_3 : Int) := of_decide_eq_true (by first|(with_reducible assumption)|assumption)
                 have q276 : x11_3 < (y264.length : Int) := of_decide_eq_true (by first|(with_reducible assumption)|assumption)
                 obtain ⟨ad276,A276_3,c276_3,e276,hx276_0,hx276_1,hx276_2,hx276_3,hl276_3,hi276_3⟩ := at_T24 (Kd.N_reads' HO_9.out).2.2 x11_3 p276 q276
                 obtain rfl : ad267 = ad276:=(by injection e276)
                 obtain ⟨ce276,hce276,hMe276,hcc276⟩ := Kd.N_get HO_9.out z24 x11_3 p276 (by first|exact q276|exact of_decide_eq_true (by first|(with_reducible assumption)|assumption)|(have e_:=(Kd.N_reads' HO_9.out).1; omega))
                 obtain ⟨ua276_3,uc276_3,rfl,ul276_3,ge276_3⟩ := k24_openF hMe276
                 have hv276_3 := hcc276 3 _ rfl
                 rw [add_field _ _ 3 (by omega)] at hv276_3
                 replace hv276_3 := Option.some.inj (hv276_3.symm.trans hx276_3)
                 injection hv276_3 with hva_ hvn_ hvc_
                 rw [hva_] at ge276_3
                 rw [hvc_] at ul276_3
                 have HL276_3 := Aside0.mk (show Kd.V Kd.string 9 _ w.heap.size _ _ ((rd_T24 y264 x11_3).f3) from Kd.V_mk ul276_3 ge276_3)
                 clear hva_ hvn_ hvc_ ge276_3 ul276_3 hcc276 hce276; have HR276_3 := Aside0.mk hi276_3; have HC276_3 := Aside0.mk hl276_3; clear hi276_3 hl276_3
                 replace p276 := eq_true p276
                 replace q276 := eq_true q276
                 have p278 : 0 ≤ (x10_2 : Int) := of_decide_eq_true (by first|(with_reducible assumption)|assumption)
                 have q278 : x10_2 < (y264.length : Int) := of_decide_eq_true (by first|(with_reducible assumption)|assumption)
                 obtain ⟨ad278,A278_3,c278_3,e278,hx278_0,hx278_1,hx278_2,hx278_3,hl278_3,hi278_3⟩ := at_T24 (Kd.N_reads' HO_9.out).2.2 x10_2 p278 q278
                 obtain rfl : ad267 = ad278:=(by injection e278)
                 obtain ⟨ce278,hce278,hMe278,hcc278⟩ := Kd.N_get HO_9.out z24 x10_2 p278 (by first|exact q278|exact of_decide_eq_true (by first|(with_reducible assumption)|assumption)|(have e_:=(Kd.N_reads' HO_9.out).1; omega))
                 obtain ⟨ua278_3,uc278_3,rfl,ul278_3,ge278_3⟩ := k24_openF hMe278
                 have hv278_3 := hcc278 3 _ rfl
                 rw [add_field _ _ 3 (by omega)] at hv278_3
                 replace hv278_3 := Option.some.inj (hv278_3.symm.trans hx278_3)
                 injection hv278_3 with hva_ hvn_ hvc_
                 rw [hva_] at ge278_3
                 rw [hvc_] at ul278_3
                 have HL278_3 := Aside0.mk (show Kd.V Kd.string 9 _ w.heap.size _ _ ((rd_T24 y264 x10_2).f3) from Kd.V_mk ul278_3 ge278_3)
                 clear hva_ hvn_ hvc_ ge278_3 ul278_3 hcc278 hce278; have HR278_3 := Aside0.mk hi278_3; have HC278_3 := Aside0.mk hl278_3; clear hi278_3 hl278_3
                 replace p278 := eq_true p278
                 replace q278 := eq_true q278
                 have ea_ := Option.some.inj (hx275_3.symm.trans hx278_3)
                 injection ea_ with ea_ en_ ec_
                 subst ea_; subst ec_; clear en_
                 have p279 : 0 ≤ (x11_3 : Int) := of_decide_eq_true (by first|(with_reducible assumption)|assumption)
                 have q279 : x11_3 < (y264.length : Int) := of_decide_eq_true (by first|(with_reducible assumption)|assumption)
                 obtain ⟨ad279,A279_3,c279_3,e279,hx279_0,hx279_1,hx279_2,hx279_3,hl279_3,hi279_3⟩ := at_T24 (Kd.N_reads' HO_9.out).2.2 x11_3 p279 q279
                 obtain rfl : ad267 = ad279:=(by injection e279)
                 obtain ⟨ce279,hce279,hMe279,hcc279⟩ := Kd.N_get HO_9.out z24 x11_3 p279 (by first|exact q279|exact of_decide_eq_true (by first|(with_reducible assumption)|assumption)|(have e_:=(Kd.N_reads' HO_9.out).1; omega))
                 obtain ⟨ua279_3,uc279_3,rfl,ul279_3,ge279_3⟩ := k24_openF hMe279
                 have hv279_3 := hcc279 3 _ rfl
                 rw [add_field _ _ 3 (by omega)] at hv279_3
                 replace hv279_3 := Option.some.inj (hv279_3.symm.trans hx279_3)
                 injection hv279_3 with hva_ hvn_ hvc_
                 rw [hva_] at ge279_3
                 rw [hvc_] at ul279_3
                 have HL279_3 := Aside0.mk (show Kd.V Kd.string 9 _ w.heap.size _ _ ((rd_T24 y264 x11_3).f3) from Kd.V_mk ul279_3 ge279_3)
                 clear hva_ hvn_ hvc_ ge279_3 ul279_3 hcc279 hce279; have HR279_3 := Aside0.mk hi279_3; have HC279_3 := Aside0.mk hl279_3; clear hi279_3 hl279_3
                 replace p279 := eq_true p279
                 replace q279 := eq_true q279
                 have ea_ := Option.some.inj (hx276_3.symm.trans hx279_3)
                 injection ea_ with ea_ en_ ec_
                 subst ea_; subst ec_; clear en_
                 refine start_ (n := 29) (S := fun w'=>w'.cell? (ad267.add ((x10_2).toNat * 4)) = some (.int .i64 ((rd_T24 y264 x10_2).f0)) ∧ w'.cell? ⟨(ad267.add ((x10_2).toNat * 4)).block,(ad267.add ((x10_2).toNat * 4)).off + 1,none⟩ = some (.int .i64 ((rd_T24 y264 x10_2).f1)) ∧ w'.cell? ⟨(ad267.add ((x10_2).toNat * 4)).block,(ad267.add ((x10_2).toNat * 4)).off + 2,none⟩ = some (.string ((rd_T24 y264 x10_2).f2)) ∧ w'.cell? ⟨(ad267.add ((x10_2).toNat * 4)).block,(ad267.add ((x10_2).toNat * 4)).off + 3,none⟩ = some (.slice A275_3 ((rd_T24 y264 x10_2).f3).length c275_3) ∧ w'.cell? (ad267.add ((x11_3).toNat * 4)) = some (.int .i64 ((rd_T24 y264 x11_3).f0)) ∧ w'.cell? ⟨(ad267.add ((x11_3).toNat * 4)).block,(ad267.add ((x11_3).toNat * 4)).off + 1,none⟩ = some (.int .i64 ((rd_T24 y264 x11_3).f1)) ∧ w'.cell? ⟨(ad267.add ((x11_3).toNat * 4)).block,(ad267.add ((x11_3).toNat * 4)).off + 2,none⟩ = some (.string ((rd_T24 y264 x11_3).f2)) ∧ w'.cell? ⟨(ad267.add ((x11_3).toNat * 4)).block,(ad267.add ((x11_3).toNat * 4)).off + 3,none⟩ = some (.slice A276_3 ((rd_T24 y264 x11_3).f3).length c276_3) ∧ w'.cell? (ad267.add ((x10_2).toNat * 4)) = some (.int .i64 ((rd_T24 y264 x10_2).f0)) ∧ w'.cell? ⟨(ad267.add ((x10_2).toNat * 4)).block,(ad267.add ((x10_2).toNat * 4)).off + 1,none⟩ = some (.int .i64 ((rd_T24 y264 x10_2).f1)) ∧ w'.cell? ⟨(ad267.add ((x10_2).toNat * 4)).block,(ad267.add ((x10_2).toNat * 4)).off + 2,none⟩ = some (.string ((rd_T24 y264 x10_2).f2)) ∧ w'.cell? ⟨(ad267.add ((x10_2).toNat * 4)).block,(ad267.add ((x10_2).toNat * 4)).off + 3,none⟩ = some (.slice A275_3 ((rd_T24 y264 x10_2).f3).length c275_3) ∧ w'.cell? (ad267.add ((x11_3).toNat * 4)) = some (.int .i64 ((rd_T24 y264 x11_3).f0)) ∧ w'.cell? ⟨(ad267.add ((x11_3).toNat * 4)).block,(ad267.add ((x11_3).toNat * 4)).off + 1,none⟩ = some (.int .i64 ((rd_T24 y264 x11_3).f1)) ∧ w'.cell? ⟨(ad267.add ((x11_3).toNat * 4)).block,(ad267.add ((x11_3).toNat * 4)).off + 2,none⟩ = some (.string ((rd_T24 y264 x11_3).f2)) ∧ w'.cell? ⟨(ad267.add ((x11_3).toNat * 4)).block,(ad267.add ((x11_3).toNat * 4)).off + 3,none⟩ = some (.slice A276_3 ((rd_T24 y264 x11_3).f3).length c276_3)) (ds := []) #[false,false,false,false,false,false,false,false,false,false,false,false,false,false,false,false,false,false,false,false,false,false,false,false,false,false,false,false,false] (by kernel_rfl) rfl rfl ⟨hx275_0,hx275_1,hx275_2,hx275_3,hx276_0,hx276_1,hx276_2,hx276_3,hx278_0,hx278_1,hx278_2,hx278_3,hx279_0,hx279_1,hx279_2,hx279_3⟩ (fun hHeld=>?_); refine with_tabW flagstonelaw3_ValueCompares.tab16 flagstonelaw3_ValueCompares.bits16 (fun HT_ HW_=>?_)
                 generalize w61.drew = w62 at HO_9 HO_234003 HO_235003 HL267_3 HL268_3 HL271_3 HL272_3 BK233 BK234 HR267_3 HR268_3 HR271_3 HR272_3 HB HL275_3 HL276_3 HL278_3 HL279_3 HR275_3 HR276_3 HR278_3 HR279_3 hx275_0 hx275_1 hx275_2 hx275_3 hx276_0 hx276_1 hx276_2 hx276_3 hx278_0 hx278_1 hx278_2 hx278_3 hx279_0 hx279_1 hx279_2 hx279_3 hHeld ⊢
                 refine pure_ (i := 0) (N := some 78) (v := ?_) (a' := ?_) #[true,false,false,false,false,false,false,false,false,false,false,false,false,false,false,false,false,false,false,false,false,false,false,false,false,false,false,false,false] rfl rfl (any_of HT_.out (by kernel_rfl)) (fun _ _ _ h=>h) (Or.inl ⟨by rfl,?_⟩) ?_ ?_
                 rotate_left
                 ·intro w'
                  go_simp
                  with_reducible rfl
                 rotate_left
                 ·simp only [Act.put,List.setIfInBounds_toArray,List.set_cons_zero,List.set_cons_succ,i64_w,i32_w]
                  rfl
                 refine pure_ (i := 1) (N := some 79) (v := ?_) (a' := ?_) #[true,true,false,false,false,false,false,false,false,false,false,false,false,false,false,false,false,false,false,false,false,false,false,false,false,false,false,false,false] rfl rfl (any_of HT_.out (by kernel_rfl)) (fun _ _ _ h=>h) (Or.inl ⟨by rfl,?_⟩) ?_ ?_
                 rotate_left
                 ·intro w'
                  go_simp
                  with_reducible rfl
                 rotate_left
                 ·simp only [Act.put,List.setIfInBounds_toArray,List.set_cons_zero,List.set_cons_succ,i64_w,i32_w]
                  rfl
                 refine pure_ (i := 2) (N := some 80) (v := ?_) (a' := ?_) #[true,true,true,false,false,false,false,false,false,false,false,false,false,false,false,false,false,false,false,false,false,false,false,false,false,false,false,false,false] rfl rfl (any_of HT_.out (by kernel_rfl)) (fun _ _ _ h=>h) (Or.inl ⟨by rfl,?_⟩) ?_ ?_
                 rotate_left
                 ·intro w'
                  go_simp
                  with_reducible rfl
                 rotate_left
                 ·simp only [Act.put,List.setIfInBounds_toArray,List.set_cons_zero,List.set_cons_succ,i64_w,i32_w]
                  rfl
                 refine pure_ (i := 3) (N := some 81) (v := ?_) (a' := ?_) #[true,true,true,true,false,false,false,false,false,false,false,false,false,false,false,false,false,false,false,false,false,false,false,false,false,false,false,false,false] rfl rfl (any_of HT_.out (by kernel_rfl)) (fun _ _ _ h=>h) (Or.inl ⟨by rfl,?_⟩) ?_ ?_
                 rotate_left
                 ·intro w'
                  go_simp
                  with_reducible rfl
                 rotate_left
                 ·simp only [Act.put,List.setIfInBounds_toArray,List.set_cons_zero,List.set_cons_succ,i64_w,i32_w]
                  rfl
                 refine pure_ (i := 4) (N := some 82) (v := ?_) (a' := ?_) #[true,true,true,true,true,false,false,false,false,false,false,false,false,false,false,false,false,false,false,false,false,false,false,false,false,false,false,false,false] rfl rfl (any_of HT_.out (by kernel_rfl)) (fun _ _ _ h=>h) (Or.inl ⟨by rfl,?_⟩) ?_ ?_
                 rotate_left
                 ·intro w'
                  go_simp
                  with_reducible rfl
                 rotate_left
                 ·simp only [Act.put,List.setIfInBounds_toArray,List.set_cons_zero,List.set_cons_succ,i64_w,i32_w]
                  rfl
                 refine pure_ (i := 5) (N := some 83) (v := ?_) (a' := ?_) #[true,true,true,true,true,true,false,false,false,false,false,false,false,false,false,false,false,false,false,false,false,false,false,false,false,false,false,false,false] rfl rfl (any_of HT_.out (by kernel_rfl)) (fun _ _ _ h=>h) (Or.inl ⟨by rfl,?_⟩) ?_ ?_
                 rotate_left
                 ·intro w'
                  go_simp
                  with_reducible rfl
                 rotate_left
                 ·simp only [Act.put,List.setIfInBounds_toArray,List.set_cons_zero,List.set_cons_succ,i64_w,i32_w]
                  rfl
                 refine pure_ (i := 6) (N := some 84) (v := ?_) (a' := ?_) #[true,true,true,true,true,true,true,false,false,false,false,false,false,false,false,false,false,false,false,false,false,false,false,false,false,false,false,false,false] rfl rfl (any_of HT_.out (by kernel_rfl)) (fun _ _ _ h=>h) (Or.inl ⟨by rfl,?_⟩) ?_ ?_
                 rotate_left
                 ·intro w'
                  go_simp
                  with_reducible rfl
                 rotate_left
                 ·simp only [Act.put,List.setIfInBounds_toArray,List.set_cons_zero,List.set_cons_succ,i64_w,i32_w]
                  rfl
                 refine pure_ (i := 7) (N := some 85) (v := ?_) (a' := ?_) #[true,true,true,true,true,true,true,true,false,false,false,false,false,false,false,false,false,false,false,false,false,false,false,false,false,false,false,false,false] rfl rfl (any_of HT_.out (by kernel_rfl)) (fun _ _ _ h=>h) (Or.inl ⟨by rfl,?_⟩) ?_ ?_
                 rotate_left
                 ·intro w'
                  go_simp
                  with_reducible rfl
                 rotate_left
                 ·simp only [Act.put,List.setIfInBounds_toArray,List.set_cons_zero,List.set_cons_succ,i64_w,i32_w]
                  rfl
                 refine pure_ (i := 8) (N := some 86) (v := ?_) (a' := ?_) #[true,true,true,true,true,true,true,true,true,false,false,false,false,false,false,false,false,false,false,false,false,false,false,false,false,false,false,false,false] rfl rfl (any_of HT_.out (by kernel_rfl)) (fun _ _ _ h=>h) (Or.inl ⟨by rfl,?_⟩) ?_ ?_
                 rotate_left
                 ·intro w'
                  go_simp
                  with_reducible rfl
                 rotate_left
                 ·simp only [Act.put,List.setIfInBounds_toArray,List.set_cons_zero,List.set_cons_succ,i64_w,i32_w]
                  rfl
                 refine pure_ (i := 9) (N := some 87) (v := ?_) (a' := ?_) #[true,true,true,true,true,true,true,true,true,true,false,false,false,false,false,false,false,false,false,false,false,false,false,false,false,false,false,false,false] rfl rfl (any_of HT_.out (by kernel_rfl)) (fun _ _ _ h=>h) (Or.inl ⟨by rfl,?_⟩) ?_ ?_
                 rotate_left
                 ·intro w'
                  go_simp
                  with_reducible rfl
                 rotate_left
                 ·simp only [Act.put,List.setIfInBounds_toArray,List.set_cons_zero,List.set_cons_succ,i64_w,i32_w]
                  rfl
                 refine pure_ (i := 10) (N := some 88) (v := ?_) (a' := ?_) #[true,true,true,true,true,true,true,true,true,true,true,false,false,false,false,false,false,false,false,false,false,false,false,false,false,false,false,false,false] rfl rfl (any_of HT_.out (by kernel_rfl)) (fun _ _ _ h=>h) (Or.inl ⟨by rfl,?_⟩) ?_ ?_
                 rotate_left
                 ·intro w'
                  go_simp
                  with_reducible rfl
                 rotate_left
                 ·simp only [Act.put,List.setIfInBounds_toArray,List.set_cons_zero,List.set_cons_succ,i64_w,i32_w]
                  rfl
                 refine pure_ (i := 11) (N := some 89) (v := ?_) (a' := ?_) #[true,true,true,true,true,true,true,true,true,true,true,true,false,false,false,false,false,false,false,false,false,false,false,false,false,false,false,false,false] rfl rfl (any_of HT_.out (by kernel_rfl)) (fun _ _ _ h=>h) (Or.inl ⟨by rfl,?_⟩) ?_ ?_
                 rotate_left
                 ·intro w'
                  go_simp
                  with_reducible rfl
                 rotate_left
                 ·simp only [Act.put,List.setIfInBounds_toArray,List.set_cons_zero,List.set_cons_succ,i64_w,i32_w]
                  rfl
                 refine pure_ (i := 13) (N := some 91) (v := ?_) (a' := ?_) #[true,true,true,true,true,true,true,true,true,true,true,true,false,true,false,false,false,false,false,false,false,false,false,false,false,false,false,false,false] rfl rfl (any_of HT_.out (by kernel_rfl)) (fun _ _ _ h=>h) (Or.inl ⟨by rfl,?_⟩) ?_ ?_
                 rotate_left
                 ·intro w'
                  go_simp
                  with_reducible rfl
                 rotate_left
                 ·simp only [Act.put,List.setIfInBounds_toArray,List.set_cons_zero,List.set_cons_succ,i64_w,i32_w]
                  rfl
                 refine pure_ (i := 14) (N := some 92) (v := ?_) (a' := ?_) #[true,true,true,true,true,true,true,true,true,true,true,true,false,true,true,false,false,false,false,false,false,false,false,false,false,false,false,false,false] rfl rfl (any_of HT_.out (by kernel_rfl)) (fun _ _ _ h=>h) (Or.inl ⟨by rfl,?_⟩) ?_ ?_
                 rotate_left
                 ·intro w'
                  go_simp
                  with_reducible rfl
                 rotate_left
                 ·simp only [Act.put,List.setIfInBounds_toArray,List.set_cons_zero,List.set_cons_succ,i64_w,i32_w]
                  rfl
                 refine pure_ (i := 15) (N := some 93) (v := ?_) (a' := ?_) #[true,true,true,true,true,true,true,true,true,true,true,true,false,true,true,true,false,false,false,false,false,false,false,false,false,false,false,false,false] rfl rfl (any_of HT_.out (by kernel_rfl)) (fun _ _ _ h=>h) (Or.inl ⟨by rfl,?_⟩) ?_ ?_
                 rotate_left
                 ·intro w'
                  go_simp
                  with_reducible rfl
                 rotate_left
                 ·simp only [Act.put,List.setIfInBounds_toArray,List.set_cons_zero,List.set_cons_succ,i64_w,i32_w]
                  rfl
                 refine pure_ (i := 18) (N := some 96) (v := ?_) (a' := ?_) #[true,true,true,true,true,true,true,true,true,true,true,true,false,true,true,true,false,false,true,false,false,false,false,false,false,false,false,false,false] rfl rfl (any_of HT_.out (by kernel_rfl)) (fun _ _ _ h=>h) (Or.inl ⟨by rfl,?_⟩) ?_ ?_
                 rotate_left
                 ·intro w'
                  go_simp
                  with_reducible rfl
                 rotate_left
                 ·simp only [Act.put,List.setIfInBounds_toArray,List.set_cons_zero,List.set_cons_succ,i64_w,i32_w]
                  rfl
                 refine pure_ (i := 19) (N := some 97) (v := ?_) (a' := ?_) #[true,true,true,true,true,true,true,true,true,true,true,true,false,true,true,true,false,false,true,true,false,false,false,false,false,false,false,false,false] rfl rfl (any_of HT_.out (by kernel_rfl)) (fun _ _ _ h=>h) (Or.inl ⟨by rfl,?_⟩) ?_ ?_
                 rotate_left
                 ·intro w'
                  go_simp
                  with_reducible rfl
                 rotate_left
                 ·simp only [Act.put,List.setIfInBounds_toArray,List.set_cons_zero,List.set_cons_succ,i64_w,i32_w]
                  rfl
                 refine pure_ (i := 20) (N := some 98) (v := ?_) (a' := ?_) #[true,true,true,true,true,true,true,true,true,true,true,true,false,true,true,true,false,false,true,true,true,false,false,false,false,false,false,false,false] rfl rfl (any_of HT_.out (by kernel_rfl)) (fun _ _ _ h=>h) (Or.inl ⟨by rfl,?_⟩) ?_ ?_
                 rotate_left
                 ·intro w'
                  go_simp
                  with_reducible rfl
                 rotate_left
                 ·simp only [Act.put,List.setIfInBounds_toArray,List.set_cons_zero,List.set_cons_succ,i64_w,i32_w]
                  rfl
                 refine pure_ (i := 22) (N := some 100) (v := ?_) (a' := ?_) #[true,true,true,true,true,true,true,true,true,true,true,true,false,true,true,true,false,false,true,true,true,false,true,false,false,false,false,false,false] rfl rfl (any_of HT_.out (by kernel_rfl)) (fun _ _ _ h=>h) (Or.inl ⟨by rfl,?_⟩) ?_ ?_
                 rotate_left
                 ·intro w'
                  go_simp
                  with_reducible rfl
                 rotate_left
                 ·simp only [Act.put,List.setIfInBounds_toArray,List.set_cons_zero,List.set_cons_succ,i64_w,i32_w]
                  rfl
                 refine pure_ (i := 23) (N := some 101) (v := ?_) (a' := ?_) #[true,true,true,true,true,true,true,true,true,true,true,true,false,true,true,true,false,false,true,true,true,false,true,true,false,false,false,false,false] rfl rfl (any_of HT_.out (by kernel_rfl)) (fun _ _ _ h=>h) (Or.inl ⟨by rfl,?_⟩) ?_ ?_
                 rotate_left
                 ·intro w'
                  go_simp
                  with_reducible rfl
                 rotate_left
                 ·simp only [Act.put,List.setIfInBounds_toArray,List.set_cons_zero,List.set_cons_succ,i64_w,i32_w]
                  rfl
                 refine pure_ (i := 24) (N := some 102) (v := ?_) (a' := ?_) #[true,true,true,true,true,true,true,true,true,true,true,true,false,true,true,true,false,false,true,true,true,false,true,true,true,false,false,false,false] rfl rfl (any_of HT_.out (by kernel_rfl)) (fun _ _ _ h=>h) (Or.inl ⟨by rfl,?_⟩) ?_ ?_
                 rotate_left
                 ·intro w'
                  go_simp
                  with_reducible rfl
                 rotate_left
                 ·simp only [Act.put,List.setIfInBounds_toArray,List.set_cons_zero,List.set_cons_succ,i64_w,i32_w]
                  rfl
                 refine take_ (i := 12) (N := some 90) (v := ?_) (a' := ?_) #[true,true,true,true,true,true,true,true,true,true,true,true,true,true,true,true,false,false,true,true,true,false,true,true,true,false,false,false,false] rfl rfl (take_ofW HT_.out HW_.out (by kernel_rfl)) (fun _ _ _ h=>h) (Or.inl ⟨by rfl,?_⟩) hHeld ?_ ?_
                 rotate_left
                 ·rintro w' ⟨s0,s1,s2,s3,s4,s5,s6,s7,s8,s9,s10,s11,s12,s13,s14,s15⟩
                  go_simp
                  with_reducible rfl
                 rotate_left
                 ·simp only [Act.put,List.setIfInBounds_toArray,List.set_cons_zero,List.set_cons_succ,i64_w,i32_w]
                  rfl
                 refine take_ (i := 16) (N := some 94) (v := ?_) (a' := ?_) #[true,true,true,true,true,true,true,true,true,true,true,true,true,true,true,true,true,false,true,true,true,false,true,true,true,false,false,false,false] rfl rfl (take_ofW HT_.out HW_.out (by kernel_rfl)) (fun _ _ _ h=>h) (Or.inl ⟨by rfl,?_⟩) hHeld ?_ ?_
                 rotate_left
                 ·rintro w' ⟨s0,s1,s2,s3,s4,s5,s6,s7,s8,s9,s10,s11,s12,s13,s14,s15⟩
                  go_simp
                  with_reducible rfl
                 rotate_left
                 ·simp only [Act.put,List.setIfInBounds_toArray,List.set_cons_zero,List.set_cons_succ,i64_w,i32_w]
                  rfl
                 refine take_ (i := 21) (N := some 99) (v := ?_) (a' := ?_) #[true,true,true,true,true,true,true,true,true,true,true,true,true,true,true,true,true,false,true,true,true,true,true,true,true,false,false,false,false] rfl rfl (take_ofW HT_.out HW_.out (by kernel_rfl)) (fun _ _ _ h=>h) (Or.inl ⟨by rfl,?_⟩) hHeld ?_ ?_
                 rotate_left
                 ·rintro w' ⟨s0,s1,s2,s3,s4,s5,s6,s7,s8,s9,s10,s11,s12,s13,s14,s15⟩
                  go_simp
                  with_reducible rfl
                 rotate_left
                 ·simp only [Act.put,List.setIfInBounds_toArray,List.set_cons_zero,List.set_cons_succ,i64_w,i32_w]
                  rfl
                 refine take_ (i := 25) (N := some 103) (v := ?_) (a' := ?_) #[true,true,true,true,true,true,true,true,true,true,true,true,true,true,true,true,true,false,true,true,true,true,true,true,true,true,false,false,false] rfl rfl (take_ofW HT_.out HW_.out (by kernel_rfl)) (fun _ _ _ h=>h) (Or.inl ⟨by rfl,?_⟩) hHeld ?_ ?_
                 rotate_left
                 ·rintro w' ⟨s0,s1,s2,s3,s4,s5,s6,s7,s8,s9,s10,s11,s12,s13,s14,s15⟩
                  go_simp
                  with_reducible rfl
                 rotate_left
                 ·simp only [Act.put,List.setIfInBounds_toArray,List.set_cons_zero,List.set_cons_succ,i64_w,i32_w]
                  rfl
                 refine one_ (i := 17) (N := some 95) #[true,true,true,true,true,true,true,true,true,true,true,true,true,true,true,true,true,true,true,true,true,true,true,true,true,true,false,false,false] rfl rfl (one_of HT_.out (by kernel_rfl)) (by decide) (fun K hK=>?_)
                 refine goes_ Tryz.func25 (by kernel_rfl) rfl #[.agg #[.int .i64 ((rd_T24 y264 x10_2).f0),.int .i64 ((rd_T24 y264 x10_2).f1),.string ((rd_T24 y264 x10_2).f2),.slice A275_3 ((rd_T24 y264 x10_2).f3).length c275_3],.agg #[.int .i64 ((rd_T24 y264 x11_3).f0),.int .i64 ((rd_T24 y264 x11_3).f1),.string ((rd_T24 y264 x11_3).f2),.slice A276_3 ((rd_T24 y264 x11_3).f3).length c276_3]] (by rfl) rfl rfl (by (try simp only [List.map_toArray,List.map_cons,List.map_nil]); first|done|rfl|(simp only [List.length_drop,List.length_take]; rfl)) ?_
                 with_reducible refine (value_Equal.calls k3 ((rd_T24 y264 x10_2).f0) ((rd_T24 y264 x10_2).f1) ((rd_T24 y264 x10_2).f2) _ _ ((rd_T24 y264 x10_2).f3) ((rd_T24 y264 x11_3).f0) ((rd_T24 y264 x11_3).f1) ((rd_T24 y264 x11_3).f2) _ _ ((rd_T24 y264 x11_3).f3) t277 _ ?side1 ?side2 ?side3 ?side4 A48.out).mono ?_
                 (case side1=>repeat (first|exact (by repeat (first|(with_reducible exact HR275_3.out)|(with_reducible refine Kd.C_alloc ?_ _)|(with_reducible refine Kd.C_drewN ?_ _)|(with_reducible refine Kd.C_drew ?_)|exact HR275_3.out))|(with_reducible refine Kd.C_alloc ?_ _)|(with_reducible refine Kd.C_drewN ?_ _)|(with_reducible refine Kd.C_drew ?_)))
                 (case side2=>exact HC275_3.out)
                 (case side3=>repeat (first|exact (by repeat (first|(with_reducible exact HR276_3.out)|(with_reducible refine Kd.C_alloc ?_ _)|(with_reducible refine Kd.C_drewN ?_ _)|(with_reducible refine Kd.C_drew ?_)|exact HR276_3.out))|(with_reducible refine Kd.C_alloc ?_ _)|(with_reducible refine Kd.C_drewN ?_ _)|(with_reducible refine Kd.C_drew ?_)))
                 (case side4=>exact HC276_3.out)
                 rintro e w63 ⟨rfl,hb⟩
                 have HS0_:=(hb.cell (World.block_lt_of_cell? _ _ (hHeld.1))).trans (hHeld.1)
                 have HS1_:=(hb.cell (World.block_lt_of_cell? _ _ (hHeld.2.1))).trans (hHeld.2.1)
                 have HS2_:=(hb.cell (World.block_lt_of_cell? _ _ (hHeld.2.2.1))).trans (hHeld.2.2.1)
                 have HS3_:=(hb.cell (World.block_lt_of_cell? _ _ (hHeld.2.2.2.1))).trans (hHeld.2.2.2.1)
                 have HS4_:=(hb.cell (World.block_lt_of_cell? _ _ (hHeld.2.2.2.2.1))).trans (hHeld.2.2.2.2.1)
                 have HS5_:=(hb.cell (World.block_lt_of_cell? _ _ (hHeld.2.2.2.2.2.1))).trans (hHeld.2.2.2.2.2.1)
                 have HS6_:=(hb.cell (World.block_lt_of_cell? _ _ (hHeld.2.2.2.2.2.2.1))).trans (hHeld.2.2.2.2.2.2.1)
                 have HS7_:=(hb.cell (World.block_lt_of_cell? _ _ (hHeld.2.2.2.2.2.2.2.1))).trans (hHeld.2.2.2.2.2.2.2.1)
                 have HS8_:=(hb.cell (World.block_lt_of_cell? _ _ (hHeld.2.2.2.2.2.2.2.2.1))).trans (hHeld.2.2.2.2.2.2.2.2.1)
                 have HS9_:=(hb.cell (World.block_lt_of_cell? _ _ (hHeld.2.2.2.2.2.2.2.2.2.1))).trans (hHeld.2.2.2.2.2.2.2.2.2.1)
                 have HS10_:=(hb.cell (World.block_lt_of_cell? _ _ (hHeld.2.2.2.2.2.2.2.2.2.2.1))).trans (hHeld.2.2.2.2.2.2.2.2.2.2.1)
                 have HS11_:=(hb.cell (World.block_lt_of_cell? _ _ (hHeld.2.2.2.2.2.2.2.2.2.2.2.1))).trans (hHeld.2.2.2.2.2.2.2.2.2.2.2.1)
                 have HS12_:=(hb.cell (World.block_lt_of_cell? _ _ (hHeld.2.2.2.2.2.2.2.2.2.2.2.2.1))).trans (hHeld.2.2.2.2.2.2.2.2.2.2.2.2.1)
                 have HS13_:=(hb.cell (World.block_lt_of_cell? _ _ (hHeld.2.2.2.2.2.2.2.2.2.2.2.2.2.1))).trans (hHeld.2.2.2.2.2.2.2.2.2.2.2.2.2.1)
                 have HS14_:=(hb.cell (World.block_lt_of_cell? _ _ (hHeld.2.2.2.2.2.2.2.2.2.2.2.2.2.2.1))).trans (hHeld.2.2.2.2.2.2.2.2.2.2.2.2.2.2.1)
                 have HS15_:=(hb.cell (World.block_lt_of_cell? _ _ (hHeld.2.2.2.2.2.2.2.2.2.2.2.2.2.2.2))).trans (hHeld.2.2.2.2.2.2.2.2.2.2.2.2.2.2.2)
                 refine ⟨_,rfl,?_⟩
                 have n0_ := Aside0.mk (Kd.N_below (by (with_reducible repeat (first|apply Kd.N_alloc|apply Kd.N_drewN|apply Kd.N_drew)); exact HO_9.out) hb)
                 have n1_ := Aside0.mk (Kd.V_below (by (with_reducible repeat (first|apply Kd.V_alloc|apply Kd.V_drewN|apply Kd.V_drew)); exact HO_234003.out) hb)
                 have n2_ := Aside0.mk (Kd.V_below (by (with_reducible repeat (first|apply Kd.V_alloc|apply Kd.V_drewN|apply Kd.V_drew)); exact HO_235003.out) hb)
                 have n3_ := Aside0.mk (Kd.V_below (by (with_reducible repeat (first|apply Kd.V_alloc|apply Kd.V_drewN|apply Kd.V_drew)); exact HL267_3.out) hb)
                 have n4_ := Aside0.mk (Kd.V_below (by (with_reducible repeat (first|apply Kd.V_alloc|apply Kd.V_drewN|apply Kd.V_drew)); exact HL268_3.out) hb)
                 have n5_ := Aside0.mk (Kd.V_below (by (with_reducible repeat (first|apply Kd.V_alloc|apply Kd.V_drewN|apply Kd.V_drew)); exact HL271_3.out) hb)
                 have n6_ := Aside0.mk (Kd.V_below (by (with_reducible repeat (first|apply Kd.V_alloc|apply Kd.V_drewN|apply Kd.V_drew)); exact HL272_3.out) hb)
                 have n7_ := Aside0.mk (Kd.V_below (by (with_reducible repeat (first|apply Kd.V_alloc|apply Kd.V_drewN|apply Kd.V_drew)); exact HL275_3.out) hb)
                 have n8_ := Aside0.mk (Kd.V_below (by (with_reducible repeat (first|apply Kd.V_alloc|apply Kd.V_drewN|apply Kd.V_drew)); exact HL276_3.out) hb)
                 have n9_ := Aside0.mk (Kd.V_below (by (with_reducible repeat (first|apply Kd.V_alloc|apply Kd.V_drewN|apply Kd.V_drew)); exact HL278_3.out) hb)
                 have n10_ := Aside0.mk (Kd.V_below (by (with_reducible repeat (first|apply Kd.V_alloc|apply Kd.V_drewN|apply Kd.V_drew)); exact HL279_3.out) hb)
                 have n11_ := Aside0.mk (blk_below (g := gb233) (o := .cells #[.int .i64 a0_0,.int .i64 a0_1,.string a0_2,.slice A0_3 l0_3.length c0_3] 24 (0,0)) (by (with_reducible repeat (first|refine zN ?_ _|refine zD ?_|refine zA ?_ _)); exact BK233.out) hb)
                 have n12_ := Aside0.mk (blk_below (g := gb234) (o := .cells #[.int .i64 a1_0,.int .i64 a1_1,.string a1_2,.slice A1_3 l1_3.length c1_3] 24 (0,0)) (by (with_reducible repeat (first|refine zN ?_ _|refine zD ?_|refine zA ?_ _)); exact BK234.out) hb)
                 have n13_ := Aside0.mk (Kd.C_below (by repeat (first|(with_reducible exact HR267_3.out)|(with_reducible refine Kd.C_alloc ?_ _)|(with_reducible refine Kd.C_drewN ?_ _)|(with_reducible refine Kd.C_drew ?_)|exact HR267_3.out)) hb)
                 have n14_ := Aside0.mk (Kd.C_below (by repeat (first|(with_reducible exact HR268_3.out)|(with_reducible refine Kd.C_alloc ?_ _)|(with_reducible refine Kd.C_drewN ?_ _)|(with_reducible refine Kd.C_drew ?_)|exact HR268_3.out)) hb)
                 have n15_ := Aside0.mk (Kd.C_below (by repeat (first|(with_reducible exact HR271_3.out)|(with_reducible refine Kd.C_alloc ?_ _)|(with_reducible refine Kd.C_drewN ?_ _)|(with_reducible refine Kd.C_drew ?_)|exact HR271_3.out)) hb)
                 have n16_ := Aside0.mk (Kd.C_below (by repeat (first|(with_reducible exact HR272_3.out)|(with_reducible refine Kd.C_alloc ?_ _)|(with_reducible refine Kd.C_drewN ?_ _)|(with_reducible refine Kd.C_drew ?_)|exact HR272_3.out)) hb)
                 have n17_ := Aside0.mk (Kd.C_below (by repeat (first|(with_reducible exact HR275_3.out)|(with_reducible refine Kd.C_alloc ?_ _)|(with_reducible refine Kd.C_drewN ?_ _)|(with_reducible refine Kd.C_drew ?_)|exact HR275_3.out)) hb)
                 have n18_ := Aside0.mk (Kd.C_below (by repeat (first|(with_reducible exact HR276_3.out)|(with_reducible refine Kd.C_alloc ?_ _)|(with_reducible refine Kd.C_drewN ?_ _)|(with_reducible refine Kd.C_drew ?_)|exact HR276_3.out)) hb)
                 have n19_ := Aside0.mk (Kd.C_below (by repeat (first|(with_reducible exact HR278_3.out)|(with_reducible refine Kd.C_alloc ?_ _)|(with_reducible refine Kd.C_drewN ?_ _)|(with_reducible refine Kd.C_drew ?_)|exact HR278_3.out)) hb)
                 have n20_ := Aside0.mk (Kd.C_below (by repeat (first|(with_reducible exact HR279_3.out)|(with_reducible refine Kd.C_alloc ?_ _)|(with_reducible refine Kd.C_drewN ?_ _)|(with_reducible refine Kd.C_drew ?_)|exact HR279_3.out)) hb)
                 have n21_ := Aside0.mk (below_step (by repeat (first|(with_reducible first|exact HB.out|apply zE|apply zB|apply zC|refine zJ ?_ GE233.out|refine zJ ?_ GE234.out)|exact HB.out)) hb)
                 clear HO_9 HO_234003 HO_235003 HL267_3 HL268_3 HL271_3 HL272_3 HL275_3 HL276_3 HL278_3 HL279_3 BK233 BK234 HR267_3 HR268_3 HR271_3 HR272_3 HR275_3 HR276_3 HR278_3 HR279_3 HB; have HO_9 := n0_; have HO_234003 := n1_; have HO_235003 := n2_; have HL267_3 := n3_; have HL268_3 := n4_; have HL271_3 := n5_; have HL272_3 := n6_; have HL275_3 := n7_; have HL276_3 := n8_; have HL278_3 := n9_; have HL279_3 := n10_; have BK233 := n11_; have BK234 := n12_; have HR267_3 := n13_; have HR268_3 := n14_; have HR271_3 := n15_; have HR272_3 := n16_; have HR275_3 := n17_; have HR276_3 := n18_; have HR278_3 := n19_; have HR279_3 := n20_; have HB := n21_; clear n0_ n1_ n2_ n3_ n4_ n5_ n6_ n7_ n8_ n9_ n10_ n11_ n12_ n13_ n14_ n15_ n16_ n17_ n18_ n19_ n20_ n21_
                 (try clear hb)
                 (try clear hb2)
                 (try clear hk)
                 (try clear hi)
                 (try clear hge)
                 refine hK.out _ _ ⟨HS0_,HS1_,HS2_,HS3_,HS4_,HS5_,HS6_,HS7_,HS8_,HS9_,HS10_,HS11_,HS12_,HS13_,HS14_,HS15_⟩ (fun hHeld=>?_)
                 clear hK K
                 refine norm_ (a' := ?_) ?_ ?_
                 rotate_left
                 ·show Act.put _ (some 95) _ = _
                  simp only [Act.put,List.setIfInBounds_toArray,List.set_cons_zero,List.set_cons_succ,i64_w,i32_w]
                  rfl
                 refine one_ (i := 26) (N := some 104) #[true,true,true,true,true,true,true,true,true,true,true,true,true,true,true,true,true,true,true,true,true,true,true,true,true,true,true,false,false] rfl rfl (one_of HT_.out (by kernel_rfl)) (by decide) (fun K hK=>?_)
                 refine goes_ Tryz.func19 (by kernel_rfl) rfl #[.agg #[.int .i64 ((rd_T24 y264 x10_2).f0),.int .i64 ((rd_T24 y264 x10_2).f1),.string ((rd_T24 y264 x10_2).f2),.slice A275_3 ((rd_T24 y264 x10_2).f3).length c275_3],.agg #[.int .i64 ((rd_T24 y264 x11_3).f0),.int .i64 ((rd_T24 y264 x11_3).f1),.string ((rd_T24 y264 x11_3).f2),.slice A276_3 ((rd_T24 y264 x11_3).f3).length c276_3]] (by rfl) rfl rfl (by (try simp only [List.map_toArray,List.map_cons,List.map_nil]); first|done|rfl|(simp only [List.length_drop,List.length_take]; rfl)) ?_
                 with_reducible refine (flagstoneref3_Equal.calls k3 ((rd_T24 y264 x10_2).f0) ((rd_T24 y264 x10_2).f1) ((rd_T24 y264 x10_2).f2) _ _ ((rd_T24 y264 x10_2).f3) ((rd_T24 y264 x11_3).f0) ((rd_T24 y264 x11_3).f1) ((rd_T24 y264 x11_3).f2) _ _ ((rd_T24 y264 x11_3).f3) t280 _ ?side1 ?side2 ?side3 ?side4 A49.out).mono ?_
                 (case side1=>repeat (first|exact (by repeat (first|(with_reducible exact HR278_3.out)|(with_reducible refine Kd.C_alloc ?_ _)|(with_reducible refine Kd.C_drewN ?_ _)|(with_reducible refine Kd.C_drew ?_)|exact HR278_3.out))|(with_reducible refine Kd.C_alloc ?_ _)|(with_reducible refine Kd.C_drewN ?_ _)|(with_reducible refine Kd.C_drew ?_)))
                 (case side2=>exact HC278_3.out)
                 (case side3=>repeat (first|exact (by repeat (first|(with_reducible exact HR279_3.out)|(with_reducible refine Kd.C_alloc ?_ _)|(with_reducible refine Kd.C_drewN ?_ _)|(with_reducible refine Kd.C_drew ?_)|exact HR279_3.out))|(with_reducible refine Kd.C_alloc ?_ _)|(with_reducible refine Kd.C_drewN ?_ _)|(with_reducible refine Kd.C_drew ?_)))
                 (case side4=>exact HC279_3.out)
                 rintro e w64 ⟨rfl,hb⟩
                 have HS0_:=(hb.cell (World.block_lt_of_cell? _ _ (hHeld.1))).trans (hHeld.1)
                 have HS1_:=(hb.cell (World.block_lt_of_cell? _ _ (hHeld.2.1))).trans (hHeld.2.1)
                 have HS2_:=(hb.cell (World.block_lt_of_cell? _ _ (hHeld.2.2.1))).trans (hHeld.2.2.1)
                 have HS3_:=(hb.cell (World.block_lt_of_cell? _ _ (hHeld.2.2.2.1))).trans (hHeld.2.2.2.1)
                 have HS4_:=(hb.cell (World.block_lt_of_cell? _ _ (hHeld.2.2.2.2.1))).trans (hHeld.2.2.2.2.1)
                 have HS5_:=(hb.cell (World.block_lt_of_cell? _ _ (hHeld.2.2.2.2.2.1))).trans (hHeld.2.2.2.2.2.1)
                 have HS6_:=(hb.cell (World.block_lt_of_cell? _ _ (hHeld.2.2.2.2.2.2.1))).trans (hHeld.2.2.2.2.2.2.1)
                 have HS7_:=(hb.cell (World.block_lt_of_cell? _ _ (hHeld.2.2.2.2.2.2.2.1))).trans (hHeld.2.2.2.2.2.2.2.1)
                 have HS8_:=(hb.cell (World.block_lt_of_cell? _ _ (hHeld.2.2.2.2.2.2.2.2.1))).trans (hHeld.2.2.2.2.2.2.2.2.1)
                 have HS9_:=(hb.cell (World.block_lt_of_cell? _ _ (hHeld.2.2.2.2.2.2.2.2.2.1))).trans (hHeld.2.2.2.2.2.2.2.2.2.1)
                 have HS10_:=(hb.cell (World.block_lt_of_cell? _ _ (hHeld.2.2.2.2.2.2.2.2.2.2.1))).trans (hHeld.2.2.2.2.2.2.2.2.2.2.1)
                 have HS11_:=(hb.cell (World.block_lt_of_cell? _ _ (hHeld.2.2.2.2.2.2.2.2.2.2.2.1))).trans (hHeld.2.2.2.2.2.2.2.2.2.2.2.1)
                 have HS12_:=(hb.cell (World.block_lt_of_cell? _ _ (hHeld.2.2.2.2.2.2.2.2.2.2.2.2.1))).trans (hHeld.2.2.2.2.2.2.2.2.2.2.2.2.1)
                 have HS13_:=(hb.cell (World.block_lt_of_cell? _ _ (hHeld.2.2.2.2.2.2.2.2.2.2.2.2.2.1))).trans (hHeld.2.2.2.2.2.2.2.2.2.2.2.2.2.1)
                 have HS14_:=(hb.cell (World.block_lt_of_cell? _ _ (hHeld.2.2.2.2.2.2.2.2.2.2.2.2.2.2.1))).trans (hHeld.2.2.2.2.2.2.2.2.2.2.2.2.2.2.1)
                 have HS15_:=(hb.cell (World.block_lt_of_cell? _ _ (hHeld.2.2.2.2.2.2.2.2.2.2.2.2.2.2.2))).trans (hHeld.2.2.2.2.2.2.2.2.2.2.2.2.2.2.2)
                 refine ⟨_,rfl,?_⟩
                 have n0_ := Aside0.mk (Kd.N_below (by (with_reducible repeat (first|apply Kd.N_alloc|apply Kd.N_drewN|apply Kd.N_drew)); exact HO_9.out) hb)
                 have n1_ := Aside0.mk (Kd.V_below (by (with_reducible repeat (first|apply Kd.V_alloc|apply Kd.V_drewN|apply Kd.V_drew)); exact HO_234003.out) hb)
                 have n2_ := Aside0.mk (Kd.V_below (by (with_reducible repeat (first|apply Kd.V_alloc|apply Kd.V_drewN|apply Kd.V_drew)); exact HO_235003.out) hb)
                 have n3_ := Aside0.mk (Kd.V_below (by (with_reducible repeat (first|apply Kd.V_alloc|apply Kd.V_drewN|apply Kd.V_drew)); exact HL267_3.out) hb)
                 have n4_ := Aside0.mk (Kd.V_below (by (with_reducible repeat (first|apply Kd.V_alloc|apply Kd.V_drewN|apply Kd.V_drew)); exact HL268_3.out) hb)
                 have n5_ := Aside0.mk (Kd.V_below (by (with_reducible repeat (first|apply Kd.V_alloc|apply Kd.V_drewN|apply Kd.V_drew)); exact HL271_3.out) hb)
                 have n6_ := Aside0.mk (Kd.V_below (by (with_reducible repeat (first|apply Kd.V_alloc|apply Kd.V_drewN|apply Kd.V_drew)); exact HL272_3.out) hb)
                 have n7_ := Aside0.mk (Kd.V_below (by (with_reducible repeat (first|apply Kd.V_alloc|apply Kd.V_drewN|apply Kd.V_drew)); exact HL275_3.out) hb)
                 have n8_ := Aside0.mk (Kd.V_below (by (with_reducible repeat (first|apply Kd.V_alloc|apply Kd.V_drewN|apply Kd.V_drew)); exact HL276_3.out) hb)
                 have n9_ := Aside0.mk (Kd.V_below (by (with_reducible repeat (first|apply Kd.V_alloc|apply Kd.V_drewN|apply Kd.V_drew)); exact HL278_3.out) hb)
                 have n10_ := Aside0.mk (Kd.V_below (by (with_reducible repeat (first|apply Kd.V_alloc|apply Kd.V_drewN|apply Kd.V_drew)); exact HL279_3.out) hb)
                 have n11_ := Aside0.mk (blk_below (g := gb233) (o := .cells #[.int .i64 a0_0,.int .i64 a0_1,.string a0_2,.slice A0_3 l0_3.length c0_3] 24 (0,0)) (by (with_reducible repeat (first|refine zN ?_ _|refine zD ?_|refine zA ?_ _)); exact BK233.out) hb)
                 have n12_ := Aside0.mk (blk_below (g := gb234) (o := .cells #[.int .i64 a1_0,.int .i64 a1_1,.string a1_2,.slice A1_3 l1_3.length c1_3] 24 (0,0)) (by (with_reducible repeat (first|refine zN ?_ _|refine zD ?_|refine zA ?_ _)); exact BK234.out) hb)
                 have n13_ := Aside0.mk (Kd.C_below (by repeat (first|(with_reducible exact HR267_3.out)|(with_reducible refine Kd.C_alloc ?_ _)|(with_reducible refine Kd.C_drewN ?_ _)|(with_reducible refine Kd.C_drew ?_)|exact HR267_3.out)) hb)
                 have n14_ := Aside0.mk (Kd.C_below (by repeat (first|(with_reducible exact HR268_3.out)|(with_reducible refine Kd.C_alloc ?_ _)|(with_reducible refine Kd.C_drewN ?_ _)|(with_reducible refine Kd.C_drew ?_)|exact HR268_3.out)) hb)
                 have n15_ := Aside0.mk (Kd.C_below (by repeat (first|(with_reducible exact HR271_3.out)|(with_reducible refine Kd.C_alloc ?_ _)|(with_reducible refine Kd.C_drewN ?_ _)|(with_reducible refine Kd.C_drew ?_)|exact HR271_3.out)) hb)
                 have n16_ := Aside0.mk (Kd.C_below (by repeat (first|(with_reducible exact HR272_3.out)|(with_reducible refine Kd.C_alloc ?_ _)|(with_reducible refine Kd.C_drewN ?_ _)|(with_reducible refine Kd.C_drew ?_)|exact HR272_3.out)) hb)
                 have n17_ := Aside0.mk (Kd.C_below (by repeat (first|(with_reducible exact HR275_3.out)|(with_reducible refine Kd.C_alloc ?_ _)|(with_reducible refine Kd.C_drewN ?_ _)|(with_reducible refine Kd.C_drew ?_)|exact HR275_3.out)) hb)
                 have n18_ := Aside0.mk (Kd.C_below (by repeat (first|(with_reducible exact HR276_3.out)|(with_reducible refine Kd.C_alloc ?_ _)|(with_reducible refine Kd.C_drewN ?_ _)|(with_reducible refine Kd.C_drew ?_)|exact HR276_3.out)) hb)
                 have n19_ := Aside0.mk (Kd.C_below (by repeat (first|(with_reducible exact HR278_3.out)|(with_reducible refine Kd.C_alloc ?_ _)|(with_reducible refine Kd.C_drewN ?_ _)|(with_reducible refine Kd.C_drew ?_)|exact HR278_3.out)) hb)
                 have n20_ := Aside0.mk (Kd.C_below (by repeat (first|(with_reducible exact HR279_3.out)|(with_reducible refine Kd.C_alloc ?_ _)|(with_reducible refine Kd.C_drewN ?_ _)|(with_reducible refine Kd.C_drew ?_)|exact HR279_3.out)) hb)
                 have n21_ := Aside0.mk (below_step (by repeat (first|(with_reducible first|exact HB.out|apply zE|apply zB|apply zC|refine zJ ?_ GE233.out|refine zJ ?_ GE234.out)|exact HB.out)) hb)
                 clear HO_9 HO_234003 HO_235003 HL267_3 HL268_3 HL271_3 HL272_3 HL275_3 HL276_3 HL278_3 HL279_3 BK233 BK234 HR267_3 HR268_3 HR271_3 HR272_3 HR275_3 HR276_3 HR278_3 HR279_3 HB; have HO_9 := n0_; have HO_234003 := n1_; have HO_235003 := n2_; have HL267_3 := n3_; have HL268_3 := n4_; have HL271_3 := n5_; have HL272_3 := n6_; have HL275_3 := n7_; have HL276_3 := n8_; have HL278_3 := n9_; have HL279_3 := n10_; have BK233 := n11_; have BK234 := n12_; have HR267_3 := n13_; have HR268_3 := n14_; have HR271_3 := n15_; have HR272_3 := n16_; have HR275_3 := n17_; have HR276_3 := n18_; have HR278_3 := n19_; have HR279_3 := n20_; have HB := n21_; clear n0_ n1_ n2_ n3_ n4_ n5_ n6_ n7_ n8_ n9_ n10_ n11_ n12_ n13_ n14_ n15_ n16_ n17_ n18_ n19_ n20_ n21_
                 (try clear hb)
                 (try clear hb2)
                 (try clear hk)
                 (try clear hi)
                 (try clear hge)
                 refine hK.out _ _ ⟨HS0_,HS1_,HS2_,HS3_,HS4_,HS5_,HS6_,HS7_,HS8_,HS9_,HS10_,HS11_,HS12_,HS13_,HS14_,HS15_⟩ (fun hHeld=>?_)
                 clear hK K
                 refine norm_ (a' := ?_) ?_ ?_
                 rotate_left
                 ·show Act.put _ (some 104) _ = _
                  simp only [Act.put,List.setIfInBounds_toArray,List.set_cons_zero,List.set_cons_succ,i64_w,i32_w]
                  rfl
                 refine pure_ (i := 27) (N := some 105) (v := ?_) (a' := ?_) #[true,true,true,true,true,true,true,true,true,true,true,true,true,true,true,true,true,true,true,true,true,true,true,true,true,true,true,true,false] rfl rfl (any_of HT_.out (by kernel_rfl)) (fun _ _ _ h=>h) (Or.inl ⟨by rfl,?_⟩) ?_ ?_
                 rotate_left
                 ·intro w'
                  go_simp
                  with_reducible rfl
                 rotate_left
                 ·simp only [Act.put,List.setIfInBounds_toArray,List.set_cons_zero,List.set_cons_succ,i64_w,i32_w]
                  rfl
                 refine pure_ (i := 28) (N := some 106) (v := ?_) (a' := ?_) #[true,true,true,true,true,true,true,true,true,true,true,true,true,true,true,true,true,true,true,true,true,true,true,true,true,true,true,true,true] rfl rfl (any_of HT_.out (by kernel_rfl)) (fun _ _ _ h=>h) (Or.inl ⟨by rfl,?_⟩) ?_ ?_
                 rotate_left
                 ·intro w'
                  go_simp
                  with_reducible rfl
                 rotate_left
                 ·simp only [Act.put,List.setIfInBounds_toArray,List.set_cons_zero,List.set_cons_succ,i64_w,i32_w]
                  rfl
                 refine done_ (done_of HT_.out (by kernel_rfl)) ?_
                 try go_wp2
                 go_roundg k3
                 case measure=>have := HJ5.out; have := HK2.out; have := HK3.out; omega
                 case rel=>exact ⟨(wrap64 (x11_3 + 1)),(by first|rfl|(simp; done)|(simp [*]; done)),H',⟨by have := HJ5.out; have := HK2.out; have := HK3.out; omega⟩,⟨by (with_reducible repeat (first|apply Kd.N_alloc|apply Kd.N_drewN|apply Kd.N_drew)); exact HO_9.out⟩,⟨by (with_reducible repeat (first|apply Kd.V_alloc|apply Kd.V_drewN|apply Kd.V_drew)); exact HO_234003.out⟩,⟨by (with_reducible repeat (first|apply Kd.V_alloc|apply Kd.V_drewN|apply Kd.V_drew)); exact HO_235003.out⟩,⟨by (with_reducible repeat (first|refine zN ?_ _|refine zD ?_|refine zA ?_ _)); exact BK233.out⟩,⟨by (with_reducible repeat (first|refine zN ?_ _|refine zD ?_|refine zA ?_ _)); exact BK234.out⟩,⟨by repeat (first|(with_reducible first|exact HB.out|apply zE|apply zB|apply zC|refine zJ ?_ GE233.out|refine zJ ?_ GE234.out)|exact HB.out)⟩⟩
               ·rw [if_neg c47] at H
                exact absurd (Option.some.inj H) (by rw [hrt]; decide)
              ·rw [if_neg c46] at H
               exact absurd (Option.some.inj H) (by rw [hrt]; decide)
             ·rw [if_neg c43] at H
              exact absurd H (by simp)
            ·rw [if_neg c42] at H
             exact absurd H (by simp)
           ·rw [if_neg c41] at H
            exact absurd H (by simp)
          ·rw [if_neg c40] at H
           have c40b0 : decide (x11_3 < (y264.length : Int)) = false := decide_eq_false c40
           clear c40; have H' := Aside0.mk H; clear H
           go_wp2
           go_roundg k3
           case measure=>have := HJ5.out; have := HK2.out; have := HK3.out; omega
           case rel=>exact ⟨(wrap64 (x10_2 + 1)),(by first|rfl|(simp; done)|(simp [*]; done)),H',⟨by have := HJ5.out; have := HK2.out; have := HK3.out; omega⟩,⟨by (with_reducible repeat (first|apply Kd.N_alloc|apply Kd.N_drewN|apply Kd.N_drew)); exact HO_9.out⟩,⟨by (with_reducible repeat (first|apply Kd.V_alloc|apply Kd.V_drewN|apply Kd.V_drew)); exact HO_234003.out⟩,⟨by (with_reducible repeat (first|apply Kd.V_alloc|apply Kd.V_drewN|apply Kd.V_drew)); exact HO_235003.out⟩,⟨by (with_reducible repeat (first|refine zN ?_ _|refine zD ?_|refine zA ?_ _)); exact BK233.out⟩,⟨by (with_reducible repeat (first|refine zN ?_ _|refine zD ?_|refine zA ?_ _)); exact BK234.out⟩,⟨by repeat (first|(with_reducible first|exact HB.out|apply zE|apply zB|apply zC|refine zJ ?_ GE233.out|refine zJ ?_ GE234.out)|exact HB.out)⟩⟩
       ·rw [if_neg c38] at H
        have c38b0 : decide (x10_2 < (y264.length : Int)) = false := decide_eq_false c38
        clear c38
        obtain rfl := Option.some.inj H
        obtain ⟨Ao75,co75,eo75⟩ := Kd.N_slice HO_9.out
        subst eo75
        go_wp2
        go_ret
        exact ⟨by first|rfl|(simp [errW_none,errW_some]<;>rfl)|(simp [*,errW_none,errW_some]<;>rfl),by repeat (first|(with_reducible first|exact HB.out|apply zE|apply zB|apply zC|refine zJ ?_ GE233.out|refine zJ ?_ GE234.out)|exact HB.out)⟩
 ·replace c5 := Bool.eq_false_iff.mpr c5
  subst c5
  have H1 : (some false) = some r := by rw [if_neg (show ¬ (false = true) by decide)] at H; exact H
  clear H; have H := H1; clear H1
  obtain rfl := Option.some.inj H
  go_enter Tryz.func6,Tryz.ntmps6
  go_wp2_with (first|((with_reducible refine gate_dst (N := 3) rfl ?_); refine box_event ?hg (N := 3) ?hd (cs := #[.int .i64 a0_0,.int .i64 a0_1,.string a0_2,.slice A0_3 l0_3.length c0_3]) (t := 24) ?hr ?_;(case hd=>rfl);(case hg=>rfl);(case hr=>first|(go_simp; done)|(go_simp; rfl)); intro gb233 hg w76 hbox hb; have n0_ := Aside0.mk (Kd.V_below (Kd.V_elderB (by (with_reducible repeat (first|apply Kd.V_alloc|apply Kd.V_drewN|apply Kd.V_drew)); exact HO0_3.out) gb233 (Nat.le_of_eq hg.symm)) hb); have n1_ := Aside0.mk (Kd.V_below (Kd.V_elderB (by (with_reducible repeat (first|apply Kd.V_alloc|apply Kd.V_drewN|apply Kd.V_drew)); exact HO1_3.out) gb233 (Nat.le_of_eq hg.symm)) hb); have n2_ := Aside0.mk (below_step (by repeat (first|(with_reducible first|exact HB.out|apply zE|apply zB|apply zC)|exact HB.out)) hb); have n3_ := Aside0.mk (hbox); have n4_ := Aside0.mk ((by rw [hg]; exact (below_size (by repeat (first|(with_reducible first|exact HB.out|apply zE|apply zB|apply zC)|exact HB.out))) : w.heap.size ≤ gb233)); have n5_ := Aside0.mk ((by rw [hg]; exact (below_size (by repeat (first|(with_reducible first|exact HB.out|apply zE|apply zB|apply zC)|exact HB.out))) : w.heap.size ≤ gb233)); clear HO0_3 HO1_3 HB; have HO0_3 := n0_; have HO1_3 := n1_; have HB := n2_; have BK233 := n3_; have GW233 := n4_; have GE233 := n5_; clear n0_ n1_ n2_ n3_ n4_ n5_ hb hbox hg)|((with_reducible refine gate_dst (N := 4) rfl ?_); refine box_event ?hg (N := 4) ?hd (cs := #[.int .i64 a1_0,.int .i64 a1_1,.string a1_2,.slice A1_3 l1_3.length c1_3]) (t := 24) ?hr ?_;(case hd=>rfl);(case hg=>rfl);(case hr=>first|(go_simp; done)|(go_simp; rfl)); intro gb234 hg w77 hbox hb; have n0_ := Aside0.mk (Kd.V_below (Kd.V_elderB (by (with_reducible repeat (first|apply Kd.V_alloc|apply Kd.V_drewN|apply Kd.V_drew)); exact HO0_3.out) gb234 (Nat.le_of_eq hg.symm)) hb); have n1_ := Aside0.mk (Kd.V_below (Kd.V_elderB (by (with_reducible repeat (first|apply Kd.V_alloc|apply Kd.V_drewN|apply Kd.V_drew)); exact HO1_3.out) gb234 (Nat.le_of_eq hg.symm)) hb); have n2_ := Aside0.mk (blk_below (g := gb233) (o := .cells #[.int .i64 a0_0,.int .i64 a0_1,.string a0_2,.slice A0_3 l0_3.length c0_3] 24 (0,0)) (by (with_reducible repeat (first|refine zN ?_ _|refine zD ?_|refine zA ?_ _)); exact BK233.out) hb); have n3_ := Aside0.mk (below_step (by repeat (first|(with_reducible first|exact HB.out|apply zE|apply zB|apply zC|refine zJ ?_ GE233.out)|exact HB.out)) hb); have n4_ := Aside0.mk (hbox); have n5_ := Aside0.mk ((by rw [hg]; exact (below_size (by repeat (first|(with_reducible first|exact HB.out|apply zE|apply zB|apply zC|refine zJ ?_ GE233.out)|exact HB.out))) : w.heap.size ≤ gb234)); have n6_ := Aside0.mk ((by rw [hg]; exact (below_size (by repeat (first|(with_reducible first|exact HB.out|apply zE|apply zB|apply zC|refine zJ ?_ GE233.out)|exact HB.out))) : w.heap.size ≤ gb234)); have n7_ := Aside0.mk ((by rw [hg]; exact Nat.ne_of_lt (blk_lt (g := gb233) (o := .cells #[.int .i64 a0_0,.int .i64 a0_1,.string a0_2,.slice A0_3 l0_3.length c0_3] 24 (0,0)) (by (with_reducible repeat (first|refine zN ?_ _|refine zD ?_|refine zA ?_ _)); exact BK233.out)) : gb233 ≠ gb234)); have n8_ := Aside0.mk ((by rw [hg]; exact Nat.ne_of_gt (blk_lt (g := gb233) (o := .cells #[.int .i64 a0_0,.int .i64 a0_1,.string a0_2,.slice A0_3 l0_3.length c0_3] 24 (0,0)) (by (with_reducible repeat (first|refine zN ?_ _|refine zD ?_|refine zA ?_ _)); exact BK233.out)) : gb234 ≠ gb233)); clear HO0_3 HO1_3 BK233 HB; have HO0_3 := n0_; have HO1_3 := n1_; have BK233 := n2_; have HB := n3_; have BK234 := n4_; have GW234 := n5_; have GE234 := n6_; have NB233_234 := n7_; have NB234_233 := n8_; clear n0_ n1_ n2_ n3_ n4_ n5_ n6_ n7_ n8_ hb hbox hg)|((with_reducible refine gate_callee (f := 7) rfl ?_); refine goesL_ (some 16) rfl rfl Tryz.func7 (by kernel_rfl) rfl #[] rfl (by (try simp only [List.map_toArray,List.map_cons,List.map_nil]); first|done|rfl|(simp only [List.length_drop,List.length_take]; rfl)) ?_;(with_reducible refine (flagstonelaw3_awake.calls k  false _ ?side1 A4.out).mono ?_);(case side1=>exact GL.below HGL.out (by repeat (first|(with_reducible first|exact HB.out|apply zE|apply zB|apply zC|refine zJ ?_ GE233.out|refine zJ ?_ GE234.out)|exact HB.out))); rintro e w78 ⟨rfl,hb⟩; refine ⟨_,rfl,?_⟩; have n0_ := Aside0.mk (Kd.V_below (by (with_reducible repeat (first|apply Kd.V_alloc|apply Kd.V_drewN|apply Kd.V_drew)); exact HO0_3.out) hb); have n1_ := Aside0.mk (Kd.V_below (by (with_reducible repeat (first|apply Kd.V_alloc|apply Kd.V_drewN|apply Kd.V_drew)); exact HO1_3.out) hb); have n2_ := Aside0.mk (blk_below (g := gb233) (o := .cells #[.int .i64 a0_0,.int .i64 a0_1,.string a0_2,.slice A0_3 l0_3.length c0_3] 24 (0,0)) (by (with_reducible repeat (first|refine zN ?_ _|refine zD ?_|refine zA ?_ _)); exact BK233.out) hb); have n3_ := Aside0.mk (blk_below (g := gb234) (o := .cells #[.int .i64 a1_0,.int .i64 a1_1,.string a1_2,.slice A1_3 l1_3.length c1_3] 24 (0,0)) (by (with_reducible repeat (first|refine zN ?_ _|refine zD ?_|refine zA ?_ _)); exact BK234.out) hb); have n4_ := Aside0.mk (below_step (by repeat (first|(with_reducible first|exact HB.out|apply zE|apply zB|apply zC|refine zJ ?_ GE233.out|refine zJ ?_ GE234.out)|exact HB.out)) hb); clear HO0_3 HO1_3 BK233 BK234 HB; have HO0_3 := n0_; have HO1_3 := n1_; have BK233 := n2_; have BK234 := n3_; have HB := n4_; clear n0_ n1_ n2_ n3_ n4_;(try clear hb);(try clear hb2);(try clear hk);(try clear hi);(try clear hge)))
  go_ret
  exact ⟨by first|rfl|(simp [errW_none,errW_some]<;>rfl)|(simp [*,errW_none,errW_some]<;>rfl),by repeat (first|(with_reducible first|exact HB.out|apply zE|apply zB|apply zC|refine zJ ?_ GE233.out|refine zJ ?_ GE234.out)|exact HB.out)⟩

end Go.Proofs.YtannjakcnnefhaaGreatDoor.U
