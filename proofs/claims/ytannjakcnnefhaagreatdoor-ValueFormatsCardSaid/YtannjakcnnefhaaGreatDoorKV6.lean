import Derived.Test.YtannjakcnnefhaaGreatDoorKV0
import Derived.Test.YtannjakcnnefhaaGreatDoorKV1
import Derived.Test.YtannjakcnnefhaaGreatDoorKV5
-- printed by wip/hp.py (the session's driver of the print, with hand-proved contracts)
namespace Go.Proofs.YtannjakcnnefhaaGreatDoor.V
open Go.RowKit Go.Proofs.YtannjakcnnefhaaGreatDoorW.PrintWords Go.Proofs.YtannjakcnnefhaaGreatDoorW.PrintLast Go.Proofs.YtannjakcnnefhaaGreatDoorW.PrintMore
attribute [local go_sem] max2_int min2_int max_two min_two max_three min_three max_four min_four   -- for this text's walks alone
set_option linter.unusedVariables false
set_option linter.unusedSimpArgs false

/-! ### flagstoneref1_Valid: function 31 -/
mutual
def flagstoneref1_Valid.j0 : Nat → ByteArray → Bool → Option (Bool)
 | 0,_,_=>none
 | k + 1,x0,x11=>if x11 = true then (some false) else (flagstoneref1_Valid.l0 k x0 0)
def flagstoneref1_Valid.l0 : Nat → ByteArray → Int → Option (Bool)
 | 0,_,_=>none
 | k + 1,x0,x3=>if x3 < (x0.size : Int) then (if 0 ≤ x3 then (if (bt x0 x3) < 32 then (some false) else (if (bt x0 x3) = 127 then (some false) else (flagstoneref1_Valid.l0 k x0 (wrap64 (x3 + 1))))) else (none)) else (some true)
end
def flagstoneref1_Valid.f (k : Nat) (a0 : ByteArray) : Option (Bool) := if (a0.size : Int) > 200 then (flagstoneref1_Valid.j0 k a0 true) else ((utf8_ValidString.f a0).bind fun t209 => (flagstoneref1_Valid.j0 k a0 (!t209)))
theorem flagstoneref1_Valid.mono_l : ∀ k, (∀ y0 y1, LeO (flagstoneref1_Valid.j0 k y0 y1) (flagstoneref1_Valid.j0 (k + 1) y0 y1)) ∧ (∀ y0 y1, LeO (flagstoneref1_Valid.l0 k y0 y1) (flagstoneref1_Valid.l0 (k + 1) y0 y1))
 | 0=>⟨fun _ _ r h=>by simp [flagstoneref1_Valid.j0] at h,fun _ _ r h=>by simp [flagstoneref1_Valid.l0] at h⟩
 | k + 1=>by
  obtain ⟨ih0,ih1⟩ := flagstoneref1_Valid.mono_l k
  refine ⟨?_,?_⟩
  ·intro y0 y1
   unfold flagstoneref1_Valid.j0
   repeat' first
   | (with_reducible exact ih0 _ _)
   | (with_reducible exact ih1 _ _)
   | (with_reducible exact LeO.refl _)
   | (with_reducible exact LeO.none _)
   | (with_reducible refine LeO.ite ?_ ?_)
   | (with_reducible refine LeO.bind ?_ (fun _=>?_))
   | exact ih0 _ _
   | exact ih1 _ _
   | exact LeO.none _
   | refine LeO.ite ?_ ?_
   | refine LeO.bind ?_ (fun _=>?_)
  ·intro y0 y1
   unfold flagstoneref1_Valid.l0
   repeat' first
   | (with_reducible exact ih0 _ _)
   | (with_reducible exact ih1 _ _)
   | (with_reducible exact LeO.refl _)
   | (with_reducible exact LeO.none _)
   | (with_reducible refine LeO.ite ?_ ?_)
   | (with_reducible refine LeO.bind ?_ (fun _=>?_))
   | exact ih0 _ _
   | exact ih1 _ _
   | exact LeO.none _
   | refine LeO.ite ?_ ?_
   | refine LeO.bind ?_ (fun _=>?_)
theorem flagstoneref1_Valid.mono : ∀ a0 k, LeO (flagstoneref1_Valid.f k a0) (flagstoneref1_Valid.f (k + 1) a0) := by
 intro a0 k
 obtain ⟨ih0,ih1⟩ := flagstoneref1_Valid.mono_l k
 unfold flagstoneref1_Valid.f
 repeat' first
   | (with_reducible exact ih0 _ _)
   | (with_reducible exact ih1 _ _)
   | (with_reducible exact LeO.refl _)
   | (with_reducible exact LeO.none _)
   | (with_reducible refine LeO.ite ?_ ?_)
   | (with_reducible refine LeO.bind ?_ (fun _=>?_))
   | exact ih0 _ _
   | exact ih1 _ _
   | exact LeO.none _
   | refine LeO.ite ?_ ?_
   | refine LeO.bind ?_ (fun _=>?_)
set_option maxHeartbeats 8000000 in
set_option maxRecDepth 100000 in
theorem flagstoneref1_Valid.calls (k : Nat) (a0 : ByteArray) (r : Bool) (w : World) (hGL : GL w) (h : flagstoneref1_Valid.f k a0 = some r) :
  Calls Tryz.prog 31 #[.string a0] w fun e w'=>e = .returned (.bool r) ∧ Below w.heap.size w w' := by
 have HGL := Aside0.mk hGL; clear hGL
 have HB := Aside0.mk (Below.refl w.heap.size w)
 have H : (if (a0.size : Int) > 200 then (flagstoneref1_Valid.j0 k a0 true) else ((utf8_ValidString.f a0).bind fun t209=>(flagstoneref1_Valid.j0 k a0 (!t209)))) = some r := h
 clear h; have HC2 := Aside0.mk H; clear H
 go_enter Tryz.func31,Tryz.ntmps31
 go_upto_region 1 with (fail)
 go_cut [11] (fun v11 wc=>∃ (kq : Nat) (x11_1 : Bool),v11 = .bool x11_1 ∧ Aside0 (flagstoneref1_Valid.j0 kq a0 x11_1 = some r) ∧ Aside0 (kq ≤ k) ∧ Aside0 (Below w.heap.size w wc))
 case first =>
  have H := HC2.out; clear HC2
  by_cases c3 : (a0.size : Int) > 200
  ·rw [if_pos c3] at H
   have c3b0 : decide (200 < (a0.size : Int)) = true := decide_eq_true c3
   have c3b1 : decide (200 < a0.size) = true := decide_eq_true (by omega)
   clear c3
   (first|rw [c3b0]|(simp only [i64_w,i32_w]; rw [c3b0])|skip)
   have H' := Aside0.mk H; clear H
   go_wp2
   go_meet
   case rel=>exact ⟨_,(true),(by first|rfl|(simp; done)|(simp [*]; done)),H',⟨by first|omega|exact Nat.le_refl _⟩,⟨by repeat (first|(with_reducible first|exact HB.out|apply zE|apply zB|apply zC)|exact HB.out)⟩⟩
  ·rw [if_neg c3] at H
   have c3b0 : decide (200 < (a0.size : Int)) = false := decide_eq_false c3
   have c3b1 : decide (200 < a0.size) = false := decide_eq_false (by omega)
   clear c3
   (first|rw [c3b0]|(simp only [i64_w,i32_w]; rw [c3b0])|skip)
   replace H := Option.bind_eq_some_iff.mp H; obtain ⟨t209,A40,H⟩ := H
   replace H : (flagstoneref1_Valid.j0 k a0 (!t209)) = some r := H
   have A4 := Aside0.mk A40; clear A40; have H' := Aside0.mk H; clear H
   go_wp2_with (first|(go_at_call 49;(with_reducible refine (utf8_ValidString.calls a0 t209 _ ?side1 A4.out).mono ?_);(case side1=>exact GL.below HGL.out (by repeat (first|(with_reducible first|exact HB.out|apply zE|apply zB|apply zC)|exact HB.out))); rintro e w5 ⟨rfl,hb⟩; have n0_ := Aside0.mk (below_step (by repeat (first|(with_reducible first|exact HB.out|apply zE|apply zB|apply zC)|exact HB.out)) hb); clear HB; have HB := n0_; clear n0_;(try clear hb);(try clear hb2);(try clear hk);(try clear hi);(try clear hge)))
   go_meet
   case rel=>exact ⟨_,(!t209),(by first|rfl|(simp; done)|(simp [*]; done)),H',⟨by first|omega|exact Nat.le_refl _⟩,⟨by repeat (first|(with_reducible first|exact HB.out|apply zE|apply zB|apply zC)|exact HB.out)⟩⟩
 case rest =>
  clear HC2;(try clear p2);(try clear c3);(try clear c3b0);(try clear c3b1)
  obtain ⟨kq,x11_1,rfl,HA,HJ1,HB⟩ := hcut
  cases kq with
  | zero=>exact absurd HA.out (by simp [flagstoneref1_Valid.j0])
  | succ kj1 =>
   have H := HA.out; clear HA
   simp only [flagstoneref1_Valid.j0] at H
   by_cases c6 : x11_1 = true
   ·subst c6
    have H1 : (some false) = some r := by rw [if_pos rfl] at H; exact H
    clear H; have H := H1; clear H1
    obtain rfl := Option.some.inj H
    go_wp2
    go_ret
    exact ⟨by first|rfl|(simp [errW_none,errW_some]<;>rfl)|(simp [*,errW_none,errW_some]<;>rfl),by repeat (first|(with_reducible first|exact HB.out|apply zE|apply zB|apply zC)|exact HB.out)⟩
   ·replace c6 := Bool.eq_false_iff.mpr c6
    subst c6
    have H1 : (flagstoneref1_Valid.l0 kj1 a0 0) = some r := by rw [if_neg (show ¬ (false = true) by decide)] at H; exact H
    clear H; have H := H1; clear H1; have H' := Aside0.mk H; clear H
    go_wp2
    go_loopg [3] kj1 (fun kq v3 w'=>∃ (x3_2 : Int),v3 = .int .i64 x3_2 ∧ Aside0 (flagstoneref1_Valid.l0 kq a0 x3_2 = some r) ∧ Aside0 (kq ≤ kj1) ∧ Aside0 (Below w.heap.size w w'))
    case atStart=>exact ⟨(0),(by first|rfl|(simp; done)|(simp [*]; done)),H',⟨Nat.le_refl _⟩,⟨by repeat (first|(with_reducible first|exact HB.out|apply zE|apply zB|apply zC)|exact HB.out)⟩⟩
    case round =>
     clear H';(try clear p2);(try clear c3);(try clear c3b0);(try clear c3b1);(try clear c6);(try clear p2)
     obtain ⟨x3_2,rfl,HA,HK2,HB⟩ := hrel
     cases gk with
     | zero=>exact absurd HA.out (by simp [flagstoneref1_Valid.l0])
     | succ k2 =>
      have H := HA.out; clear HA
      simp only [flagstoneref1_Valid.l0] at H
      by_cases c7 : x3_2 < (a0.size : Int)
      ·rw [if_pos c7] at H
       have c7b0 : decide (x3_2 < (a0.size : Int)) = true := decide_eq_true c7
       clear c7
       by_cases c8 : 0 ≤ x3_2
       ·rw [if_pos c8] at H
        have c8b0 : decide (0 ≤ x3_2) = true := decide_eq_true c8
        clear c8
        by_cases c10 : (bt a0 x3_2) < 32
        ·rw [if_pos c10] at H
         have c10b0 : decide ((bt a0 x3_2) < 32) = true := decide_eq_true c10
         clear c10
         obtain rfl := Option.some.inj H
         have p9 : 0 ≤ (x3_2 : Int) := of_decide_eq_true (by first|(with_reducible assumption)|assumption)
         have q9 : x3_2 < (a0.size : Int) := of_decide_eq_true (by first|(with_reducible assumption)|assumption)
         have hx9 := bt_at a0 x3_2
         replace p9 := eq_true p9
         replace q9 := eq_true q9
         go_wp2
         go_ret
         exact ⟨by first|rfl|(simp [errW_none,errW_some]<;>rfl)|(simp [*,errW_none,errW_some]<;>rfl),by repeat (first|(with_reducible first|exact HB.out|apply zE|apply zB|apply zC)|exact HB.out)⟩
        ·rw [if_neg c10] at H
         have c10b0 : decide ((bt a0 x3_2) < 32) = false := decide_eq_false c10
         clear c10
         by_cases c12 : (bt a0 x3_2) = 127
         ·rw [if_pos c12] at H
          have c12b0 : ((bt a0 x3_2) == 127) = true := beq_iff_eq.mpr c12
          have c12b1 : ((bt a0 x3_2) != 127) = false := bne_eq_false_iff_eq.mpr c12
          clear c12
          obtain rfl := Option.some.inj H
          have p9 : 0 ≤ (x3_2 : Int) := of_decide_eq_true (by first|(with_reducible assumption)|assumption)
          have q9 : x3_2 < (a0.size : Int) := of_decide_eq_true (by first|(with_reducible assumption)|assumption)
          have hx9 := bt_at a0 x3_2
          replace p9 := eq_true p9
          replace q9 := eq_true q9
          have p11 : 0 ≤ (x3_2 : Int) := of_decide_eq_true (by first|(with_reducible assumption)|assumption)
          have q11 : x3_2 < (a0.size : Int) := of_decide_eq_true (by first|(with_reducible assumption)|assumption)
          have hx11 := bt_at a0 x3_2
          replace p11 := eq_true p11
          replace q11 := eq_true q11
          go_wp2
          go_ret
          exact ⟨by first|rfl|(simp [errW_none,errW_some]<;>rfl)|(simp [*,errW_none,errW_some]<;>rfl),by repeat (first|(with_reducible first|exact HB.out|apply zE|apply zB|apply zC)|exact HB.out)⟩
         ·rw [if_neg c12] at H
          have c12b0 : ((bt a0 x3_2) == 127) = false := beq_eq_false_iff_ne.mpr c12
          have c12b1 : ((bt a0 x3_2) != 127) = true := bne_iff_ne.mpr c12
          have H' := Aside0.mk H; clear H
          have p9 : 0 ≤ (x3_2 : Int) := of_decide_eq_true (by first|(with_reducible assumption)|assumption)
          have q9 : x3_2 < (a0.size : Int) := of_decide_eq_true (by first|(with_reducible assumption)|assumption)
          have hx9 := bt_at a0 x3_2
          replace p9 := eq_true p9
          replace q9 := eq_true q9
          have p11 : 0 ≤ (x3_2 : Int) := of_decide_eq_true (by first|(with_reducible assumption)|assumption)
          have q11 : x3_2 < (a0.size : Int) := of_decide_eq_true (by first|(with_reducible assumption)|assumption)
          have hx11 := bt_at a0 x3_2
          replace p11 := eq_true p11
          replace q11 := eq_true q11
          go_wp2
          go_roundg k2
          case measure=>have := HJ1.out; have := HK2.out; omega
          case rel=>exact ⟨(wrap64 (x3_2 + 1)),(by first|rfl|(simp; done)|(simp [*]; done)),H',⟨by have := HJ1.out; have := HK2.out; omega⟩,⟨by repeat (first|(with_reducible first|exact HB.out|apply zE|apply zB|apply zC)|exact HB.out)⟩⟩
       ·rw [if_neg c8] at H
        exact absurd H (by simp)
      ·rw [if_neg c7] at H
       have c7b0 : decide (x3_2 < (a0.size : Int)) = false := decide_eq_false c7
       clear c7
       obtain rfl := Option.some.inj H
       go_wp2
       go_ret
       exact ⟨by first|rfl|(simp [errW_none,errW_some]<;>rfl)|(simp [*,errW_none,errW_some]<;>rfl),by repeat (first|(with_reducible first|exact HB.out|apply zE|apply zB|apply zC)|exact HB.out)⟩

/-! ### flagstoneref3_parts: function 32 -/
def flagstoneref3_parts.f (a0 : ByteArray) : Option (Int × Int × Int × Bool) := if a0.size ≤ 9223372036854775800 then some (partsR (parts3 (dots a0))) else none
theorem flagstoneref3_parts.calls (a0 : ByteArray) (r1 r2 r3 : Int) (r4 : Bool) (w : World) (h : flagstoneref3_parts.f a0 = some (r1, r2, r3, r4)) :
  Calls Tryz.prog 32 #[.string a0] w fun e w'=>e = .returned (.tuple #[.agg #[.int .i64 r1,.int .i64 r2,.int .i64 r3],.bool r4]) ∧ Below w.heap.size w w' := by
 unfold flagstoneref3_parts.f at h
 split at h
 ·rename_i hb
  refine (ref_parts_any a0 w hb).mono fun e w' he=>⟨?_,he.2⟩
  rw [he.1,partsV_R,Option.some.inj h]
 ·cases h

/-! ### flagstoneref3_list: function 33 -/
mutual
def flagstoneref3_list.l0 : Nat → List ByteArray → Int → Option (Int)
 | 0,_,_=>none
 | k + 1,x0,x3=>if x3 < (x0.length : Int) then (if 0 ≤ x3 then ((flagstoneref1_Valid.f k (rdOf ByteArray.empty x0 x3)).bind fun t211=>(if t211 = true then (flagstoneref3_list.l0 k x0 (wrap64 (x3 + 1))) else (some 2))) else (none)) else (flagstoneref3_list.l1 k x0 1)
def flagstoneref3_list.l1 : Nat → List ByteArray → Int → Option (Int)
 | 0,_,_=>none
 | k + 1,x0,x4=>if x4 < (x0.length : Int) then (if 0 ≤ x4 then (if 0 ≤ (wrap64 (x4 - 1)) then (if (wrap64 (x4 - 1)) < (x0.length : Int) then (if ((Op.bytesLess ((rdOf ByteArray.empty x0 (wrap64 (x4 - 1))).toList) ((rdOf ByteArray.empty x0 x4).toList)) = true) then (flagstoneref3_list.l1 k x0 (wrap64 (x4 + 1))) else (some 9)) else (none)) else (none)) else (none)) else (some 0)
end
def flagstoneref3_list.f (k : Nat) (l0 : List ByteArray) : Option (Int) := if (l0.length : Int) > 20 then (some 5) else (flagstoneref3_list.l0 k l0 0)
theorem flagstoneref3_list.mono_l : ∀ k, (∀ y0 y1, LeO (flagstoneref3_list.l0 k y0 y1) (flagstoneref3_list.l0 (k + 1) y0 y1)) ∧ (∀ y0 y1, LeO (flagstoneref3_list.l1 k y0 y1) (flagstoneref3_list.l1 (k + 1) y0 y1))
 | 0=>⟨fun _ _ r h=>by simp [flagstoneref3_list.l0] at h,fun _ _ r h=>by simp [flagstoneref3_list.l1] at h⟩
 | k + 1=>by
  obtain ⟨ih0,ih1⟩ := flagstoneref3_list.mono_l k
  refine ⟨?_,?_⟩
  ·intro y0 y1
   unfold flagstoneref3_list.l0
   repeat' first
   | (with_reducible exact ih0 _ _)
   | (with_reducible exact ih1 _ _)
   | (with_reducible exact flagstoneref1_Valid.mono _ _)
   | (with_reducible exact LeO.refl _)
   | (with_reducible exact LeO.none _)
   | (with_reducible refine LeO.ite ?_ ?_)
   | (with_reducible refine LeO.bind ?_ (fun _=>?_))
   | exact ih0 _ _
   | exact ih1 _ _
   | exact flagstoneref1_Valid.mono _ _
   | exact LeO.none _
   | refine LeO.ite ?_ ?_
   | refine LeO.bind ?_ (fun _=>?_)
  ·intro y0 y1
   unfold flagstoneref3_list.l1
   repeat' first
   | (with_reducible exact ih0 _ _)
   | (with_reducible exact ih1 _ _)
   | (with_reducible exact flagstoneref1_Valid.mono _ _)
   | (with_reducible exact LeO.refl _)
   | (with_reducible exact LeO.none _)
   | (with_reducible refine LeO.ite ?_ ?_)
   | (with_reducible refine LeO.bind ?_ (fun _=>?_))
   | exact ih0 _ _
   | exact ih1 _ _
   | exact flagstoneref1_Valid.mono _ _
   | exact LeO.none _
   | refine LeO.ite ?_ ?_
   | refine LeO.bind ?_ (fun _=>?_)
theorem flagstoneref3_list.mono : ∀ a0 k, LeO (flagstoneref3_list.f k a0) (flagstoneref3_list.f (k + 1) a0) := by
 intro a0 k
 obtain ⟨ih0,ih1⟩ := flagstoneref3_list.mono_l k
 unfold flagstoneref3_list.f
 repeat' first
   | (with_reducible exact ih0 _ _)
   | (with_reducible exact ih1 _ _)
   | (with_reducible exact flagstoneref1_Valid.mono _ _)
   | (with_reducible exact LeO.refl _)
   | (with_reducible exact LeO.none _)
   | (with_reducible refine LeO.ite ?_ ?_)
   | (with_reducible refine LeO.bind ?_ (fun _=>?_))
   | exact ih0 _ _
   | exact ih1 _ _
   | exact flagstoneref1_Valid.mono _ _
   | exact LeO.none _
   | refine LeO.ite ?_ ?_
   | refine LeO.bind ?_ (fun _=>?_)
set_option maxHeartbeats 8000000 in
set_option maxRecDepth 100000 in
theorem flagstoneref3_list.calls (k : Nat) (A0 : Option Addr) (c0 : Nat) (l0 : List ByteArray) (r : Int) (w : World) (hr0 : Kd.C Kd.string w A0 l0.length l0) (hc0 : l0.length ≤ c0) (hGL : GL w) (h : flagstoneref3_list.f k l0 = some r) :
  Calls Tryz.prog 33 #[.slice A0 l0.length c0] w fun e w'=>e = .returned (.int .i64 r) ∧ Below w.heap.size w w' := by
 have hsg_ := @str_geq; have hsl_ := @str_leq; have hsr_ := @str_gtr
 have HR0 := Aside0.mk hr0; have HC0 := Aside0.mk hc0; clear hr0 hc0; have HGL := Aside0.mk hGL; clear hGL
 have HB := Aside0.mk (Below.refl w.heap.size w)
 have H : (if (l0.length : Int) > 20 then (some 5) else (flagstoneref3_list.l0 k l0 0)) = some r := h
 clear h
 by_cases c2 : (l0.length : Int) > 20
 ·rw [if_pos c2] at H
  have c2b0 : decide (20 < (l0.length : Int)) = true := decide_eq_true c2
  have c2b1 : decide (20 < l0.length) = true := decide_eq_true (by omega)
  clear c2
  obtain rfl := Option.some.inj H
  go_enter Tryz.func33,Tryz.ntmps33
  go_wp2
  repeat (go_quiet (fail); try go_wp2)
  go_ret
  exact ⟨by first|rfl|(simp [errW_none,errW_some]<;>rfl)|(simp [*,errW_none,errW_some]<;>rfl),by repeat (first|(with_reducible first|exact HB.out|apply zE|apply zB|apply zC)|exact HB.out)⟩
 ·rw [if_neg c2] at H
  have c2b0 : decide (20 < (l0.length : Int)) = false := decide_eq_false c2
  have c2b1 : decide (20 < l0.length) = false := decide_eq_false (by omega)
  clear c2; have H' := Aside0.mk H; clear H
  go_enter Tryz.func33,Tryz.ntmps33
  go_wp2
  repeat (go_quiet (fail); try go_wp2)
  go_loopg [3] k (fun kq v3 w'=>∃ (x3_1 : Int),v3 = .int .i64 x3_1 ∧ Aside0 (flagstoneref3_list.l0 kq l0 x3_1 = some r) ∧ Aside0 (kq ≤ k) ∧ Aside0 (Below w.heap.size w w'))
  case atStart=>exact ⟨(0),(by first|rfl|(simp; done)|(simp [*]; done)),H',⟨Nat.le_refl _⟩,⟨by repeat (first|(with_reducible first|exact HB.out|apply zE|apply zB|apply zC)|exact HB.out)⟩⟩
  case round =>
   clear H';(try clear c2);(try clear c2b0);(try clear c2b1);(try clear p2)
   obtain ⟨x3_1,rfl,HA,HK1,HB⟩ := hrel
   cases gk with
   | zero=>exact absurd HA.out (by simp [flagstoneref3_list.l0])
   | succ k1 =>
    have H := HA.out; clear HA
    simp only [flagstoneref3_list.l0] at H
    by_cases c3 : x3_1 < (l0.length : Int)
    ·rw [if_pos c3] at H
     have c3b0 : decide (x3_1 < (l0.length : Int)) = true := decide_eq_true c3
     clear c3
     by_cases c4 : 0 ≤ x3_1
     ·rw [if_pos c4] at H
      have c4b0 : decide (0 ≤ x3_1) = true := decide_eq_true c4
      clear c4; replace H := Option.bind_eq_some_iff.mp H; obtain ⟨t211,A50,H⟩ := H
      replace H : (if t211 = true then (flagstoneref3_list.l0 k1 l0 (wrap64 (x3_1 + 1))) else (some 2)) = some r := H
      have A5 := Aside0.mk A50; clear A50
      by_cases c6 : t211 = true
      ·subst c6
       have H1 : (flagstoneref3_list.l0 k1 l0 (wrap64 (x3_1 + 1))) = some r := by rw [if_pos rfl] at H; exact H
       clear H; have H := H1; clear H1; have H' := Aside0.mk H; clear H
       have p210 : 0 ≤ (x3_1 : Int) := of_decide_eq_true (by first|(with_reducible assumption)|assumption)
       have q210 : x3_1 < (l0.length : Int) := of_decide_eq_true (by first|(with_reducible assumption)|assumption)
       obtain ⟨ad210,e210,hx210_0⟩ := Kd.at_string HR0.out x3_1 p210 q210
       cases e210
       replace hx210_0:=(HB.out.cell (World.block_lt_of_cell? w _ hx210_0)).trans hx210_0
       replace p210 := eq_true p210
       replace q210 := eq_true q210
       go_wp2_with (first|(go_at_call 31;(with_reducible refine (flagstoneref1_Valid.calls k1 (rdOf ByteArray.empty l0 x3_1) true _ ?side1 A5.out).mono ?_);(case side1=>exact GL.below HGL.out (by repeat (first|(with_reducible first|exact HB.out|apply zE|apply zB|apply zC)|exact HB.out))); rintro e w7 ⟨rfl,hb⟩; have n0_ := Aside0.mk (below_step (by repeat (first|(with_reducible first|exact HB.out|apply zE|apply zB|apply zC)|exact HB.out)) hb); clear HB; have HB := n0_; clear n0_;(try clear hb);(try clear hb2);(try clear hk);(try clear hi);(try clear hge)))
       repeat (go_quiet (first|(go_at_call 31;(with_reducible refine (flagstoneref1_Valid.calls k1 (rdOf ByteArray.empty l0 x3_1) true _ ?side1 A5.out).mono ?_);(case side1=>exact GL.below HGL.out (by repeat (first|(with_reducible first|exact HB.out|apply zE|apply zB|apply zC)|exact HB.out))); rintro e w7 ⟨rfl,hb⟩; have n0_ := Aside0.mk (below_step (by repeat (first|(with_reducible first|exact HB.out|apply zE|apply zB|apply zC)|exact HB.out)) hb); clear HB; have HB := n0_; clear n0_;(try clear hb);(try clear hb2);(try clear hk);(try clear hi);(try clear hge))); try go_wp2_with (first|(go_at_call 31;(with_reducible refine (flagstoneref1_Valid.calls k1 (rdOf ByteArray.empty l0 x3_1) true _ ?side1 A5.out).mono ?_);(case side1=>exact GL.below HGL.out (by repeat (first|(with_reducible first|exact HB.out|apply zE|apply zB|apply zC)|exact HB.out))); rintro e w7 ⟨rfl,hb⟩; have n0_ := Aside0.mk (below_step (by repeat (first|(with_reducible first|exact HB.out|apply zE|apply zB|apply zC)|exact HB.out)) hb); clear HB; have HB := n0_; clear n0_;(try clear hb);(try clear hb2);(try clear hk);(try clear hi);(try clear hge))))
       go_roundg k1
       case measure=>have := HK1.out; omega
       case rel=>exact ⟨(wrap64 (x3_1 + 1)),(by first|rfl|(simp; done)|(simp [*]; done)),H',⟨by have := HK1.out; omega⟩,⟨by repeat (first|(with_reducible first|exact HB.out|apply zE|apply zB|apply zC)|exact HB.out)⟩⟩
      ·replace c6 := Bool.eq_false_iff.mpr c6
       subst c6
       have H1 : (some 2) = some r := by rw [if_neg (show ¬ (false = true) by decide)] at H; exact H
       clear H; have H := H1; clear H1
       obtain rfl := Option.some.inj H
       have p210 : 0 ≤ (x3_1 : Int) := of_decide_eq_true (by first|(with_reducible assumption)|assumption)
       have q210 : x3_1 < (l0.length : Int) := of_decide_eq_true (by first|(with_reducible assumption)|assumption)
       obtain ⟨ad210,e210,hx210_0⟩ := Kd.at_string HR0.out x3_1 p210 q210
       cases e210
       replace hx210_0:=(HB.out.cell (World.block_lt_of_cell? w _ hx210_0)).trans hx210_0
       replace p210 := eq_true p210
       replace q210 := eq_true q210
       go_wp2_with (first|(go_at_call 31;(with_reducible refine (flagstoneref1_Valid.calls k1 (rdOf ByteArray.empty l0 x3_1) false _ ?side1 A5.out).mono ?_);(case side1=>exact GL.below HGL.out (by repeat (first|(with_reducible first|exact HB.out|apply zE|apply zB|apply zC)|exact HB.out))); rintro e w8 ⟨rfl,hb⟩; have n0_ := Aside0.mk (below_step (by repeat (first|(with_reducible first|exact HB.out|apply zE|apply zB|apply zC)|exact HB.out)) hb); clear HB; have HB := n0_; clear n0_;(try clear hb);(try clear hb2);(try clear hk);(try clear hi);(try clear hge)))
       repeat (go_quiet (first|(go_at_call 31;(with_reducible refine (flagstoneref1_Valid.calls k1 (rdOf ByteArray.empty l0 x3_1) false _ ?side1 A5.out).mono ?_);(case side1=>exact GL.below HGL.out (by repeat (first|(with_reducible first|exact HB.out|apply zE|apply zB|apply zC)|exact HB.out))); rintro e w8 ⟨rfl,hb⟩; have n0_ := Aside0.mk (below_step (by repeat (first|(with_reducible first|exact HB.out|apply zE|apply zB|apply zC)|exact HB.out)) hb); clear HB; have HB := n0_; clear n0_;(try clear hb);(try clear hb2);(try clear hk);(try clear hi);(try clear hge))); try go_wp2_with (first|(go_at_call 31;(with_reducible refine (flagstoneref1_Valid.calls k1 (rdOf ByteArray.empty l0 x3_1) false _ ?side1 A5.out).mono ?_);(case side1=>exact GL.below HGL.out (by repeat (first|(with_reducible first|exact HB.out|apply zE|apply zB|apply zC)|exact HB.out))); rintro e w8 ⟨rfl,hb⟩; have n0_ := Aside0.mk (below_step (by repeat (first|(with_reducible first|exact HB.out|apply zE|apply zB|apply zC)|exact HB.out)) hb); clear HB; have HB := n0_; clear n0_;(try clear hb);(try clear hb2);(try clear hk);(try clear hi);(try clear hge))))
       go_ret
       exact ⟨by first|rfl|(simp [errW_none,errW_some]<;>rfl)|(simp [*,errW_none,errW_some]<;>rfl),by repeat (first|(with_reducible first|exact HB.out|apply zE|apply zB|apply zC)|exact HB.out)⟩
     ·rw [if_neg c4] at H
      exact absurd H (by simp)
    ·rw [if_neg c3] at H
     have c3b0 : decide (x3_1 < (l0.length : Int)) = false := decide_eq_false c3
     clear c3; have H' := Aside0.mk H; clear H
     go_wp2
     repeat (go_quiet (fail); try go_wp2)
     go_loopg [4] k1 (fun kq v4 w'=>∃ (x4_2 : Int),v4 = .int .i64 x4_2 ∧ Aside0 (flagstoneref3_list.l1 kq l0 x4_2 = some r) ∧ Aside0 (kq ≤ k1) ∧ Aside0 (Below w.heap.size w w'))
     case atStart=>exact ⟨(1),(by first|rfl|(simp; done)|(simp [*]; done)),H',⟨Nat.le_refl _⟩,⟨by repeat (first|(with_reducible first|exact HB.out|apply zE|apply zB|apply zC)|exact HB.out)⟩⟩
     case round =>
      clear H';(try clear c2);(try clear c2b0);(try clear c2b1);(try clear p2);(try clear q2);(try clear hx2);(try clear c3);(try clear c3b0);(try clear c4);(try clear c4b0);(try clear c6);(try clear p6);(try clear hx210_0);(try clear p2);(try clear p210);(try clear q210)
      obtain ⟨x4_2,rfl,HA,HK2,HB⟩ := hrel
      cases gk with
      | zero=>exact absurd HA.out (by simp [flagstoneref3_list.l1])
      | succ k2 =>
       have H := HA.out; clear HA
       simp only [flagstoneref3_list.l1] at H
       by_cases c9 : x4_2 < (l0.length : Int)
       ·rw [if_pos c9] at H
        have c9b0 : decide (x4_2 < (l0.length : Int)) = true := decide_eq_true c9
        clear c9
        by_cases c10 : 0 ≤ x4_2
        ·rw [if_pos c10] at H
         have c10b0 : decide (0 ≤ x4_2) = true := decide_eq_true c10
         clear c10
         obtain ⟨ji11,hji11⟩ : ∃ j_ : Int,(wrap64 (x4_2 - 1)) = j_:=⟨_,rfl⟩
         replace H : (if 0 ≤ (ji11) then (if (ji11) < (l0.length : Int) then (if ((Op.bytesLess ((rdOf ByteArray.empty l0 (ji11)).toList) ((rdOf ByteArray.empty l0 x4_2).toList)) = true) then (flagstoneref3_list.l1 k2 l0 (wrap64 (x4_2 + 1))) else (some 9)) else (none)) else (none)) = some r := by first|(rw [hji11] at H; exact H)|(simp only [hji11] at H ⊢; exact H)
         have hji11w : (IntKind.i64.wrap (x4_2 - 1)) = ji11:=(i64_w _).trans hji11
         by_cases c12 : 0 ≤ (ji11)
         ·rw [if_pos c12] at H
          have c12b0 : decide (0 ≤ (ji11)) = true := decide_eq_true c12
          clear c12
          by_cases c13 : (ji11) < (l0.length : Int)
          ·rw [if_pos c13] at H
           have c13b0 : decide ((ji11) < (l0.length : Int)) = true := decide_eq_true c13
           clear c13
           by_cases c14 : ((Op.bytesLess ((rdOf ByteArray.empty l0 (ji11)).toList) ((rdOf ByteArray.empty l0 x4_2).toList)) = true)
           ·rw [if_pos c14] at H
            have c14b0 : (Op.bytesLess ((rdOf ByteArray.empty l0 (ji11)).toList) ((rdOf ByteArray.empty l0 x4_2).toList)) = true := c14
            clear c14; have H' := Aside0.mk H; clear H
            have p212 : 0 ≤ (x4_2 : Int) := of_decide_eq_true (by first|(with_reducible assumption)|assumption)
            have q212 : x4_2 < (l0.length : Int) := of_decide_eq_true (by first|(with_reducible assumption)|assumption)
            obtain ⟨ad212,e212,hx212_0⟩ := Kd.at_string HR0.out x4_2 p212 q212
            cases e212
            replace hx212_0:=(HB.out.cell (World.block_lt_of_cell? w _ hx212_0)).trans hx212_0
            replace p212 := eq_true p212
            replace q212 := eq_true q212
            have p213 : 0 ≤ ((ji11) : Int) := of_decide_eq_true (by first|(with_reducible assumption)|assumption)
            have q213 : (ji11) < (l0.length : Int) := of_decide_eq_true (by first|(with_reducible assumption)|assumption)
            obtain ⟨ad213,e213,hx213_0⟩ := Kd.at_string HR0.out (ji11) p213 q213
            obtain rfl : ad212 = ad213:=(by injection e213)
            replace hx213_0:=(HB.out.cell (World.block_lt_of_cell? w _ hx213_0)).trans hx213_0
            replace p213 := eq_true p213
            replace q213 := eq_true q213
            go_wp2
            repeat (go_quiet (fail); try go_wp2)
            go_roundg k2
            case measure=>have := HK1.out; have := HK2.out; omega
            case rel=>exact ⟨(wrap64 (x4_2 + 1)),(by first|rfl|(simp; done)|(simp [*]; done)),H',⟨by have := HK1.out; have := HK2.out; omega⟩,⟨by repeat (first|(with_reducible first|exact HB.out|apply zE|apply zB|apply zC)|exact HB.out)⟩⟩
           ·rw [if_neg c14] at H
            have c14b0 : (Op.bytesLess ((rdOf ByteArray.empty l0 (ji11)).toList) ((rdOf ByteArray.empty l0 x4_2).toList)) = false := by simpa using c14
            clear c14
            obtain rfl := Option.some.inj H
            have p212 : 0 ≤ (x4_2 : Int) := of_decide_eq_true (by first|(with_reducible assumption)|assumption)
            have q212 : x4_2 < (l0.length : Int) := of_decide_eq_true (by first|(with_reducible assumption)|assumption)
            obtain ⟨ad212,e212,hx212_0⟩ := Kd.at_string HR0.out x4_2 p212 q212
            cases e212
            replace hx212_0:=(HB.out.cell (World.block_lt_of_cell? w _ hx212_0)).trans hx212_0
            replace p212 := eq_true p212
            replace q212 := eq_true q212
            have p213 : 0 ≤ ((ji11) : Int) := of_decide_eq_true (by first|(with_reducible assumption)|assumption)
            have q213 : (ji11) < (l0.length : Int) := of_decide_eq_true (by first|(with_reducible assumption)|assumption)
            obtain ⟨ad213,e213,hx213_0⟩ := Kd.at_string HR0.out (ji11) p213 q213
            obtain rfl : ad212 = ad213:=(by injection e213)
            replace hx213_0:=(HB.out.cell (World.block_lt_of_cell? w _ hx213_0)).trans hx213_0
            replace p213 := eq_true p213
            replace q213 := eq_true q213
            go_wp2
            repeat (go_quiet (fail); try go_wp2)
            go_ret
            exact ⟨by first|rfl|(simp [errW_none,errW_some]<;>rfl)|(simp only [← hji11]; first|rfl|(simp [errW_none,errW_some]<;>rfl))|(simp [*,errW_none,errW_some]<;>rfl),by repeat (first|(with_reducible first|exact HB.out|apply zE|apply zB|apply zC)|exact HB.out)⟩
          ·rw [if_neg c13] at H
           exact absurd H (by simp)
         ·rw [if_neg c12] at H
          exact absurd H (by simp)
        ·rw [if_neg c10] at H
         exact absurd H (by simp)
       ·rw [if_neg c9] at H
        have c9b0 : decide (x4_2 < (l0.length : Int)) = false := decide_eq_false c9
        clear c9
        obtain rfl := Option.some.inj H
        go_wp2
        repeat (go_quiet (fail); try go_wp2)
        go_ret
        exact ⟨by first|rfl|(simp [errW_none,errW_some]<;>rfl)|(simp [*,errW_none,errW_some]<;>rfl),by repeat (first|(with_reducible first|exact HB.out|apply zE|apply zB|apply zC)|exact HB.out)⟩

end Go.Proofs.YtannjakcnnefhaaGreatDoor.V
