-- printed by wip/hp.py (the session's driver of the print, with hand-proved contracts)
import Derived.Test.YtefglphdiimhnaaDoorQ0
import Derived.Test.YtefglphdiimhnaaDoorQ8
import Derived.Test.YtefglphdiimhnaaDoorQ9
import Derived.Test.YtefglphdiimhnaaDoorQ10
namespace Go.Proofs.YtefglphdiimhnaaDoor.Q
open Go.RowKit Go.Proofs.YtefglphdiimhnaaDoorW.PrintWords Go.Proofs.YtefglphdiimhnaaDoorW.PrintLast Go.Proofs.YtefglphdiimhnaaDoorW.PrintMore
attribute [local go_sem] max2_int min2_int max_two min_two max_three min_three max_four min_four   -- for this text's walks alone
set_option linter.unusedVariables false
set_option linter.unusedSimpArgs false

/-! ### flagstoneref13_Reweigh: function 16 -/
mutual
def flagstoneref13_Reweigh.l0 : Nat → List Int → List Int → List Int → Int → Option ((List (S69)) × Int)
  | 0, _, _, _, _ => none
  | k + 1, x1, x8, x9, x10 => if x10 ≥ 0 then (if 0 ≤ x10 then (if x10 < (x8.length : Int) then (if 0 ≤ (wrap64 ((rd x8 x10) - 1)) then (if (wrap64 ((rd x8 x10) - 1)) < (x9.length : Int) then (if (wrap64 ((rd x8 x10) - 1)) < (x1.length : Int) then (if (rd x9 (wrap64 ((rd x8 x10) - 1))) > (rd x1 (wrap64 ((rd x8 x10) - 1))) then (flagstoneref13_Reweigh.l0 k x1 (x8.set (x10 : Int).toNat 0) (x9.set ((wrap64 ((rd x8 x10) - 1)) : Int).toNat (wrap64 ((rd x9 (wrap64 ((rd x8 x10) - 1))) - 1))) (wrap64 (x10 - 1))) else (flagstoneref13_Reweigh.l0 k x1 x8 x9 (wrap64 (x10 - 1)))) else (none)) else (none)) else (none)) else (none)) else (none)) else (flagstoneref13_Reweigh.l1 k x1 x8 x9 0)
def flagstoneref13_Reweigh.l1 : Nat → List Int → List Int → List Int → Int → Option ((List (S69)) × Int)
  | 0, _, _, _, _ => none
  | k + 1, x1, x8, x9, x12 => if x12 < 10000 then (flagstoneref13_Reweigh.l2 k x1 x8 x9 x12 0) else ((flagstoneref13_Ranges.f k x8).bind fun t265 => (if (t265.length : Int) > 16 then (some (([] : List (S69)), 19)) else (some (t265, 0))))
def flagstoneref13_Reweigh.l2 : Nat → List Int → List Int → List Int → Int → Int → Option ((List (S69)) × Int)
  | 0, _, _, _, _, _ => none
  | k + 1, x1, x8, x9, x12, x13 => if x13 < (x1.length : Int) then (if 0 ≤ x12 then (if x12 < (x8.length : Int) then (flagstoneref13_Reweigh.j3 k x1 x8 x9 x12 x13 ((rd x8 x12) == 0)) else (none)) else (none)) else (flagstoneref13_Reweigh.j3 k x1 x8 x9 x12 x13 false)
def flagstoneref13_Reweigh.j3 : Nat → List Int → List Int → List Int → Int → Int → Bool → Option ((List (S69)) × Int)
  | 0, _, _, _, _, _, _ => none
  | k + 1, x1, x8, x9, x12, x13, x74 => if x74 = true then (if 0 ≤ x13 then (if x13 < (x9.length : Int) then (if x13 < (x1.length : Int) then (if (rd x9 x13) < (rd x1 x13) then (if 0 ≤ x12 then (if x12 < (x8.length : Int) then (flagstoneref13_Reweigh.l2 k x1 (x8.set (x12 : Int).toNat (wrap64 (x13 + 1))) (x9.set (x13 : Int).toNat (wrap64 ((rd x9 x13) + 1))) x12 (wrap64 (x13 + 1))) else (none)) else (none)) else (flagstoneref13_Reweigh.l2 k x1 x8 x9 x12 (wrap64 (x13 + 1)))) else (none)) else (none)) else (none)) else (flagstoneref13_Reweigh.l1 k x1 x8 x9 (wrap64 (x12 + 1)))
end
def flagstoneref13_Reweigh.f (k : Nat) (l0 : List (S69)) (l1 : List Int) : Option ((List (S69)) × Int) := (flagstoneref6_Split.f k l0 (l1.length : Int)).bind fun t251 => (if t251 = 0 then ((flagstoneref13_weights.f k l1).bind fun t252 => (if t252 = 0 then ((flagstoneref13_All.f k l0).bind fun t253 => ((flagstoneref13_Weights.f k l0 (l1.length : Int)).bind fun t256 => (flagstoneref13_Reweigh.l0 k l1 t253 t256 9999))) else (some (([] : List (S69)), t252)))) else (some (([] : List (S69)), t251)))
theorem flagstoneref13_Reweigh.mono_l : ∀ k, (∀ y0 y1 y2 y3, LeO (flagstoneref13_Reweigh.l0 k y0 y1 y2 y3) (flagstoneref13_Reweigh.l0 (k + 1) y0 y1 y2 y3)) ∧ (∀ y0 y1 y2 y3, LeO (flagstoneref13_Reweigh.l1 k y0 y1 y2 y3) (flagstoneref13_Reweigh.l1 (k + 1) y0 y1 y2 y3)) ∧ (∀ y0 y1 y2 y3 y4, LeO (flagstoneref13_Reweigh.l2 k y0 y1 y2 y3 y4) (flagstoneref13_Reweigh.l2 (k + 1) y0 y1 y2 y3 y4)) ∧ (∀ y0 y1 y2 y3 y4 y5, LeO (flagstoneref13_Reweigh.j3 k y0 y1 y2 y3 y4 y5) (flagstoneref13_Reweigh.j3 (k + 1) y0 y1 y2 y3 y4 y5))
  | 0 => ⟨fun _ _ _ _ r h => by simp [flagstoneref13_Reweigh.l0] at h, fun _ _ _ _ r h => by simp [flagstoneref13_Reweigh.l1] at h, fun _ _ _ _ _ r h => by simp [flagstoneref13_Reweigh.l2] at h, fun _ _ _ _ _ _ r h => by simp [flagstoneref13_Reweigh.j3] at h⟩
  | k + 1 => by
    obtain ⟨ih0, ih1, ih2, ih3⟩ := flagstoneref13_Reweigh.mono_l k
    refine ⟨?_, ?_, ?_, ?_⟩
    · intro y0 y1 y2 y3
      unfold flagstoneref13_Reweigh.l0
      repeat' first
      | (with_reducible exact ih0 _ _ _ _)
      | (with_reducible exact ih1 _ _ _ _)
      | (with_reducible exact ih2 _ _ _ _ _)
      | (with_reducible exact ih3 _ _ _ _ _ _)
      | (with_reducible exact flagstoneref13_All.mono _ _)
      | (with_reducible exact flagstoneref13_Ranges.mono _ _)
      | (with_reducible exact flagstoneref13_Weights.mono _ _ _)
      | (with_reducible exact flagstoneref13_weights.mono _ _)
      | (with_reducible exact flagstoneref6_Split.mono _ _ _)
      | (with_reducible exact LeO.refl _)
      | (with_reducible exact LeO.none _)
      | (with_reducible refine LeO.ite ?_ ?_)
      | (with_reducible refine LeO.bind ?_ (fun _ => ?_))
      | exact ih0 _ _ _ _
      | exact ih1 _ _ _ _
      | exact ih2 _ _ _ _ _
      | exact ih3 _ _ _ _ _ _
      | exact flagstoneref13_All.mono _ _
      | exact flagstoneref13_Ranges.mono _ _
      | exact flagstoneref13_Weights.mono _ _ _
      | exact flagstoneref13_weights.mono _ _
      | exact flagstoneref6_Split.mono _ _ _
      | exact LeO.none _
      | refine LeO.ite ?_ ?_
      | refine LeO.bind ?_ (fun _ => ?_)
    · intro y0 y1 y2 y3
      unfold flagstoneref13_Reweigh.l1
      repeat' first
      | (with_reducible exact ih0 _ _ _ _)
      | (with_reducible exact ih1 _ _ _ _)
      | (with_reducible exact ih2 _ _ _ _ _)
      | (with_reducible exact ih3 _ _ _ _ _ _)
      | (with_reducible exact flagstoneref13_All.mono _ _)
      | (with_reducible exact flagstoneref13_Ranges.mono _ _)
      | (with_reducible exact flagstoneref13_Weights.mono _ _ _)
      | (with_reducible exact flagstoneref13_weights.mono _ _)
      | (with_reducible exact flagstoneref6_Split.mono _ _ _)
      | (with_reducible exact LeO.refl _)
      | (with_reducible exact LeO.none _)
      | (with_reducible refine LeO.ite ?_ ?_)
      | (with_reducible refine LeO.bind ?_ (fun _ => ?_))
      | exact ih0 _ _ _ _
      | exact ih1 _ _ _ _
      | exact ih2 _ _ _ _ _
      | exact ih3 _ _ _ _ _ _
      | exact flagstoneref13_All.mono _ _
      | exact flagstoneref13_Ranges.mono _ _
      | exact flagstoneref13_Weights.mono _ _ _
      | exact flagstoneref13_weights.mono _ _
      | exact flagstoneref6_Split.mono _ _ _
      | exact LeO.none _
      | refine LeO.ite ?_ ?_
      | refine LeO.bind ?_ (fun _ => ?_)
    · intro y0 y1 y2 y3 y4
      unfold flagstoneref13_Reweigh.l2
      repeat' first
      | (with_reducible exact ih0 _ _ _ _)
      | (with_reducible exact ih1 _ _ _ _)
      | (with_reducible exact ih2 _ _ _ _ _)
      | (with_reducible exact ih3 _ _ _ _ _ _)
      | (with_reducible exact flagstoneref13_All.mono _ _)
      | (with_reducible exact flagstoneref13_Ranges.mono _ _)
      | (with_reducible exact flagstoneref13_Weights.mono _ _ _)
      | (with_reducible exact flagstoneref13_weights.mono _ _)
      | (with_reducible exact flagstoneref6_Split.mono _ _ _)
      | (with_reducible exact LeO.refl _)
      | (with_reducible exact LeO.none _)
      | (with_reducible refine LeO.ite ?_ ?_)
      | (with_reducible refine LeO.bind ?_ (fun _ => ?_))
      | exact ih0 _ _ _ _
      | exact ih1 _ _ _ _
      | exact ih2 _ _ _ _ _
      | exact ih3 _ _ _ _ _ _
      | exact flagstoneref13_All.mono _ _
      | exact flagstoneref13_Ranges.mono _ _
      | exact flagstoneref13_Weights.mono _ _ _
      | exact flagstoneref13_weights.mono _ _
      | exact flagstoneref6_Split.mono _ _ _
      | exact LeO.none _
      | refine LeO.ite ?_ ?_
      | refine LeO.bind ?_ (fun _ => ?_)
    · intro y0 y1 y2 y3 y4 y5
      unfold flagstoneref13_Reweigh.j3
      repeat' first
      | (with_reducible exact ih0 _ _ _ _)
      | (with_reducible exact ih1 _ _ _ _)
      | (with_reducible exact ih2 _ _ _ _ _)
      | (with_reducible exact ih3 _ _ _ _ _ _)
      | (with_reducible exact flagstoneref13_All.mono _ _)
      | (with_reducible exact flagstoneref13_Ranges.mono _ _)
      | (with_reducible exact flagstoneref13_Weights.mono _ _ _)
      | (with_reducible exact flagstoneref13_weights.mono _ _)
      | (with_reducible exact flagstoneref6_Split.mono _ _ _)
      | (with_reducible exact LeO.refl _)
      | (with_reducible exact LeO.none _)
      | (with_reducible refine LeO.ite ?_ ?_)
      | (with_reducible refine LeO.bind ?_ (fun _ => ?_))
      | exact ih0 _ _ _ _
      | exact ih1 _ _ _ _
      | exact ih2 _ _ _ _ _
      | exact ih3 _ _ _ _ _ _
      | exact flagstoneref13_All.mono _ _
      | exact flagstoneref13_Ranges.mono _ _
      | exact flagstoneref13_Weights.mono _ _ _
      | exact flagstoneref13_weights.mono _ _
      | exact flagstoneref6_Split.mono _ _ _
      | exact LeO.none _
      | refine LeO.ite ?_ ?_
      | refine LeO.bind ?_ (fun _ => ?_)
theorem flagstoneref13_Reweigh.mono : ∀ a0 a1 k, LeO (flagstoneref13_Reweigh.f k a0 a1) (flagstoneref13_Reweigh.f (k + 1) a0 a1) := by
  intro a0 a1 k
  obtain ⟨ih0, ih1, ih2, ih3⟩ := flagstoneref13_Reweigh.mono_l k
  unfold flagstoneref13_Reweigh.f
  repeat' first
      | (with_reducible exact ih0 _ _ _ _)
      | (with_reducible exact ih1 _ _ _ _)
      | (with_reducible exact ih2 _ _ _ _ _)
      | (with_reducible exact ih3 _ _ _ _ _ _)
      | (with_reducible exact flagstoneref13_All.mono _ _)
      | (with_reducible exact flagstoneref13_Ranges.mono _ _)
      | (with_reducible exact flagstoneref13_Weights.mono _ _ _)
      | (with_reducible exact flagstoneref13_weights.mono _ _)
      | (with_reducible exact flagstoneref6_Split.mono _ _ _)
      | (with_reducible exact LeO.refl _)
      | (with_reducible exact LeO.none _)
      | (with_reducible refine LeO.ite ?_ ?_)
      | (with_reducible refine LeO.bind ?_ (fun _ => ?_))
      | exact ih0 _ _ _ _
      | exact ih1 _ _ _ _
      | exact ih2 _ _ _ _ _
      | exact ih3 _ _ _ _ _ _
      | exact flagstoneref13_All.mono _ _
      | exact flagstoneref13_Ranges.mono _ _
      | exact flagstoneref13_Weights.mono _ _ _
      | exact flagstoneref13_weights.mono _ _
      | exact flagstoneref6_Split.mono _ _ _
      | exact LeO.none _
      | refine LeO.ite ?_ ?_
      | refine LeO.bind ?_ (fun _ => ?_)
set_option maxHeartbeats 8000000 in
set_option maxRecDepth 100000 in
theorem flagstoneref13_Reweigh.calls (k : Nat) (A0 : Option Addr) (c0 : Nat) (l0 : List (S69)) (A1 : Option Addr) (c1 : Nat) (l1 : List Int) (r1 : List (S69)) (r2 : Int) (w : World) (hr0 : Kd.C k69 w A0 l0.length l0) (hc0 : l0.length ≤ c0) (hr1 : Kd.C (Kd.int .i64) w A1 l1.length l1) (hc1 : l1.length ≤ c1) (h : flagstoneref13_Reweigh.f k l0 l1 = some (r1, r2)) :
    Calls Tryd.prog 16 #[.slice A0 l0.length c0, .slice A1 l1.length c1] w fun e w' => ∃ v0_ : Value, e = .returned (.tuple #[v0_, .int .i64 r2]) ∧ Kd.R k69 69 w' w.heap.size (fun _ => True) v0_ r1 ∧ Below w.heap.size w w' := by
  have HR0 := Aside0.mk hr0
  have HC0 := Aside0.mk hc0
  clear hr0 hc0
  have HR1 := Aside0.mk hr1
  have HC1 := Aside0.mk hc1
  clear hr1 hc1
  have HB := Aside0.mk (Below.refl w.heap.size w)
  have H : ((flagstoneref6_Split.f k l0 (l1.length : Int)).bind fun t251 => (if t251 = 0 then ((flagstoneref13_weights.f k l1).bind fun t252 => (if t252 = 0 then ((flagstoneref13_All.f k l0).bind fun t253 => ((flagstoneref13_Weights.f k l0 (l1.length : Int)).bind fun t256 => (flagstoneref13_Reweigh.l0 k l1 t253 t256 9999))) else (some (([] : List (S69)), t252)))) else (some (([] : List (S69)), t251)))) = some (r1, r2) := h
  clear h
  replace H := Option.bind_eq_some_iff.mp H
  obtain ⟨t251, A30, H⟩ := H
  replace H : (if t251 = 0 then ((flagstoneref13_weights.f k l1).bind fun t252 => (if t252 = 0 then ((flagstoneref13_All.f k l0).bind fun t253 => ((flagstoneref13_Weights.f k l0 (l1.length : Int)).bind fun t256 => (flagstoneref13_Reweigh.l0 k l1 t253 t256 9999))) else (some (([] : List (S69)), t252)))) else (some (([] : List (S69)), t251))) = some (r1, r2) := H
  have A3 := Aside0.mk A30
  clear A30
  by_cases c4 : t251 = 0
  · rw [if_pos c4] at H
    have c4b0 : (t251 == 0) = true := beq_iff_eq.mpr c4
    have c4b1 : (t251 != 0) = false := bne_eq_false_iff_eq.mpr c4
    clear c4
    replace H := Option.bind_eq_some_iff.mp H
    obtain ⟨t252, A50, H⟩ := H
    replace H : (if t252 = 0 then ((flagstoneref13_All.f k l0).bind fun t253 => ((flagstoneref13_Weights.f k l0 (l1.length : Int)).bind fun t256 => (flagstoneref13_Reweigh.l0 k l1 t253 t256 9999))) else (some (([] : List (S69)), t252))) = some (r1, r2) := H
    have A5 := Aside0.mk A50
    clear A50
    by_cases c6 : t252 = 0
    · rw [if_pos c6] at H
      have c6b0 : (t252 == 0) = true := beq_iff_eq.mpr c6
      have c6b1 : (t252 != 0) = false := bne_eq_false_iff_eq.mpr c6
      clear c6
      replace H := Option.bind_eq_some_iff.mp H
      obtain ⟨t253, A70, H⟩ := H
      replace H : ((flagstoneref13_Weights.f k l0 (l1.length : Int)).bind fun t256 => (flagstoneref13_Reweigh.l0 k l1 t253 t256 9999)) = some (r1, r2) := H
      have A7 := Aside0.mk A70
      clear A70
      replace H := Option.bind_eq_some_iff.mp H
      obtain ⟨t256, A80, H⟩ := H
      replace H : (flagstoneref13_Reweigh.l0 k l1 t253 t256 9999) = some (r1, r2) := H
      have A8 := Aside0.mk A80
      clear A80
      have H' := Aside0.mk H
      clear H
      go_enter Tryd.func16, Tryd.ntmps16
      go_wp2_with (first | (go_at_call 41; (with_reducible refine (flagstoneref6_Split.calls k _ _ l0 (l1.length : Int) t251 _ ?side1 ?side2 A3.out).mono ?_); (case side1 => repeat (first | exact HR0.out | (with_reducible refine Kd.C_alloc ?_ _) | (with_reducible refine Kd.C_drewN ?_ _) | (with_reducible refine Kd.C_drew ?_))); (case side2 => exact HC0.out); rintro e w' ⟨rfl, ⟨nd, rfl⟩⟩; (try first | exact ⟨rfl, _, World.drewN_drewN _ _ _⟩ | exact ⟨rfl, _, Eq.trans (World.drewN_drewN _ _ _) (congrArg (World.drewN _) (Nat.add_assoc _ _ _))⟩)) | (go_at_call 42; (with_reducible refine (flagstoneref13_weights.calls k _ _ l1 t252 _ ?side1 ?side2 A5.out).mono ?_); (case side1 => repeat (first | exact HR1.out | (with_reducible refine Kd.C_alloc ?_ _) | (with_reducible refine Kd.C_drewN ?_ _) | (with_reducible refine Kd.C_drew ?_))); (case side2 => exact HC1.out); rintro e w' ⟨rfl, ⟨nd, rfl⟩⟩; (try first | exact ⟨rfl, _, World.drewN_drewN _ _ _⟩ | exact ⟨rfl, _, Eq.trans (World.drewN_drewN _ _ _) (congrArg (World.drewN _) (Nat.add_assoc _ _ _))⟩)) | (go_at_call 43; (with_reducible refine (flagstoneref13_All.calls k _ _ l0 t253 _ ?side1 ?side2 A7.out).mono ?_); (case side1 => repeat (first | exact HR0.out | (with_reducible refine Kd.C_alloc ?_ _) | (with_reducible refine Kd.C_drewN ?_ _) | (with_reducible refine Kd.C_drew ?_))); (case side2 => exact HC0.out); rintro e w9 ⟨v254, rfl, ho0, hb⟩; have n0_ := Aside0.mk (Kd.R_lower ho0 (below_size (by repeat (first | (with_reducible first | exact HB.out | apply below_alloc | apply pw_below_drewN | apply below_drew1) | exact HB.out)))); have n1_ := Aside0.mk (below_step (by repeat (first | (with_reducible first | exact HB.out | apply below_alloc | apply pw_below_drewN | apply below_drew1) | exact HB.out)) hb); clear HB; have HO255 := n0_; have HB := n1_; clear n0_ n1_; (try clear hb); (try clear hb2); (try clear hk); (try clear hi); (try clear ho0)) | (go_at_call 22; (with_reducible refine (flagstoneref13_Weights.calls k _ _ l0 (l1.length : Int) t256 _ ?side1 ?side2 A8.out).mono ?_); (case side1 => repeat (first | exact (Kd.C_below HR0.out HB.out) | (with_reducible refine Kd.C_alloc ?_ _) | (with_reducible refine Kd.C_drewN ?_ _) | (with_reducible refine Kd.C_drew ?_))); (case side2 => exact HC0.out); rintro e w10 ⟨v257, rfl, ho0, hb⟩; have n0_ := Aside0.mk (Kd.R_elder' (by (with_reducible repeat (first | apply Kd.R_alloc | apply Kd.R_drewN | apply Kd.R_drew)); exact HO255.out) (Kd.R_base ho0) hb); have n1_ := Aside0.mk (Kd.R_lower (Kd.R_new' ho0 (Kd.R_lt (by (with_reducible repeat (first | apply Kd.R_alloc | apply Kd.R_drewN | apply Kd.R_drew)); exact HO255.out))) (below_size (by repeat (first | (with_reducible first | exact HB.out | apply below_alloc | apply pw_below_drewN | apply below_drew1) | exact HB.out)))); have n2_ := Aside0.mk (below_step (by repeat (first | (with_reducible first | exact HB.out | apply below_alloc | apply pw_below_drewN | apply below_drew1) | exact HB.out)) hb); clear HO255; clear HB; have HO255 := n0_; have HO258 := n1_; have HB := n2_; clear n0_ n1_ n2_; (try clear hb); (try clear hb2); (try clear hk); (try clear hi); (try clear ho0)))
      repeat (go_quiet (first | (go_at_call 41; (with_reducible refine (flagstoneref6_Split.calls k _ _ l0 (l1.length : Int) t251 _ ?side1 ?side2 A3.out).mono ?_); (case side1 => repeat (first | exact HR0.out | (with_reducible refine Kd.C_alloc ?_ _) | (with_reducible refine Kd.C_drewN ?_ _) | (with_reducible refine Kd.C_drew ?_))); (case side2 => exact HC0.out); rintro e w' ⟨rfl, ⟨nd, rfl⟩⟩; (try first | exact ⟨rfl, _, World.drewN_drewN _ _ _⟩ | exact ⟨rfl, _, Eq.trans (World.drewN_drewN _ _ _) (congrArg (World.drewN _) (Nat.add_assoc _ _ _))⟩)) | (go_at_call 42; (with_reducible refine (flagstoneref13_weights.calls k _ _ l1 t252 _ ?side1 ?side2 A5.out).mono ?_); (case side1 => repeat (first | exact HR1.out | (with_reducible refine Kd.C_alloc ?_ _) | (with_reducible refine Kd.C_drewN ?_ _) | (with_reducible refine Kd.C_drew ?_))); (case side2 => exact HC1.out); rintro e w' ⟨rfl, ⟨nd, rfl⟩⟩; (try first | exact ⟨rfl, _, World.drewN_drewN _ _ _⟩ | exact ⟨rfl, _, Eq.trans (World.drewN_drewN _ _ _) (congrArg (World.drewN _) (Nat.add_assoc _ _ _))⟩)) | (go_at_call 43; (with_reducible refine (flagstoneref13_All.calls k _ _ l0 t253 _ ?side1 ?side2 A7.out).mono ?_); (case side1 => repeat (first | exact HR0.out | (with_reducible refine Kd.C_alloc ?_ _) | (with_reducible refine Kd.C_drewN ?_ _) | (with_reducible refine Kd.C_drew ?_))); (case side2 => exact HC0.out); rintro e w9 ⟨v254, rfl, ho0, hb⟩; have n0_ := Aside0.mk (Kd.R_lower ho0 (below_size (by repeat (first | (with_reducible first | exact HB.out | apply below_alloc | apply pw_below_drewN | apply below_drew1) | exact HB.out)))); have n1_ := Aside0.mk (below_step (by repeat (first | (with_reducible first | exact HB.out | apply below_alloc | apply pw_below_drewN | apply below_drew1) | exact HB.out)) hb); clear HB; have HO255 := n0_; have HB := n1_; clear n0_ n1_; (try clear hb); (try clear hb2); (try clear hk); (try clear hi); (try clear ho0)) | (go_at_call 22; (with_reducible refine (flagstoneref13_Weights.calls k _ _ l0 (l1.length : Int) t256 _ ?side1 ?side2 A8.out).mono ?_); (case side1 => repeat (first | exact (Kd.C_below HR0.out HB.out) | (with_reducible refine Kd.C_alloc ?_ _) | (with_reducible refine Kd.C_drewN ?_ _) | (with_reducible refine Kd.C_drew ?_))); (case side2 => exact HC0.out); rintro e w10 ⟨v257, rfl, ho0, hb⟩; have n0_ := Aside0.mk (Kd.R_elder' (by (with_reducible repeat (first | apply Kd.R_alloc | apply Kd.R_drewN | apply Kd.R_drew)); exact HO255.out) (Kd.R_base ho0) hb); have n1_ := Aside0.mk (Kd.R_lower (Kd.R_new' ho0 (Kd.R_lt (by (with_reducible repeat (first | apply Kd.R_alloc | apply Kd.R_drewN | apply Kd.R_drew)); exact HO255.out))) (below_size (by repeat (first | (with_reducible first | exact HB.out | apply below_alloc | apply pw_below_drewN | apply below_drew1) | exact HB.out)))); have n2_ := Aside0.mk (below_step (by repeat (first | (with_reducible first | exact HB.out | apply below_alloc | apply pw_below_drewN | apply below_drew1) | exact HB.out)) hb); clear HO255; clear HB; have HO255 := n0_; have HO258 := n1_; have HB := n2_; clear n0_ n1_ n2_; (try clear hb); (try clear hb2); (try clear hk); (try clear hi); (try clear ho0))); try go_wp2_with (first | (go_at_call 41; (with_reducible refine (flagstoneref6_Split.calls k _ _ l0 (l1.length : Int) t251 _ ?side1 ?side2 A3.out).mono ?_); (case side1 => repeat (first | exact HR0.out | (with_reducible refine Kd.C_alloc ?_ _) | (with_reducible refine Kd.C_drewN ?_ _) | (with_reducible refine Kd.C_drew ?_))); (case side2 => exact HC0.out); rintro e w' ⟨rfl, ⟨nd, rfl⟩⟩; (try first | exact ⟨rfl, _, World.drewN_drewN _ _ _⟩ | exact ⟨rfl, _, Eq.trans (World.drewN_drewN _ _ _) (congrArg (World.drewN _) (Nat.add_assoc _ _ _))⟩)) | (go_at_call 42; (with_reducible refine (flagstoneref13_weights.calls k _ _ l1 t252 _ ?side1 ?side2 A5.out).mono ?_); (case side1 => repeat (first | exact HR1.out | (with_reducible refine Kd.C_alloc ?_ _) | (with_reducible refine Kd.C_drewN ?_ _) | (with_reducible refine Kd.C_drew ?_))); (case side2 => exact HC1.out); rintro e w' ⟨rfl, ⟨nd, rfl⟩⟩; (try first | exact ⟨rfl, _, World.drewN_drewN _ _ _⟩ | exact ⟨rfl, _, Eq.trans (World.drewN_drewN _ _ _) (congrArg (World.drewN _) (Nat.add_assoc _ _ _))⟩)) | (go_at_call 43; (with_reducible refine (flagstoneref13_All.calls k _ _ l0 t253 _ ?side1 ?side2 A7.out).mono ?_); (case side1 => repeat (first | exact HR0.out | (with_reducible refine Kd.C_alloc ?_ _) | (with_reducible refine Kd.C_drewN ?_ _) | (with_reducible refine Kd.C_drew ?_))); (case side2 => exact HC0.out); rintro e w9 ⟨v254, rfl, ho0, hb⟩; have n0_ := Aside0.mk (Kd.R_lower ho0 (below_size (by repeat (first | (with_reducible first | exact HB.out | apply below_alloc | apply pw_below_drewN | apply below_drew1) | exact HB.out)))); have n1_ := Aside0.mk (below_step (by repeat (first | (with_reducible first | exact HB.out | apply below_alloc | apply pw_below_drewN | apply below_drew1) | exact HB.out)) hb); clear HB; have HO255 := n0_; have HB := n1_; clear n0_ n1_; (try clear hb); (try clear hb2); (try clear hk); (try clear hi); (try clear ho0)) | (go_at_call 22; (with_reducible refine (flagstoneref13_Weights.calls k _ _ l0 (l1.length : Int) t256 _ ?side1 ?side2 A8.out).mono ?_); (case side1 => repeat (first | exact (Kd.C_below HR0.out HB.out) | (with_reducible refine Kd.C_alloc ?_ _) | (with_reducible refine Kd.C_drewN ?_ _) | (with_reducible refine Kd.C_drew ?_))); (case side2 => exact HC0.out); rintro e w10 ⟨v257, rfl, ho0, hb⟩; have n0_ := Aside0.mk (Kd.R_elder' (by (with_reducible repeat (first | apply Kd.R_alloc | apply Kd.R_drewN | apply Kd.R_drew)); exact HO255.out) (Kd.R_base ho0) hb); have n1_ := Aside0.mk (Kd.R_lower (Kd.R_new' ho0 (Kd.R_lt (by (with_reducible repeat (first | apply Kd.R_alloc | apply Kd.R_drewN | apply Kd.R_drew)); exact HO255.out))) (below_size (by repeat (first | (with_reducible first | exact HB.out | apply below_alloc | apply pw_below_drewN | apply below_drew1) | exact HB.out)))); have n2_ := Aside0.mk (below_step (by repeat (first | (with_reducible first | exact HB.out | apply below_alloc | apply pw_below_drewN | apply below_drew1) | exact HB.out)) hb); clear HO255; clear HB; have HO255 := n0_; have HO258 := n1_; have HB := n2_; clear n0_ n1_ n2_; (try clear hb); (try clear hb2); (try clear hk); (try clear hi); (try clear ho0))))
      go_loopg [10] k (fun kq v10 w' => ∃ (x8_1 : List Int) (x9_1 : List Int) (x10_1 : Int), v10 = .int .i64 x10_1 ∧ Aside0 (flagstoneref13_Reweigh.l0 kq l1 x8_1 x9_1 x10_1 = some (r1, r2)) ∧ Aside0 (kq ≤ k) ∧ Aside0 (Kd.R (Kd.int .i64) 3 w' w.heap.size (fun k_ => some k_ ≠ (v257 : Value).ownBlock) v254 x8_1) ∧ Aside0 (Kd.R (Kd.int .i64) 3 w' w.heap.size (fun k_ => some k_ ≠ (v254 : Value).ownBlock) v257 x9_1) ∧ Aside0 (Below w.heap.size w w'))
      case atStart => exact ⟨(t253), (t256), (9999), (by first | rfl | (simp; done) | (simp [*]; done)), H', ⟨Nat.le_refl _⟩, ⟨by (with_reducible repeat (first | apply Kd.R_alloc | apply Kd.R_drewN | apply Kd.R_drew)); exact Kd.R_mono HO255.out (fun _ hk => hk.2)⟩, ⟨by (with_reducible repeat (first | apply Kd.R_alloc | apply Kd.R_drewN | apply Kd.R_drew)); exact Kd.R_mono HO258.out (fun _ hk => hk.2)⟩, ⟨by repeat (first | (with_reducible first | exact HB.out | apply below_alloc | apply pw_below_drewN | apply below_drew1) | exact HB.out)⟩⟩
      case round =>
        clear H'
        try clear c1
        try clear p2
        try clear c4
        try clear c4b0
        try clear c4b1
        try clear c6
        try clear c6b0
        try clear c6b1
        obtain ⟨x8_1, x9_1, x10_1, rfl, HA, HK1, HO_8, HO_9, HB⟩ := hrel
        cases gk with
        | zero => exact absurd HA.out (by simp [flagstoneref13_Reweigh.l0])
        | succ k1 =>
          have H := HA.out
          clear HA
          simp only [flagstoneref13_Reweigh.l0] at H
          by_cases c11 : x10_1 ≥ 0
          · rw [if_pos c11] at H
            have c11b0 : decide (0 ≤ x10_1) = true := decide_eq_true c11
            clear c11
            by_cases c12 : 0 ≤ x10_1
            · rw [if_pos c12] at H
              have c12b0 : decide (0 ≤ x10_1) = true := decide_eq_true c12
              clear c12
              by_cases c13 : x10_1 < (x8_1.length : Int)
              · rw [if_pos c13] at H
                have c13b0 : decide (x10_1 < (x8_1.length : Int)) = true := decide_eq_true c13
                clear c13
                obtain ⟨ji14, hji14⟩ : ∃ j_ : Int, (wrap64 ((rd x8_1 x10_1) - 1)) = j_ := ⟨_, rfl⟩
                replace H : (if 0 ≤ (ji14) then (if (ji14) < (x9_1.length : Int) then (if (ji14) < (l1.length : Int) then (if (rd x9_1 (ji14)) > (rd l1 (ji14)) then (flagstoneref13_Reweigh.l0 k1 l1 (x8_1.set (x10_1 : Int).toNat 0) (x9_1.set ((ji14) : Int).toNat (wrap64 ((rd x9_1 (ji14)) - 1))) (wrap64 (x10_1 - 1))) else (flagstoneref13_Reweigh.l0 k1 l1 x8_1 x9_1 (wrap64 (x10_1 - 1)))) else (none)) else (none)) else (none)) = some (r1, r2) := by first | (rw [hji14] at H; exact H) | (simp only [hji14] at H ⊢; exact H)
                have hji14w : (IntKind.i64.wrap ((rd x8_1 x10_1) - 1)) = ji14 := (i64_w _).trans hji14
                by_cases c15 : 0 ≤ (ji14)
                · rw [if_pos c15] at H
                  have c15b0 : decide (0 ≤ (ji14)) = true := decide_eq_true c15
                  clear c15
                  by_cases c16 : (ji14) < (x9_1.length : Int)
                  · rw [if_pos c16] at H
                    have c16b0 : decide ((ji14) < (x9_1.length : Int)) = true := decide_eq_true c16
                    clear c16
                    by_cases c17 : (ji14) < (l1.length : Int)
                    · rw [if_pos c17] at H
                      have c17b0 : decide ((ji14) < (l1.length : Int)) = true := decide_eq_true c17
                      clear c17
                      by_cases c18 : (rd x9_1 (ji14)) > (rd l1 (ji14))
                      · rw [if_pos c18] at H
                        have c18b0 : decide ((rd l1 (ji14)) < (rd x9_1 (ji14))) = true := decide_eq_true c18
                        clear c18
                        obtain ⟨y263, hy263⟩ : ∃ y_ : List Int, y_ = (x9_1.set ((ji14) : Int).toNat (wrap64 ((rd x9_1 (ji14)) - 1))) := ⟨_, rfl⟩
                        replace H : (flagstoneref13_Reweigh.l0 k1 l1 (x8_1.set (x10_1 : Int).toNat 0) y263 (wrap64 (x10_1 - 1))) = some (r1, r2) := by first | (rw [hy263]; with_reducible exact H) | (have H2_ := (Option.bind_some _ _).symm.trans H; rw [hy263]; with_reducible exact H2_) | (have H2_ := (Option.bind_some _ _).symm.trans H; with_reducible exact H2_) | with_reducible exact H | (rw [hy263]; exact H) | exact H
                        have Ny263 := Aside0.mk hy263
                        clear hy263
                        obtain ⟨y264, hy264⟩ : ∃ y_ : List Int, y_ = (x8_1.set (x10_1 : Int).toNat 0) := ⟨_, rfl⟩
                        replace H : (flagstoneref13_Reweigh.l0 k1 l1 y264 y263 (wrap64 (x10_1 - 1))) = some (r1, r2) := by first | (rw [hy264]; with_reducible exact H) | (have H2_ := (Option.bind_some _ _).symm.trans H; rw [hy264]; with_reducible exact H2_) | (have H2_ := (Option.bind_some _ _).symm.trans H; with_reducible exact H2_) | with_reducible exact H | (rw [hy264]; exact H) | exact H
                        have Ny264 := Aside0.mk hy264
                        clear hy264
                        have H' := Aside0.mk H
                        clear H
                        obtain ⟨Ao21, co21, eo21⟩ := Kd.R_slice HO_8.out
                        subst eo21
                        have p259 : 0 ≤ (x10_1 : Int) := of_decide_eq_true (by first | (with_reducible assumption) | assumption)
                        have q259 : x10_1 < (x8_1.length : Int) := of_decide_eq_true (by first | (with_reducible assumption) | assumption)
                        (try (obtain ⟨AoX_, coX_, eoX_⟩ := Kd.R_slice HO_8.out; subst eoX_))
                        obtain ⟨ad259, e259, hx259_0⟩ := Kd.at_int (Kd.R_reads' HO_8.out).2.2 x10_1 p259 q259
                        cases e259
                        replace p259 := eq_true p259
                        replace q259 := eq_true q259
                        obtain ⟨Ao22, co22, eo22⟩ := Kd.R_slice HO_9.out
                        subst eo22
                        have p260 : 0 ≤ ((ji14) : Int) := of_decide_eq_true (by first | (with_reducible assumption) | assumption)
                        have q260 : (ji14) < (x9_1.length : Int) := of_decide_eq_true (by first | (with_reducible assumption) | assumption)
                        (try (obtain ⟨AoX_, coX_, eoX_⟩ := Kd.R_slice HO_9.out; subst eoX_))
                        obtain ⟨ad260, e260, hx260_0⟩ := Kd.at_int (Kd.R_reads' HO_9.out).2.2 (ji14) p260 q260
                        cases e260
                        replace p260 := eq_true p260
                        replace q260 := eq_true q260
                        have p261 : 0 ≤ ((ji14) : Int) := of_decide_eq_true (by first | (with_reducible assumption) | assumption)
                        have q261 : (ji14) < (l1.length : Int) := of_decide_eq_true (by first | (with_reducible assumption) | assumption)
                        obtain ⟨ad261, e261, hx261_0⟩ := Kd.at_int HR1.out (ji14) p261 q261
                        cases e261
                        replace hx261_0 := (HB.out.cell (World.block_lt_of_cell? w _ hx261_0)).trans hx261_0
                        replace p261 := eq_true p261
                        replace q261 := eq_true q261
                        have p262 : 0 ≤ ((ji14) : Int) := of_decide_eq_true (by first | (with_reducible assumption) | assumption)
                        have q262 : (ji14) < (x9_1.length : Int) := of_decide_eq_true (by first | (with_reducible assumption) | assumption)
                        (try (obtain ⟨AoX_, coX_, eoX_⟩ := Kd.R_slice HO_9.out; subst eoX_))
                        obtain ⟨ad262, e262, hx262_0⟩ := Kd.at_int (Kd.R_reads' HO_9.out).2.2 (ji14) p262 q262
                        obtain rfl : ad260 = ad262 := (by injection e262)
                        replace p262 := eq_true p262
                        replace q262 := eq_true q262
                        have p19 : 0 ≤ ((ji14) : Int) := of_decide_eq_true (by first | (with_reducible assumption) | assumption)
                        have q19 : ((ji14) : Int) < ((x9_1.length : Int) : Int) := of_decide_eq_true (by first | (with_reducible assumption) | assumption)
                        obtain ⟨go19, co19, eo19, gb19, gl19, cl19, HG19⟩ := Kd.R_form HO_9.out (by omega)
                        (first | cases eo19 | (injection eo19 with ea_ en_ ec_; (first | subst ea_ | (injection ea_ with ea_; subst ea_)); subst ec_; clear en_))
                        have GB19 := Aside0.mk gb19
                        have GG19 := Aside0.mk HG19
                        clear gb19 gl19 HG19
                        (first | simp only [add_plain] at hx260_0 | skip)
                        (first | simp only [add_plain] at hx262_0 | skip)
                        obtain ⟨hx19_0, hf19_0⟩ := Kd.R_celln 0 HO_9.out ((ji14) : Int) p19 q19
                        replace p19 := eq_true p19
                        replace q19 := eq_true q19
                        have HP23 := Kd.R_putg HO_9.out ((ji14) : Int) (wrap64 ((rd x9_1 (ji14)) - 1))
                        go_wp2_with (first | ((with_reducible refine gate_store (t := 3) (p := 56) rfl ?_); (try (rw [drewN_self wr]; generalize hq_ : World.drewN wr _ = wr; have n0_ := Aside0.mk (Kd.R_at hq_ HO_8.out); have n1_ := Aside0.mk (Kd.R_at hq_ HO_9.out); have n2_ := Aside0.mk (below_at hq_ HB.out); clear hq_ HO_8 HO_9 HB; have HO_8 := n0_; have HO_9 := n1_; have HB := n2_; clear n0_ n1_ n2_; (try (obtain ⟨hyHP23_, hzHP23_⟩ := Kd.R_celln 0 HO_9.out ((ji14) : Int) (of_decide_eq_true (by first | (with_reducible assumption) | assumption)) (of_decide_eq_true (by first | (with_reducible assumption) | assumption)))); (try (have HP23 := Kd.R_putg HO_9.out ((ji14) : Int) (wrap64 ((rd x9_1 (ji14)) - 1)))))); refine store_event (t := 3) (p := 56) (v := ?vo_w24) (w1 := (wr.setCell ⟨go19, ((ji14) : Int).toNat, none⟩ (.int .i64 (wrap64 ((rd x9_1 (ji14)) - 1))))) ?hg ?ho ?hn ?hr ?_; (case ho => rfl); (case hg => rfl); (case hn => rfl); (case hr => first | (go_simp; done) | (go_simp; rfl)); intro w24 hw; have hg : wr.grownBy w24 (some go19) := (by rw [hw]; exact HP23.2); have hp_ : Kd.R (Kd.int .i64) 3 w24 w.heap.size (fun k_ => some k_ ≠ (.slice (some ad259) x8_1.length co21 : Value).ownBlock) (.slice (some ⟨go19, 0, none⟩) x9_1.length co22) y263 := (by rw [hw, Ny263.out]; exact HP23.1); clear HP23; have n0_ := Aside0.mk (Kd.R_after (v := (.slice (some ⟨go19, 0, none⟩) x9_1.length co22)) (v1 := (.slice (some ⟨go19, 0, none⟩) x9_1.length co22)) (ok := (fun _ => True)) (by (with_reducible repeat (first | apply Kd.R_alloc | apply Kd.R_drewN | apply Kd.R_drew)); exact Kd.R_mono HO_8.out (fun _ hk => ⟨trivial, hk⟩)) hg (.inl rfl)); have n1_ := Aside0.mk (hp_); have n2_ := Aside0.mk ((by rw [hw]; exact below_set (HB.out) GB19.out : Below w.heap.size w w24)); clear HO_8; clear HO_9; clear HB; have HO_8 := n0_; have HO_9 := n1_; have HB := n2_; clear n0_ n1_ n2_; clear hg hw hp_; have p20 : 0 ≤ (x10_1 : Int) := of_decide_eq_true (by first | (with_reducible assumption) | assumption); have q20 : (x10_1 : Int) < ((x8_1.length : Int) : Int) := of_decide_eq_true (by first | (with_reducible assumption) | assumption); obtain ⟨go20, co20, eo20, gb20, gl20, cl20, HG20⟩ := Kd.R_form HO_8.out (by omega); (first | cases eo20 | (injection eo20 with ea_ en_ ec_; (first | subst ea_ | (injection ea_ with ea_; subst ea_)); subst ec_; clear en_)); have GB20 := Aside0.mk gb20; have GG20 := Aside0.mk HG20; clear gb20 gl20 HG20; (first | simp only [add_plain] at hx259_0 | skip); obtain ⟨hx20_0, hf20_0⟩ := Kd.R_celln 0 HO_8.out (x10_1 : Int) p20 q20; replace p20 := eq_true p20; replace q20 := eq_true q20; have n_ := Aside0.mk (Kd.R_mono (ok' := (fun k_ => some k_ ≠ (.slice (some ⟨go19, 0, none⟩) x9_1.length co22 : Value).ownBlock)) HO_8.out (fun k_ hk => hk.2)); clear HO_8; have HO_8 := n_; clear n_; obtain ⟨hy25_, hz25_⟩ := Kd.R_celln 0 HO_8.out (x10_1 : Int) (of_decide_eq_true (by first | (with_reducible assumption) | assumption)) (of_decide_eq_true (by first | (with_reducible assumption) | assumption)); have HP25 := Kd.R_putg HO_8.out (x10_1 : Int) 0) | ((with_reducible refine gate_store (t := 3) (p := 59) rfl ?_); (try (rw [drewN_self w24]; generalize hq_ : World.drewN w24 _ = w24; have n0_ := Aside0.mk (Kd.R_at hq_ HO_8.out); have n1_ := Aside0.mk (Kd.R_at hq_ HO_9.out); have n2_ := Aside0.mk (below_at hq_ HB.out); clear hq_ HO_8 HO_9 HB; have HO_8 := n0_; have HO_9 := n1_; have HB := n2_; clear n0_ n1_ n2_; (try (have n_ := Aside0.mk (Kd.R_mono (ok' := (fun k_ => some k_ ≠ (.slice (some ⟨go19, 0, none⟩) x9_1.length co22 : Value).ownBlock)) HO_8.out (fun k_ hk => hk.2)); clear HO_8; have HO_8 := n_; clear n_)); (try (obtain ⟨hy25_, hz25_⟩ := Kd.R_celln 0 HO_8.out (x10_1 : Int) (of_decide_eq_true (by first | (with_reducible assumption) | assumption)) (of_decide_eq_true (by first | (with_reducible assumption) | assumption)))); (try (obtain ⟨hyHP25_, hzHP25_⟩ := Kd.R_celln 0 HO_8.out (x10_1 : Int) (of_decide_eq_true (by first | (with_reducible assumption) | assumption)) (of_decide_eq_true (by first | (with_reducible assumption) | assumption)))); (try (have HP25 := Kd.R_putg HO_8.out (x10_1 : Int) 0)))); refine store_event (t := 3) (p := 59) (v := ?vo_w26) (w1 := (w24.setCell ⟨go20, (x10_1 : Int).toNat, none⟩ (.int .i64 0))) ?hg ?ho ?hn ?hr ?_; (case ho => rfl); (case hg => rfl); (case hn => rfl); (case hr => first | (go_simp; done) | (go_simp; rfl)); intro w26 hw; have hg : w24.grownBy w26 (some go20) := (by rw [hw]; exact HP25.2); have hp_ : Kd.R (Kd.int .i64) 3 w26 w.heap.size (fun k_ => some k_ ≠ (.slice (some ⟨go19, 0, none⟩) x9_1.length co22 : Value).ownBlock) (.slice (some ⟨go20, 0, none⟩) x8_1.length co21) y264 := (by rw [hw, Ny264.out]; exact HP25.1); clear HP25; have n0_ := Aside0.mk (hp_); have n1_ := Aside0.mk (Kd.R_after (v := (.slice (some ⟨go20, 0, none⟩) x8_1.length co21)) (v1 := (.slice (some ⟨go20, 0, none⟩) x8_1.length co21)) (ok := (fun _ => True)) (by (with_reducible repeat (first | apply Kd.R_alloc | apply Kd.R_drewN | apply Kd.R_drew)); exact Kd.R_mono HO_9.out (fun _ hk => ⟨trivial, hk⟩)) hg (.inl rfl)); have n2_ := Aside0.mk ((by rw [hw]; exact below_set (HB.out) GB20.out : Below w.heap.size w w26)); clear HO_8; clear HO_9; clear HB; have HO_8 := n0_; have HO_9 := n1_; have HB := n2_; clear n0_ n1_ n2_; clear hg hw hp_))
                        repeat (go_quiet (first | ((with_reducible refine gate_store (t := 3) (p := 56) rfl ?_); (try (rw [drewN_self wr]; generalize hq_ : World.drewN wr _ = wr; have n0_ := Aside0.mk (Kd.R_at hq_ HO_8.out); have n1_ := Aside0.mk (Kd.R_at hq_ HO_9.out); have n2_ := Aside0.mk (below_at hq_ HB.out); clear hq_ HO_8 HO_9 HB; have HO_8 := n0_; have HO_9 := n1_; have HB := n2_; clear n0_ n1_ n2_; (try (obtain ⟨hyHP23_, hzHP23_⟩ := Kd.R_celln 0 HO_9.out ((ji14) : Int) (of_decide_eq_true (by first | (with_reducible assumption) | assumption)) (of_decide_eq_true (by first | (with_reducible assumption) | assumption)))); (try (have HP23 := Kd.R_putg HO_9.out ((ji14) : Int) (wrap64 ((rd x9_1 (ji14)) - 1)))))); refine store_event (t := 3) (p := 56) (v := ?vo_w24) (w1 := (wr.setCell ⟨go19, ((ji14) : Int).toNat, none⟩ (.int .i64 (wrap64 ((rd x9_1 (ji14)) - 1))))) ?hg ?ho ?hn ?hr ?_; (case ho => rfl); (case hg => rfl); (case hn => rfl); (case hr => first | (go_simp; done) | (go_simp; rfl)); intro w24 hw; have hg : wr.grownBy w24 (some go19) := (by rw [hw]; exact HP23.2); have hp_ : Kd.R (Kd.int .i64) 3 w24 w.heap.size (fun k_ => some k_ ≠ (.slice (some ad259) x8_1.length co21 : Value).ownBlock) (.slice (some ⟨go19, 0, none⟩) x9_1.length co22) y263 := (by rw [hw, Ny263.out]; exact HP23.1); clear HP23; have n0_ := Aside0.mk (Kd.R_after (v := (.slice (some ⟨go19, 0, none⟩) x9_1.length co22)) (v1 := (.slice (some ⟨go19, 0, none⟩) x9_1.length co22)) (ok := (fun _ => True)) (by (with_reducible repeat (first | apply Kd.R_alloc | apply Kd.R_drewN | apply Kd.R_drew)); exact Kd.R_mono HO_8.out (fun _ hk => ⟨trivial, hk⟩)) hg (.inl rfl)); have n1_ := Aside0.mk (hp_); have n2_ := Aside0.mk ((by rw [hw]; exact below_set (HB.out) GB19.out : Below w.heap.size w w24)); clear HO_8; clear HO_9; clear HB; have HO_8 := n0_; have HO_9 := n1_; have HB := n2_; clear n0_ n1_ n2_; clear hg hw hp_; have p20 : 0 ≤ (x10_1 : Int) := of_decide_eq_true (by first | (with_reducible assumption) | assumption); have q20 : (x10_1 : Int) < ((x8_1.length : Int) : Int) := of_decide_eq_true (by first | (with_reducible assumption) | assumption); obtain ⟨go20, co20, eo20, gb20, gl20, cl20, HG20⟩ := Kd.R_form HO_8.out (by omega); (first | cases eo20 | (injection eo20 with ea_ en_ ec_; (first | subst ea_ | (injection ea_ with ea_; subst ea_)); subst ec_; clear en_)); have GB20 := Aside0.mk gb20; have GG20 := Aside0.mk HG20; clear gb20 gl20 HG20; (first | simp only [add_plain] at hx259_0 | skip); obtain ⟨hx20_0, hf20_0⟩ := Kd.R_celln 0 HO_8.out (x10_1 : Int) p20 q20; replace p20 := eq_true p20; replace q20 := eq_true q20; have n_ := Aside0.mk (Kd.R_mono (ok' := (fun k_ => some k_ ≠ (.slice (some ⟨go19, 0, none⟩) x9_1.length co22 : Value).ownBlock)) HO_8.out (fun k_ hk => hk.2)); clear HO_8; have HO_8 := n_; clear n_; obtain ⟨hy25_, hz25_⟩ := Kd.R_celln 0 HO_8.out (x10_1 : Int) (of_decide_eq_true (by first | (with_reducible assumption) | assumption)) (of_decide_eq_true (by first | (with_reducible assumption) | assumption)); have HP25 := Kd.R_putg HO_8.out (x10_1 : Int) 0) | ((with_reducible refine gate_store (t := 3) (p := 59) rfl ?_); (try (rw [drewN_self w24]; generalize hq_ : World.drewN w24 _ = w24; have n0_ := Aside0.mk (Kd.R_at hq_ HO_8.out); have n1_ := Aside0.mk (Kd.R_at hq_ HO_9.out); have n2_ := Aside0.mk (below_at hq_ HB.out); clear hq_ HO_8 HO_9 HB; have HO_8 := n0_; have HO_9 := n1_; have HB := n2_; clear n0_ n1_ n2_; (try (have n_ := Aside0.mk (Kd.R_mono (ok' := (fun k_ => some k_ ≠ (.slice (some ⟨go19, 0, none⟩) x9_1.length co22 : Value).ownBlock)) HO_8.out (fun k_ hk => hk.2)); clear HO_8; have HO_8 := n_; clear n_)); (try (obtain ⟨hy25_, hz25_⟩ := Kd.R_celln 0 HO_8.out (x10_1 : Int) (of_decide_eq_true (by first | (with_reducible assumption) | assumption)) (of_decide_eq_true (by first | (with_reducible assumption) | assumption)))); (try (obtain ⟨hyHP25_, hzHP25_⟩ := Kd.R_celln 0 HO_8.out (x10_1 : Int) (of_decide_eq_true (by first | (with_reducible assumption) | assumption)) (of_decide_eq_true (by first | (with_reducible assumption) | assumption)))); (try (have HP25 := Kd.R_putg HO_8.out (x10_1 : Int) 0)))); refine store_event (t := 3) (p := 59) (v := ?vo_w26) (w1 := (w24.setCell ⟨go20, (x10_1 : Int).toNat, none⟩ (.int .i64 0))) ?hg ?ho ?hn ?hr ?_; (case ho => rfl); (case hg => rfl); (case hn => rfl); (case hr => first | (go_simp; done) | (go_simp; rfl)); intro w26 hw; have hg : w24.grownBy w26 (some go20) := (by rw [hw]; exact HP25.2); have hp_ : Kd.R (Kd.int .i64) 3 w26 w.heap.size (fun k_ => some k_ ≠ (.slice (some ⟨go19, 0, none⟩) x9_1.length co22 : Value).ownBlock) (.slice (some ⟨go20, 0, none⟩) x8_1.length co21) y264 := (by rw [hw, Ny264.out]; exact HP25.1); clear HP25; have n0_ := Aside0.mk (hp_); have n1_ := Aside0.mk (Kd.R_after (v := (.slice (some ⟨go20, 0, none⟩) x8_1.length co21)) (v1 := (.slice (some ⟨go20, 0, none⟩) x8_1.length co21)) (ok := (fun _ => True)) (by (with_reducible repeat (first | apply Kd.R_alloc | apply Kd.R_drewN | apply Kd.R_drew)); exact Kd.R_mono HO_9.out (fun _ hk => ⟨trivial, hk⟩)) hg (.inl rfl)); have n2_ := Aside0.mk ((by rw [hw]; exact below_set (HB.out) GB20.out : Below w.heap.size w w26)); clear HO_8; clear HO_9; clear HB; have HO_8 := n0_; have HO_9 := n1_; have HB := n2_; clear n0_ n1_ n2_; clear hg hw hp_)); try go_wp2_with (first | ((with_reducible refine gate_store (t := 3) (p := 56) rfl ?_); (try (rw [drewN_self wr]; generalize hq_ : World.drewN wr _ = wr; have n0_ := Aside0.mk (Kd.R_at hq_ HO_8.out); have n1_ := Aside0.mk (Kd.R_at hq_ HO_9.out); have n2_ := Aside0.mk (below_at hq_ HB.out); clear hq_ HO_8 HO_9 HB; have HO_8 := n0_; have HO_9 := n1_; have HB := n2_; clear n0_ n1_ n2_; (try (obtain ⟨hyHP23_, hzHP23_⟩ := Kd.R_celln 0 HO_9.out ((ji14) : Int) (of_decide_eq_true (by first | (with_reducible assumption) | assumption)) (of_decide_eq_true (by first | (with_reducible assumption) | assumption)))); (try (have HP23 := Kd.R_putg HO_9.out ((ji14) : Int) (wrap64 ((rd x9_1 (ji14)) - 1)))))); refine store_event (t := 3) (p := 56) (v := ?vo_w24) (w1 := (wr.setCell ⟨go19, ((ji14) : Int).toNat, none⟩ (.int .i64 (wrap64 ((rd x9_1 (ji14)) - 1))))) ?hg ?ho ?hn ?hr ?_; (case ho => rfl); (case hg => rfl); (case hn => rfl); (case hr => first | (go_simp; done) | (go_simp; rfl)); intro w24 hw; have hg : wr.grownBy w24 (some go19) := (by rw [hw]; exact HP23.2); have hp_ : Kd.R (Kd.int .i64) 3 w24 w.heap.size (fun k_ => some k_ ≠ (.slice (some ad259) x8_1.length co21 : Value).ownBlock) (.slice (some ⟨go19, 0, none⟩) x9_1.length co22) y263 := (by rw [hw, Ny263.out]; exact HP23.1); clear HP23; have n0_ := Aside0.mk (Kd.R_after (v := (.slice (some ⟨go19, 0, none⟩) x9_1.length co22)) (v1 := (.slice (some ⟨go19, 0, none⟩) x9_1.length co22)) (ok := (fun _ => True)) (by (with_reducible repeat (first | apply Kd.R_alloc | apply Kd.R_drewN | apply Kd.R_drew)); exact Kd.R_mono HO_8.out (fun _ hk => ⟨trivial, hk⟩)) hg (.inl rfl)); have n1_ := Aside0.mk (hp_); have n2_ := Aside0.mk ((by rw [hw]; exact below_set (HB.out) GB19.out : Below w.heap.size w w24)); clear HO_8; clear HO_9; clear HB; have HO_8 := n0_; have HO_9 := n1_; have HB := n2_; clear n0_ n1_ n2_; clear hg hw hp_; have p20 : 0 ≤ (x10_1 : Int) := of_decide_eq_true (by first | (with_reducible assumption) | assumption); have q20 : (x10_1 : Int) < ((x8_1.length : Int) : Int) := of_decide_eq_true (by first | (with_reducible assumption) | assumption); obtain ⟨go20, co20, eo20, gb20, gl20, cl20, HG20⟩ := Kd.R_form HO_8.out (by omega); (first | cases eo20 | (injection eo20 with ea_ en_ ec_; (first | subst ea_ | (injection ea_ with ea_; subst ea_)); subst ec_; clear en_)); have GB20 := Aside0.mk gb20; have GG20 := Aside0.mk HG20; clear gb20 gl20 HG20; (first | simp only [add_plain] at hx259_0 | skip); obtain ⟨hx20_0, hf20_0⟩ := Kd.R_celln 0 HO_8.out (x10_1 : Int) p20 q20; replace p20 := eq_true p20; replace q20 := eq_true q20; have n_ := Aside0.mk (Kd.R_mono (ok' := (fun k_ => some k_ ≠ (.slice (some ⟨go19, 0, none⟩) x9_1.length co22 : Value).ownBlock)) HO_8.out (fun k_ hk => hk.2)); clear HO_8; have HO_8 := n_; clear n_; obtain ⟨hy25_, hz25_⟩ := Kd.R_celln 0 HO_8.out (x10_1 : Int) (of_decide_eq_true (by first | (with_reducible assumption) | assumption)) (of_decide_eq_true (by first | (with_reducible assumption) | assumption)); have HP25 := Kd.R_putg HO_8.out (x10_1 : Int) 0) | ((with_reducible refine gate_store (t := 3) (p := 59) rfl ?_); (try (rw [drewN_self w24]; generalize hq_ : World.drewN w24 _ = w24; have n0_ := Aside0.mk (Kd.R_at hq_ HO_8.out); have n1_ := Aside0.mk (Kd.R_at hq_ HO_9.out); have n2_ := Aside0.mk (below_at hq_ HB.out); clear hq_ HO_8 HO_9 HB; have HO_8 := n0_; have HO_9 := n1_; have HB := n2_; clear n0_ n1_ n2_; (try (have n_ := Aside0.mk (Kd.R_mono (ok' := (fun k_ => some k_ ≠ (.slice (some ⟨go19, 0, none⟩) x9_1.length co22 : Value).ownBlock)) HO_8.out (fun k_ hk => hk.2)); clear HO_8; have HO_8 := n_; clear n_)); (try (obtain ⟨hy25_, hz25_⟩ := Kd.R_celln 0 HO_8.out (x10_1 : Int) (of_decide_eq_true (by first | (with_reducible assumption) | assumption)) (of_decide_eq_true (by first | (with_reducible assumption) | assumption)))); (try (obtain ⟨hyHP25_, hzHP25_⟩ := Kd.R_celln 0 HO_8.out (x10_1 : Int) (of_decide_eq_true (by first | (with_reducible assumption) | assumption)) (of_decide_eq_true (by first | (with_reducible assumption) | assumption)))); (try (have HP25 := Kd.R_putg HO_8.out (x10_1 : Int) 0)))); refine store_event (t := 3) (p := 59) (v := ?vo_w26) (w1 := (w24.setCell ⟨go20, (x10_1 : Int).toNat, none⟩ (.int .i64 0))) ?hg ?ho ?hn ?hr ?_; (case ho => rfl); (case hg => rfl); (case hn => rfl); (case hr => first | (go_simp; done) | (go_simp; rfl)); intro w26 hw; have hg : w24.grownBy w26 (some go20) := (by rw [hw]; exact HP25.2); have hp_ : Kd.R (Kd.int .i64) 3 w26 w.heap.size (fun k_ => some k_ ≠ (.slice (some ⟨go19, 0, none⟩) x9_1.length co22 : Value).ownBlock) (.slice (some ⟨go20, 0, none⟩) x8_1.length co21) y264 := (by rw [hw, Ny264.out]; exact HP25.1); clear HP25; have n0_ := Aside0.mk (hp_); have n1_ := Aside0.mk (Kd.R_after (v := (.slice (some ⟨go20, 0, none⟩) x8_1.length co21)) (v1 := (.slice (some ⟨go20, 0, none⟩) x8_1.length co21)) (ok := (fun _ => True)) (by (with_reducible repeat (first | apply Kd.R_alloc | apply Kd.R_drewN | apply Kd.R_drew)); exact Kd.R_mono HO_9.out (fun _ hk => ⟨trivial, hk⟩)) hg (.inl rfl)); have n2_ := Aside0.mk ((by rw [hw]; exact below_set (HB.out) GB20.out : Below w.heap.size w w26)); clear HO_8; clear HO_9; clear HB; have HO_8 := n0_; have HO_9 := n1_; have HB := n2_; clear n0_ n1_ n2_; clear hg hw hp_)))
                        go_roundg k1
                        case measure => have := HK1.out; omega
                        case rel => exact ⟨(y264), (y263), (wrap64 (x10_1 - 1)), (by first | rfl | (simp; done) | (simp [*]; done)), H', ⟨by have := HK1.out; omega⟩, ⟨by (with_reducible repeat (first | apply Kd.R_alloc | apply Kd.R_drewN | apply Kd.R_drew)); exact HO_8.out⟩, ⟨by (with_reducible repeat (first | apply Kd.R_alloc | apply Kd.R_drewN | apply Kd.R_drew)); exact Kd.R_mono HO_9.out (fun _ hk => hk.2)⟩, ⟨by repeat (first | (with_reducible first | exact HB.out | apply below_alloc | apply pw_below_drewN | apply below_drew1) | exact HB.out)⟩⟩
                      · rw [if_neg c18] at H
                        have c18b0 : decide ((rd l1 (ji14)) < (rd x9_1 (ji14))) = false := decide_eq_false c18
                        clear c18
                        have H' := Aside0.mk H
                        clear H
                        obtain ⟨Ao27, co27, eo27⟩ := Kd.R_slice HO_8.out
                        subst eo27
                        have p259 : 0 ≤ (x10_1 : Int) := of_decide_eq_true (by first | (with_reducible assumption) | assumption)
                        have q259 : x10_1 < (x8_1.length : Int) := of_decide_eq_true (by first | (with_reducible assumption) | assumption)
                        (try (obtain ⟨AoX_, coX_, eoX_⟩ := Kd.R_slice HO_8.out; subst eoX_))
                        obtain ⟨ad259, e259, hx259_0⟩ := Kd.at_int (Kd.R_reads' HO_8.out).2.2 x10_1 p259 q259
                        cases e259
                        replace p259 := eq_true p259
                        replace q259 := eq_true q259
                        obtain ⟨Ao28, co28, eo28⟩ := Kd.R_slice HO_9.out
                        subst eo28
                        have p260 : 0 ≤ ((ji14) : Int) := of_decide_eq_true (by first | (with_reducible assumption) | assumption)
                        have q260 : (ji14) < (x9_1.length : Int) := of_decide_eq_true (by first | (with_reducible assumption) | assumption)
                        (try (obtain ⟨AoX_, coX_, eoX_⟩ := Kd.R_slice HO_9.out; subst eoX_))
                        obtain ⟨ad260, e260, hx260_0⟩ := Kd.at_int (Kd.R_reads' HO_9.out).2.2 (ji14) p260 q260
                        cases e260
                        replace p260 := eq_true p260
                        replace q260 := eq_true q260
                        have p261 : 0 ≤ ((ji14) : Int) := of_decide_eq_true (by first | (with_reducible assumption) | assumption)
                        have q261 : (ji14) < (l1.length : Int) := of_decide_eq_true (by first | (with_reducible assumption) | assumption)
                        obtain ⟨ad261, e261, hx261_0⟩ := Kd.at_int HR1.out (ji14) p261 q261
                        cases e261
                        replace hx261_0 := (HB.out.cell (World.block_lt_of_cell? w _ hx261_0)).trans hx261_0
                        replace p261 := eq_true p261
                        replace q261 := eq_true q261
                        go_wp2
                        repeat (go_quiet (fail); try go_wp2)
                        go_roundg k1
                        case measure => have := HK1.out; omega
                        case rel => exact ⟨(x8_1), (x9_1), (wrap64 (x10_1 - 1)), (by first | rfl | (simp; done) | (simp [*]; done)), H', ⟨by have := HK1.out; omega⟩, ⟨by (with_reducible repeat (first | apply Kd.R_alloc | apply Kd.R_drewN | apply Kd.R_drew)); exact HO_8.out⟩, ⟨by (with_reducible repeat (first | apply Kd.R_alloc | apply Kd.R_drewN | apply Kd.R_drew)); exact HO_9.out⟩, ⟨by repeat (first | (with_reducible first | exact HB.out | apply below_alloc | apply pw_below_drewN | apply below_drew1) | exact HB.out)⟩⟩
                    · rw [if_neg c17] at H
                      exact absurd H (by simp)
                  · rw [if_neg c16] at H
                    exact absurd H (by simp)
                · rw [if_neg c15] at H
                  exact absurd H (by simp)
              · rw [if_neg c13] at H
                exact absurd H (by simp)
            · rw [if_neg c12] at H
              exact absurd H (by simp)
          · rw [if_neg c11] at H
            have c11b0 : decide (0 ≤ x10_1) = false := decide_eq_false c11
            clear c11
            have H' := Aside0.mk H
            clear H
            go_wp2
            repeat (go_quiet (fail); try go_wp2)
            go_loopg [12] k1 (fun kq v12 w' => ∃ (x8_2 : List Int) (x9_2 : List Int) (x12_2 : Int), v12 = .int .i64 x12_2 ∧ Aside0 (flagstoneref13_Reweigh.l1 kq l1 x8_2 x9_2 x12_2 = some (r1, r2)) ∧ Aside0 (kq ≤ k1) ∧ Aside0 (Kd.R (Kd.int .i64) 3 w' w.heap.size (fun k_ => some k_ ≠ (v257 : Value).ownBlock) v254 x8_2) ∧ Aside0 (Kd.R (Kd.int .i64) 3 w' w.heap.size (fun k_ => some k_ ≠ (v254 : Value).ownBlock) v257 x9_2) ∧ Aside0 (Below w.heap.size w w'))
            case atStart => exact ⟨(x8_1), (x9_1), (0), (by first | rfl | (simp; done) | (simp [*]; done)), H', ⟨Nat.le_refl _⟩, ⟨by (with_reducible repeat (first | apply Kd.R_alloc | apply Kd.R_drewN | apply Kd.R_drew)); exact HO_8.out⟩, ⟨by (with_reducible repeat (first | apply Kd.R_alloc | apply Kd.R_drewN | apply Kd.R_drew)); exact HO_9.out⟩, ⟨by repeat (first | (with_reducible first | exact HB.out | apply below_alloc | apply pw_below_drewN | apply below_drew1) | exact HB.out)⟩⟩
            case round =>
              clear H'
              try clear c1
              try clear p1
              try clear q1
              try clear hx1
              try clear p2
              try clear q2
              try clear hx2
              try clear hf2
              try clear c4
              try clear c4b0
              try clear c4b1
              try clear c6
              try clear c6b0
              try clear c6b1
              try clear p6
              try clear c11
              try clear c11b0
              try clear c12
              try clear c12b0
              try clear c13
              try clear c13b0
              try clear c15
              try clear c15b0
              try clear c16
              try clear c16b0
              try clear c17
              try clear c17b0
              try clear c18
              try clear c18b0
              try clear p19
              try clear q19
              try clear hx19
              try clear hf19
              try clear p20
              try clear q20
              try clear hx20
              try clear hf20
              try clear p25
              try clear q25
              try clear hx25
              try clear p26
              try clear q26
              try clear hx26
              try clear hx19_0
              try clear hx20_0
              try clear hx259_0
              try clear hx260_0
              try clear hx261_0
              try clear hx262_0
              try clear p19
              try clear p2
              try clear p20
              try clear p259
              try clear p260
              try clear p261
              try clear p262
              try clear q19
              try clear q20
              try clear q259
              try clear q260
              try clear q261
              try clear q262
              obtain ⟨x8_2, x9_2, x12_2, rfl, HA, HK2, HO_8, HO_9, HB⟩ := hrel
              cases gk with
              | zero => exact absurd HA.out (by simp [flagstoneref13_Reweigh.l1])
              | succ k2 =>
                have H := HA.out
                clear HA
                simp only [flagstoneref13_Reweigh.l1] at H
                by_cases c29 : x12_2 < 10000
                · rw [if_pos c29] at H
                  have c29b0 : decide (x12_2 < 10000) = true := decide_eq_true c29
                  clear c29
                  have H' := Aside0.mk H
                  clear H
                  go_wp2
                  repeat (go_quiet (fail); try go_wp2)
                  go_loopg [13] k2 (fun kq v13 w' => ∃ (x8_3 : List Int) (x9_3 : List Int) (x13_3 : Int), v13 = .int .i64 x13_3 ∧ Aside0 (flagstoneref13_Reweigh.l2 kq l1 x8_3 x9_3 x12_2 x13_3 = some (r1, r2)) ∧ Aside0 (kq ≤ k2) ∧ Aside0 (Kd.R (Kd.int .i64) 3 w' w.heap.size (fun k_ => some k_ ≠ (v257 : Value).ownBlock) v254 x8_3) ∧ Aside0 (Kd.R (Kd.int .i64) 3 w' w.heap.size (fun k_ => some k_ ≠ (v254 : Value).ownBlock) v257 x9_3) ∧ Aside0 (Below w.heap.size w w'))
                  case atStart => exact ⟨(x8_2), (x9_2), (0), (by first | rfl | (simp; done) | (simp [*]; done)), H', ⟨Nat.le_refl _⟩, ⟨by (with_reducible repeat (first | apply Kd.R_alloc | apply Kd.R_drewN | apply Kd.R_drew)); exact HO_8.out⟩, ⟨by (with_reducible repeat (first | apply Kd.R_alloc | apply Kd.R_drewN | apply Kd.R_drew)); exact HO_9.out⟩, ⟨by repeat (first | (with_reducible first | exact HB.out | apply below_alloc | apply pw_below_drewN | apply below_drew1) | exact HB.out)⟩⟩
                  case round =>
                    clear H'
                    try clear c1
                    try clear p1
                    try clear q1
                    try clear hx1
                    try clear c2
                    try clear p2
                    try clear q2
                    try clear hx2
                    try clear hf2
                    try clear c4
                    try clear c4b0
                    try clear c4b1
                    try clear c6
                    try clear c6b0
                    try clear c6b1
                    try clear p6
                    try clear c11
                    try clear c11b0
                    try clear c12
                    try clear c12b0
                    try clear c13
                    try clear c13b0
                    try clear c15
                    try clear c15b0
                    try clear c16
                    try clear c16b0
                    try clear c17
                    try clear c17b0
                    try clear c18
                    try clear c18b0
                    try clear p19
                    try clear q19
                    try clear hx19
                    try clear hf19
                    try clear p20
                    try clear q20
                    try clear hx20
                    try clear hf20
                    try clear p25
                    try clear q25
                    try clear hx25
                    try clear p26
                    try clear q26
                    try clear hx26
                    try clear c29
                    try clear c29b0
                    try clear hx19_0
                    try clear hx20_0
                    try clear hx259_0
                    try clear hx260_0
                    try clear hx261_0
                    try clear hx262_0
                    try clear p1
                    try clear p19
                    try clear p2
                    try clear p20
                    try clear p25
                    try clear p259
                    try clear p26
                    try clear p260
                    try clear p261
                    try clear p262
                    try clear p6
                    try clear q1
                    try clear q19
                    try clear q2
                    try clear q20
                    try clear q25
                    try clear q259
                    try clear q26
                    try clear q260
                    try clear q261
                    try clear q262
                    obtain ⟨x8_3, x9_3, x13_3, rfl, HA, HK3, HO_8, HO_9, HB⟩ := hrel
                    cases gk with
                    | zero => exact absurd HA.out (by simp [flagstoneref13_Reweigh.l2])
                    | succ k3 =>
                      have H := HA.out
                      clear HA
                      simp only [flagstoneref13_Reweigh.l2] at H
                      have HC30 := Aside0.mk H
                      clear H
                      go_upto_region 20 with (fail)
                      repeat (go_quiet (fail); go_upto_region 20 with (fail))
                      go_cut [74] (fun v74 wc => ∃ (kq : Nat) (x74_29 : Bool), v74 = .bool x74_29 ∧ Aside0 (flagstoneref13_Reweigh.j3 kq l1 x8_3 x9_3 x12_2 x13_3 x74_29 = some (r1, r2)) ∧ Aside0 (kq ≤ k3) ∧ Aside0 (Kd.R (Kd.int .i64) 3 wc w.heap.size (fun k_ => some k_ ≠ (v257 : Value).ownBlock) v254 x8_3) ∧ Aside0 (Kd.R (Kd.int .i64) 3 wc w.heap.size (fun k_ => some k_ ≠ (v254 : Value).ownBlock) v257 x9_3) ∧ Aside0 (Below w.heap.size w wc))
                      case first =>
                        have H := HC30.out
                        clear HC30
                        by_cases c31 : x13_3 < (l1.length : Int)
                        · rw [if_pos c31] at H
                          have c31b0 : decide (x13_3 < (l1.length : Int)) = true := decide_eq_true c31
                          clear c31
                          (first | rw [c31b0] | (simp only [i64_w, i32_w]; rw [c31b0]) | skip)
                          by_cases c32 : 0 ≤ x12_2
                          · rw [if_pos c32] at H
                            have c32b0 : decide (0 ≤ x12_2) = true := decide_eq_true c32
                            clear c32
                            by_cases c33 : x12_2 < (x8_3.length : Int)
                            · rw [if_pos c33] at H
                              have c33b0 : decide (x12_2 < (x8_3.length : Int)) = true := decide_eq_true c33
                              clear c33
                              have H' := Aside0.mk H
                              clear H
                              obtain ⟨Ao34, co34, eo34⟩ := Kd.R_slice HO_8.out
                              subst eo34
                              have p268 : 0 ≤ (x12_2 : Int) := of_decide_eq_true (by first | (with_reducible assumption) | assumption)
                              have q268 : x12_2 < (x8_3.length : Int) := of_decide_eq_true (by first | (with_reducible assumption) | assumption)
                              (try (obtain ⟨AoX_, coX_, eoX_⟩ := Kd.R_slice HO_8.out; subst eoX_))
                              obtain ⟨ad268, e268, hx268_0⟩ := Kd.at_int (Kd.R_reads' HO_8.out).2.2 x12_2 p268 q268
                              cases e268
                              replace p268 := eq_true p268
                              replace q268 := eq_true q268
                              go_wp2
                              repeat (go_quiet (fail); try go_wp2)
                              go_meet
                              case rel => exact ⟨_, (((rd x8_3 x12_2) == 0)), (by first | rfl | (simp; done) | (simp [*]; done)), H', ⟨by have := HK1.out; have := HK2.out; have := HK3.out; first | omega | exact Nat.le_refl _⟩, ⟨by (with_reducible repeat (first | apply Kd.R_alloc | apply Kd.R_drewN | apply Kd.R_drew)); exact HO_8.out⟩, ⟨by (with_reducible repeat (first | apply Kd.R_alloc | apply Kd.R_drewN | apply Kd.R_drew)); exact HO_9.out⟩, ⟨by repeat (first | (with_reducible first | exact HB.out | apply below_alloc | apply pw_below_drewN | apply below_drew1) | exact HB.out)⟩⟩
                            · rw [if_neg c33] at H
                              exact absurd H (by simp)
                          · rw [if_neg c32] at H
                            exact absurd H (by simp)
                        · rw [if_neg c31] at H
                          have c31b0 : decide (x13_3 < (l1.length : Int)) = false := decide_eq_false c31
                          clear c31
                          (first | rw [c31b0] | (simp only [i64_w, i32_w]; rw [c31b0]) | skip)
                          have H' := Aside0.mk H
                          clear H
                          go_wp2
                          repeat (go_quiet (fail); try go_wp2)
                          go_meet
                          case rel => exact ⟨_, (false), (by first | rfl | (simp; done) | (simp [*]; done)), H', ⟨by have := HK1.out; have := HK2.out; have := HK3.out; first | omega | exact Nat.le_refl _⟩, ⟨by (with_reducible repeat (first | apply Kd.R_alloc | apply Kd.R_drewN | apply Kd.R_drew)); exact HO_8.out⟩, ⟨by (with_reducible repeat (first | apply Kd.R_alloc | apply Kd.R_drewN | apply Kd.R_drew)); exact HO_9.out⟩, ⟨by repeat (first | (with_reducible first | exact HB.out | apply below_alloc | apply pw_below_drewN | apply below_drew1) | exact HB.out)⟩⟩
                      case rest =>
                        clear HC30
                        try clear c1
                        try clear p1
                        try clear q1
                        try clear hx1
                        try clear c2
                        try clear p2
                        try clear q2
                        try clear hx2
                        try clear hf2
                        try clear c3
                        try clear c4
                        try clear c4b0
                        try clear c4b1
                        try clear c6
                        try clear c6b0
                        try clear c6b1
                        try clear p6
                        try clear c11
                        try clear c11b0
                        try clear c12
                        try clear c12b0
                        try clear c13
                        try clear c13b0
                        try clear c15
                        try clear c15b0
                        try clear c16
                        try clear c16b0
                        try clear c17
                        try clear c17b0
                        try clear c18
                        try clear c18b0
                        try clear p19
                        try clear q19
                        try clear hx19
                        try clear hf19
                        try clear p20
                        try clear q20
                        try clear hx20
                        try clear hf20
                        try clear p25
                        try clear q25
                        try clear hx25
                        try clear p26
                        try clear q26
                        try clear hx26
                        try clear c29
                        try clear c29b0
                        try clear c31
                        try clear c31b0
                        try clear c32
                        try clear c32b0
                        try clear c33
                        try clear c33b0
                        try clear hx19_0
                        try clear hx20_0
                        try clear hx259_0
                        try clear hx260_0
                        try clear hx261_0
                        try clear hx262_0
                        try clear hx268_0
                        try clear p1
                        try clear p19
                        try clear p2
                        try clear p20
                        try clear p25
                        try clear p259
                        try clear p26
                        try clear p260
                        try clear p261
                        try clear p262
                        try clear p268
                        try clear p6
                        try clear q1
                        try clear q19
                        try clear q2
                        try clear q20
                        try clear q25
                        try clear q259
                        try clear q26
                        try clear q260
                        try clear q261
                        try clear q262
                        try clear q268
                        obtain ⟨kq, x74_29, rfl, HA, HJ29, HO_8, HO_9, HB⟩ := hcut
                        cases kq with
                        | zero => exact absurd HA.out (by simp [flagstoneref13_Reweigh.j3])
                        | succ kj29 =>
                          have H := HA.out
                          clear HA
                          simp only [flagstoneref13_Reweigh.j3] at H
                          by_cases c35 : x74_29 = true
                          · subst c35
                            have H1 : (if 0 ≤ x13_3 then (if x13_3 < (x9_3.length : Int) then (if x13_3 < (l1.length : Int) then (if (rd x9_3 x13_3) < (rd l1 x13_3) then (if 0 ≤ x12_2 then (if x12_2 < (x8_3.length : Int) then (flagstoneref13_Reweigh.l2 kj29 l1 (x8_3.set (x12_2 : Int).toNat (wrap64 (x13_3 + 1))) (x9_3.set (x13_3 : Int).toNat (wrap64 ((rd x9_3 x13_3) + 1))) x12_2 (wrap64 (x13_3 + 1))) else (none)) else (none)) else (flagstoneref13_Reweigh.l2 kj29 l1 x8_3 x9_3 x12_2 (wrap64 (x13_3 + 1)))) else (none)) else (none)) else (none)) = some (r1, r2) := by rw [if_pos rfl] at H; exact H
                            clear H
                            have H := H1
                            clear H1
                            by_cases c36 : 0 ≤ x13_3
                            · rw [if_pos c36] at H
                              have c36b0 : decide (0 ≤ x13_3) = true := decide_eq_true c36
                              clear c36
                              by_cases c37 : x13_3 < (x9_3.length : Int)
                              · rw [if_pos c37] at H
                                have c37b0 : decide (x13_3 < (x9_3.length : Int)) = true := decide_eq_true c37
                                clear c37
                                by_cases c38 : x13_3 < (l1.length : Int)
                                · rw [if_pos c38] at H
                                  have c38b0 : decide (x13_3 < (l1.length : Int)) = true := decide_eq_true c38
                                  clear c38
                                  by_cases c39 : (rd x9_3 x13_3) < (rd l1 x13_3)
                                  · rw [if_pos c39] at H
                                    have c39b0 : decide ((rd x9_3 x13_3) < (rd l1 x13_3)) = true := decide_eq_true c39
                                    clear c39
                                    obtain ⟨y272, hy272⟩ : ∃ y_ : List Int, y_ = (x9_3.set (x13_3 : Int).toNat (wrap64 ((rd x9_3 x13_3) + 1))) := ⟨_, rfl⟩
                                    replace H : (if 0 ≤ x12_2 then (if x12_2 < (x8_3.length : Int) then (flagstoneref13_Reweigh.l2 kj29 l1 (x8_3.set (x12_2 : Int).toNat (wrap64 (x13_3 + 1))) y272 x12_2 (wrap64 (x13_3 + 1))) else (none)) else (none)) = some (r1, r2) := by first | (rw [hy272]; with_reducible exact H) | (have H2_ := (Option.bind_some _ _).symm.trans H; rw [hy272]; with_reducible exact H2_) | (have H2_ := (Option.bind_some _ _).symm.trans H; with_reducible exact H2_) | with_reducible exact H | (rw [hy272]; exact H) | exact H
                                    have Ny272 := Aside0.mk hy272
                                    clear hy272
                                    by_cases c41 : 0 ≤ x12_2
                                    · rw [if_pos c41] at H
                                      have c41b0 : decide (0 ≤ x12_2) = true := decide_eq_true c41
                                      clear c41
                                      by_cases c42 : x12_2 < (x8_3.length : Int)
                                      · rw [if_pos c42] at H
                                        have c42b0 : decide (x12_2 < (x8_3.length : Int)) = true := decide_eq_true c42
                                        clear c42
                                        obtain ⟨y273, hy273⟩ : ∃ y_ : List Int, y_ = (x8_3.set (x12_2 : Int).toNat (wrap64 (x13_3 + 1))) := ⟨_, rfl⟩
                                        replace H : (flagstoneref13_Reweigh.l2 kj29 l1 y273 y272 x12_2 (wrap64 (x13_3 + 1))) = some (r1, r2) := by first | (rw [hy273]; with_reducible exact H) | (have H2_ := (Option.bind_some _ _).symm.trans H; rw [hy273]; with_reducible exact H2_) | (have H2_ := (Option.bind_some _ _).symm.trans H; with_reducible exact H2_) | with_reducible exact H | (rw [hy273]; exact H) | exact H
                                        have Ny273 := Aside0.mk hy273
                                        clear hy273
                                        have H' := Aside0.mk H
                                        clear H
                                        obtain ⟨Ao44, co44, eo44⟩ := Kd.R_slice HO_9.out
                                        subst eo44
                                        have p269 : 0 ≤ (x13_3 : Int) := of_decide_eq_true (by first | (with_reducible assumption) | assumption)
                                        have q269 : x13_3 < (x9_3.length : Int) := of_decide_eq_true (by first | (with_reducible assumption) | assumption)
                                        (try (obtain ⟨AoX_, coX_, eoX_⟩ := Kd.R_slice HO_9.out; subst eoX_))
                                        obtain ⟨ad269, e269, hx269_0⟩ := Kd.at_int (Kd.R_reads' HO_9.out).2.2 x13_3 p269 q269
                                        cases e269
                                        replace p269 := eq_true p269
                                        replace q269 := eq_true q269
                                        have p270 : 0 ≤ (x13_3 : Int) := of_decide_eq_true (by first | (with_reducible assumption) | assumption)
                                        have q270 : x13_3 < (l1.length : Int) := of_decide_eq_true (by first | (with_reducible assumption) | assumption)
                                        obtain ⟨ad270, e270, hx270_0⟩ := Kd.at_int HR1.out x13_3 p270 q270
                                        cases e270
                                        replace hx270_0 := (HB.out.cell (World.block_lt_of_cell? w _ hx270_0)).trans hx270_0
                                        replace p270 := eq_true p270
                                        replace q270 := eq_true q270
                                        have p271 : 0 ≤ (x13_3 : Int) := of_decide_eq_true (by first | (with_reducible assumption) | assumption)
                                        have q271 : x13_3 < (x9_3.length : Int) := of_decide_eq_true (by first | (with_reducible assumption) | assumption)
                                        (try (obtain ⟨AoX_, coX_, eoX_⟩ := Kd.R_slice HO_9.out; subst eoX_))
                                        obtain ⟨ad271, e271, hx271_0⟩ := Kd.at_int (Kd.R_reads' HO_9.out).2.2 x13_3 p271 q271
                                        obtain rfl : ad269 = ad271 := (by injection e271)
                                        replace p271 := eq_true p271
                                        replace q271 := eq_true q271
                                        have p40 : 0 ≤ (x13_3 : Int) := of_decide_eq_true (by first | (with_reducible assumption) | assumption)
                                        have q40 : (x13_3 : Int) < ((x9_3.length : Int) : Int) := of_decide_eq_true (by first | (with_reducible assumption) | assumption)
                                        obtain ⟨go40, co40, eo40, gb40, gl40, cl40, HG40⟩ := Kd.R_form HO_9.out (by omega)
                                        (first | cases eo40 | (injection eo40 with ea_ en_ ec_; (first | subst ea_ | (injection ea_ with ea_; subst ea_)); subst ec_; clear en_))
                                        have GB40 := Aside0.mk gb40
                                        have GG40 := Aside0.mk HG40
                                        clear gb40 gl40 HG40
                                        (first | simp only [add_plain] at hx269_0 | skip)
                                        (first | simp only [add_plain] at hx271_0 | skip)
                                        obtain ⟨hx40_0, hf40_0⟩ := Kd.R_celln 0 HO_9.out (x13_3 : Int) p40 q40
                                        replace p40 := eq_true p40
                                        replace q40 := eq_true q40
                                        have HP45 := Kd.R_putg HO_9.out (x13_3 : Int) (wrap64 ((rd x9_3 x13_3) + 1))
                                        go_wp2_with (first | ((with_reducible refine gate_store (t := 3) (p := 91) rfl ?_); (try (rw [drewN_self wc]; generalize hq_ : World.drewN wc _ = wc; have n0_ := Aside0.mk (Kd.R_at hq_ HO_8.out); have n1_ := Aside0.mk (Kd.R_at hq_ HO_9.out); have n2_ := Aside0.mk (below_at hq_ HB.out); clear hq_ HO_8 HO_9 HB; have HO_8 := n0_; have HO_9 := n1_; have HB := n2_; clear n0_ n1_ n2_; (try (obtain ⟨hyHP45_, hzHP45_⟩ := Kd.R_celln 0 HO_9.out (x13_3 : Int) (of_decide_eq_true (by first | (with_reducible assumption) | assumption)) (of_decide_eq_true (by first | (with_reducible assumption) | assumption)))); (try (have HP45 := Kd.R_putg HO_9.out (x13_3 : Int) (wrap64 ((rd x9_3 x13_3) + 1)))))); refine store_event (t := 3) (p := 91) (v := ?vo_w46) (w1 := (wc.setCell ⟨go40, (x13_3 : Int).toNat, none⟩ (.int .i64 (wrap64 ((rd x9_3 x13_3) + 1))))) ?hg ?ho ?hn ?hr ?_; (case ho => rfl); (case hg => rfl); (case hn => rfl); (case hr => first | (go_simp; done) | (go_simp; rfl)); intro w46 hw; have hg : wc.grownBy w46 (some go40) := (by rw [hw]; exact HP45.2); have hp_ : Kd.R (Kd.int .i64) 3 w46 w.heap.size (fun k_ => some k_ ≠ (v254 : Value).ownBlock) (.slice (some ⟨go40, 0, none⟩) x9_3.length co44) y272 := (by rw [hw, Ny272.out]; exact HP45.1); clear HP45; have n0_ := Aside0.mk (Kd.R_after (v := (.slice (some ⟨go40, 0, none⟩) x9_3.length co44)) (v1 := (.slice (some ⟨go40, 0, none⟩) x9_3.length co44)) (ok := (fun _ => True)) (by (with_reducible repeat (first | apply Kd.R_alloc | apply Kd.R_drewN | apply Kd.R_drew)); exact Kd.R_mono HO_8.out (fun _ hk => ⟨trivial, hk⟩)) hg (.inl rfl)); have n1_ := Aside0.mk (hp_); have n2_ := Aside0.mk ((by rw [hw]; exact below_set (HB.out) GB40.out : Below w.heap.size w w46)); clear HO_8; clear HO_9; clear HB; have HO_8 := n0_; have HO_9 := n1_; have HB := n2_; clear n0_ n1_ n2_; clear hg hw hp_; have p43 : 0 ≤ (x12_2 : Int) := of_decide_eq_true (by first | (with_reducible assumption) | assumption); have q43 : (x12_2 : Int) < ((x8_3.length : Int) : Int) := of_decide_eq_true (by first | (with_reducible assumption) | assumption); obtain ⟨go43, co43, eo43, gb43, gl43, cl43, HG43⟩ := Kd.R_form HO_8.out (by omega); (first | cases eo43 | (injection eo43 with ea_ en_ ec_; (first | subst ea_ | (injection ea_ with ea_; subst ea_)); subst ec_; clear en_)); have GB43 := Aside0.mk gb43; have GG43 := Aside0.mk HG43; clear gb43 gl43 HG43; obtain ⟨hx43_0, hf43_0⟩ := Kd.R_celln 0 HO_8.out (x12_2 : Int) p43 q43; replace p43 := eq_true p43; replace q43 := eq_true q43; have n_ := Aside0.mk (Kd.R_mono (ok' := (fun k_ => some k_ ≠ (.slice (some ⟨go40, 0, none⟩) x9_3.length co44 : Value).ownBlock)) HO_8.out (fun k_ hk => hk.2)); clear HO_8; have HO_8 := n_; clear n_; obtain ⟨hy47_, hz47_⟩ := Kd.R_celln 0 HO_8.out (x12_2 : Int) (of_decide_eq_true (by first | (with_reducible assumption) | assumption)) (of_decide_eq_true (by first | (with_reducible assumption) | assumption)); have HP47 := Kd.R_putg HO_8.out (x12_2 : Int) (wrap64 (x13_3 + 1))) | ((with_reducible refine gate_store (t := 3) (p := 96) rfl ?_); (try (rw [drewN_self w46]; generalize hq_ : World.drewN w46 _ = w46; have n0_ := Aside0.mk (Kd.R_at hq_ HO_8.out); have n1_ := Aside0.mk (Kd.R_at hq_ HO_9.out); have n2_ := Aside0.mk (below_at hq_ HB.out); clear hq_ HO_8 HO_9 HB; have HO_8 := n0_; have HO_9 := n1_; have HB := n2_; clear n0_ n1_ n2_; (try (have n_ := Aside0.mk (Kd.R_mono (ok' := (fun k_ => some k_ ≠ (.slice (some ⟨go40, 0, none⟩) x9_3.length co44 : Value).ownBlock)) HO_8.out (fun k_ hk => hk.2)); clear HO_8; have HO_8 := n_; clear n_)); (try (obtain ⟨hy47_, hz47_⟩ := Kd.R_celln 0 HO_8.out (x12_2 : Int) (of_decide_eq_true (by first | (with_reducible assumption) | assumption)) (of_decide_eq_true (by first | (with_reducible assumption) | assumption)))); (try (obtain ⟨hyHP47_, hzHP47_⟩ := Kd.R_celln 0 HO_8.out (x12_2 : Int) (of_decide_eq_true (by first | (with_reducible assumption) | assumption)) (of_decide_eq_true (by first | (with_reducible assumption) | assumption)))); (try (have HP47 := Kd.R_putg HO_8.out (x12_2 : Int) (wrap64 (x13_3 + 1)))))); refine store_event (t := 3) (p := 96) (v := ?vo_w48) (w1 := (w46.setCell ⟨go43, (x12_2 : Int).toNat, none⟩ (.int .i64 (wrap64 (x13_3 + 1))))) ?hg ?ho ?hn ?hr ?_; (case ho => rfl); (case hg => rfl); (case hn => rfl); (case hr => first | (go_simp; done) | (go_simp; rfl)); intro w48 hw; have hg : w46.grownBy w48 (some go43) := (by rw [hw]; exact HP47.2); have hp_ : Kd.R (Kd.int .i64) 3 w48 w.heap.size (fun k_ => some k_ ≠ (.slice (some ⟨go40, 0, none⟩) x9_3.length co44 : Value).ownBlock) (.slice (some ⟨go43, 0, none⟩) x8_3.length co43) y273 := (by rw [hw, Ny273.out]; exact HP47.1); clear HP47; have n0_ := Aside0.mk (hp_); have n1_ := Aside0.mk (Kd.R_after (v := (.slice (some ⟨go43, 0, none⟩) x8_3.length co43)) (v1 := (.slice (some ⟨go43, 0, none⟩) x8_3.length co43)) (ok := (fun _ => True)) (by (with_reducible repeat (first | apply Kd.R_alloc | apply Kd.R_drewN | apply Kd.R_drew)); exact Kd.R_mono HO_9.out (fun _ hk => ⟨trivial, hk⟩)) hg (.inl rfl)); have n2_ := Aside0.mk ((by rw [hw]; exact below_set (HB.out) GB43.out : Below w.heap.size w w48)); clear HO_8; clear HO_9; clear HB; have HO_8 := n0_; have HO_9 := n1_; have HB := n2_; clear n0_ n1_ n2_; clear hg hw hp_))
                                        repeat (go_quiet (first | ((with_reducible refine gate_store (t := 3) (p := 91) rfl ?_); (try (rw [drewN_self wc]; generalize hq_ : World.drewN wc _ = wc; have n0_ := Aside0.mk (Kd.R_at hq_ HO_8.out); have n1_ := Aside0.mk (Kd.R_at hq_ HO_9.out); have n2_ := Aside0.mk (below_at hq_ HB.out); clear hq_ HO_8 HO_9 HB; have HO_8 := n0_; have HO_9 := n1_; have HB := n2_; clear n0_ n1_ n2_; (try (obtain ⟨hyHP45_, hzHP45_⟩ := Kd.R_celln 0 HO_9.out (x13_3 : Int) (of_decide_eq_true (by first | (with_reducible assumption) | assumption)) (of_decide_eq_true (by first | (with_reducible assumption) | assumption)))); (try (have HP45 := Kd.R_putg HO_9.out (x13_3 : Int) (wrap64 ((rd x9_3 x13_3) + 1)))))); refine store_event (t := 3) (p := 91) (v := ?vo_w46) (w1 := (wc.setCell ⟨go40, (x13_3 : Int).toNat, none⟩ (.int .i64 (wrap64 ((rd x9_3 x13_3) + 1))))) ?hg ?ho ?hn ?hr ?_; (case ho => rfl); (case hg => rfl); (case hn => rfl); (case hr => first | (go_simp; done) | (go_simp; rfl)); intro w46 hw; have hg : wc.grownBy w46 (some go40) := (by rw [hw]; exact HP45.2); have hp_ : Kd.R (Kd.int .i64) 3 w46 w.heap.size (fun k_ => some k_ ≠ (v254 : Value).ownBlock) (.slice (some ⟨go40, 0, none⟩) x9_3.length co44) y272 := (by rw [hw, Ny272.out]; exact HP45.1); clear HP45; have n0_ := Aside0.mk (Kd.R_after (v := (.slice (some ⟨go40, 0, none⟩) x9_3.length co44)) (v1 := (.slice (some ⟨go40, 0, none⟩) x9_3.length co44)) (ok := (fun _ => True)) (by (with_reducible repeat (first | apply Kd.R_alloc | apply Kd.R_drewN | apply Kd.R_drew)); exact Kd.R_mono HO_8.out (fun _ hk => ⟨trivial, hk⟩)) hg (.inl rfl)); have n1_ := Aside0.mk (hp_); have n2_ := Aside0.mk ((by rw [hw]; exact below_set (HB.out) GB40.out : Below w.heap.size w w46)); clear HO_8; clear HO_9; clear HB; have HO_8 := n0_; have HO_9 := n1_; have HB := n2_; clear n0_ n1_ n2_; clear hg hw hp_; have p43 : 0 ≤ (x12_2 : Int) := of_decide_eq_true (by first | (with_reducible assumption) | assumption); have q43 : (x12_2 : Int) < ((x8_3.length : Int) : Int) := of_decide_eq_true (by first | (with_reducible assumption) | assumption); obtain ⟨go43, co43, eo43, gb43, gl43, cl43, HG43⟩ := Kd.R_form HO_8.out (by omega); (first | cases eo43 | (injection eo43 with ea_ en_ ec_; (first | subst ea_ | (injection ea_ with ea_; subst ea_)); subst ec_; clear en_)); have GB43 := Aside0.mk gb43; have GG43 := Aside0.mk HG43; clear gb43 gl43 HG43; obtain ⟨hx43_0, hf43_0⟩ := Kd.R_celln 0 HO_8.out (x12_2 : Int) p43 q43; replace p43 := eq_true p43; replace q43 := eq_true q43; have n_ := Aside0.mk (Kd.R_mono (ok' := (fun k_ => some k_ ≠ (.slice (some ⟨go40, 0, none⟩) x9_3.length co44 : Value).ownBlock)) HO_8.out (fun k_ hk => hk.2)); clear HO_8; have HO_8 := n_; clear n_; obtain ⟨hy47_, hz47_⟩ := Kd.R_celln 0 HO_8.out (x12_2 : Int) (of_decide_eq_true (by first | (with_reducible assumption) | assumption)) (of_decide_eq_true (by first | (with_reducible assumption) | assumption)); have HP47 := Kd.R_putg HO_8.out (x12_2 : Int) (wrap64 (x13_3 + 1))) | ((with_reducible refine gate_store (t := 3) (p := 96) rfl ?_); (try (rw [drewN_self w46]; generalize hq_ : World.drewN w46 _ = w46; have n0_ := Aside0.mk (Kd.R_at hq_ HO_8.out); have n1_ := Aside0.mk (Kd.R_at hq_ HO_9.out); have n2_ := Aside0.mk (below_at hq_ HB.out); clear hq_ HO_8 HO_9 HB; have HO_8 := n0_; have HO_9 := n1_; have HB := n2_; clear n0_ n1_ n2_; (try (have n_ := Aside0.mk (Kd.R_mono (ok' := (fun k_ => some k_ ≠ (.slice (some ⟨go40, 0, none⟩) x9_3.length co44 : Value).ownBlock)) HO_8.out (fun k_ hk => hk.2)); clear HO_8; have HO_8 := n_; clear n_)); (try (obtain ⟨hy47_, hz47_⟩ := Kd.R_celln 0 HO_8.out (x12_2 : Int) (of_decide_eq_true (by first | (with_reducible assumption) | assumption)) (of_decide_eq_true (by first | (with_reducible assumption) | assumption)))); (try (obtain ⟨hyHP47_, hzHP47_⟩ := Kd.R_celln 0 HO_8.out (x12_2 : Int) (of_decide_eq_true (by first | (with_reducible assumption) | assumption)) (of_decide_eq_true (by first | (with_reducible assumption) | assumption)))); (try (have HP47 := Kd.R_putg HO_8.out (x12_2 : Int) (wrap64 (x13_3 + 1)))))); refine store_event (t := 3) (p := 96) (v := ?vo_w48) (w1 := (w46.setCell ⟨go43, (x12_2 : Int).toNat, none⟩ (.int .i64 (wrap64 (x13_3 + 1))))) ?hg ?ho ?hn ?hr ?_; (case ho => rfl); (case hg => rfl); (case hn => rfl); (case hr => first | (go_simp; done) | (go_simp; rfl)); intro w48 hw; have hg : w46.grownBy w48 (some go43) := (by rw [hw]; exact HP47.2); have hp_ : Kd.R (Kd.int .i64) 3 w48 w.heap.size (fun k_ => some k_ ≠ (.slice (some ⟨go40, 0, none⟩) x9_3.length co44 : Value).ownBlock) (.slice (some ⟨go43, 0, none⟩) x8_3.length co43) y273 := (by rw [hw, Ny273.out]; exact HP47.1); clear HP47; have n0_ := Aside0.mk (hp_); have n1_ := Aside0.mk (Kd.R_after (v := (.slice (some ⟨go43, 0, none⟩) x8_3.length co43)) (v1 := (.slice (some ⟨go43, 0, none⟩) x8_3.length co43)) (ok := (fun _ => True)) (by (with_reducible repeat (first | apply Kd.R_alloc | apply Kd.R_drewN | apply Kd.R_drew)); exact Kd.R_mono HO_9.out (fun _ hk => ⟨trivial, hk⟩)) hg (.inl rfl)); have n2_ := Aside0.mk ((by rw [hw]; exact below_set (HB.out) GB43.out : Below w.heap.size w w48)); clear HO_8; clear HO_9; clear HB; have HO_8 := n0_; have HO_9 := n1_; have HB := n2_; clear n0_ n1_ n2_; clear hg hw hp_)); try go_wp2_with (first | ((with_reducible refine gate_store (t := 3) (p := 91) rfl ?_); (try (rw [drewN_self wc]; generalize hq_ : World.drewN wc _ = wc; have n0_ := Aside0.mk (Kd.R_at hq_ HO_8.out); have n1_ := Aside0.mk (Kd.R_at hq_ HO_9.out); have n2_ := Aside0.mk (below_at hq_ HB.out); clear hq_ HO_8 HO_9 HB; have HO_8 := n0_; have HO_9 := n1_; have HB := n2_; clear n0_ n1_ n2_; (try (obtain ⟨hyHP45_, hzHP45_⟩ := Kd.R_celln 0 HO_9.out (x13_3 : Int) (of_decide_eq_true (by first | (with_reducible assumption) | assumption)) (of_decide_eq_true (by first | (with_reducible assumption) | assumption)))); (try (have HP45 := Kd.R_putg HO_9.out (x13_3 : Int) (wrap64 ((rd x9_3 x13_3) + 1)))))); refine store_event (t := 3) (p := 91) (v := ?vo_w46) (w1 := (wc.setCell ⟨go40, (x13_3 : Int).toNat, none⟩ (.int .i64 (wrap64 ((rd x9_3 x13_3) + 1))))) ?hg ?ho ?hn ?hr ?_; (case ho => rfl); (case hg => rfl); (case hn => rfl); (case hr => first | (go_simp; done) | (go_simp; rfl)); intro w46 hw; have hg : wc.grownBy w46 (some go40) := (by rw [hw]; exact HP45.2); have hp_ : Kd.R (Kd.int .i64) 3 w46 w.heap.size (fun k_ => some k_ ≠ (v254 : Value).ownBlock) (.slice (some ⟨go40, 0, none⟩) x9_3.length co44) y272 := (by rw [hw, Ny272.out]; exact HP45.1); clear HP45; have n0_ := Aside0.mk (Kd.R_after (v := (.slice (some ⟨go40, 0, none⟩) x9_3.length co44)) (v1 := (.slice (some ⟨go40, 0, none⟩) x9_3.length co44)) (ok := (fun _ => True)) (by (with_reducible repeat (first | apply Kd.R_alloc | apply Kd.R_drewN | apply Kd.R_drew)); exact Kd.R_mono HO_8.out (fun _ hk => ⟨trivial, hk⟩)) hg (.inl rfl)); have n1_ := Aside0.mk (hp_); have n2_ := Aside0.mk ((by rw [hw]; exact below_set (HB.out) GB40.out : Below w.heap.size w w46)); clear HO_8; clear HO_9; clear HB; have HO_8 := n0_; have HO_9 := n1_; have HB := n2_; clear n0_ n1_ n2_; clear hg hw hp_; have p43 : 0 ≤ (x12_2 : Int) := of_decide_eq_true (by first | (with_reducible assumption) | assumption); have q43 : (x12_2 : Int) < ((x8_3.length : Int) : Int) := of_decide_eq_true (by first | (with_reducible assumption) | assumption); obtain ⟨go43, co43, eo43, gb43, gl43, cl43, HG43⟩ := Kd.R_form HO_8.out (by omega); (first | cases eo43 | (injection eo43 with ea_ en_ ec_; (first | subst ea_ | (injection ea_ with ea_; subst ea_)); subst ec_; clear en_)); have GB43 := Aside0.mk gb43; have GG43 := Aside0.mk HG43; clear gb43 gl43 HG43; obtain ⟨hx43_0, hf43_0⟩ := Kd.R_celln 0 HO_8.out (x12_2 : Int) p43 q43; replace p43 := eq_true p43; replace q43 := eq_true q43; have n_ := Aside0.mk (Kd.R_mono (ok' := (fun k_ => some k_ ≠ (.slice (some ⟨go40, 0, none⟩) x9_3.length co44 : Value).ownBlock)) HO_8.out (fun k_ hk => hk.2)); clear HO_8; have HO_8 := n_; clear n_; obtain ⟨hy47_, hz47_⟩ := Kd.R_celln 0 HO_8.out (x12_2 : Int) (of_decide_eq_true (by first | (with_reducible assumption) | assumption)) (of_decide_eq_true (by first | (with_reducible assumption) | assumption)); have HP47 := Kd.R_putg HO_8.out (x12_2 : Int) (wrap64 (x13_3 + 1))) | ((with_reducible refine gate_store (t := 3) (p := 96) rfl ?_); (try (rw [drewN_self w46]; generalize hq_ : World.drewN w46 _ = w46; have n0_ := Aside0.mk (Kd.R_at hq_ HO_8.out); have n1_ := Aside0.mk (Kd.R_at hq_ HO_9.out); have n2_ := Aside0.mk (below_at hq_ HB.out); clear hq_ HO_8 HO_9 HB; have HO_8 := n0_; have HO_9 := n1_; have HB := n2_; clear n0_ n1_ n2_; (try (have n_ := Aside0.mk (Kd.R_mono (ok' := (fun k_ => some k_ ≠ (.slice (some ⟨go40, 0, none⟩) x9_3.length co44 : Value).ownBlock)) HO_8.out (fun k_ hk => hk.2)); clear HO_8; have HO_8 := n_; clear n_)); (try (obtain ⟨hy47_, hz47_⟩ := Kd.R_celln 0 HO_8.out (x12_2 : Int) (of_decide_eq_true (by first | (with_reducible assumption) | assumption)) (of_decide_eq_true (by first | (with_reducible assumption) | assumption)))); (try (obtain ⟨hyHP47_, hzHP47_⟩ := Kd.R_celln 0 HO_8.out (x12_2 : Int) (of_decide_eq_true (by first | (with_reducible assumption) | assumption)) (of_decide_eq_true (by first | (with_reducible assumption) | assumption)))); (try (have HP47 := Kd.R_putg HO_8.out (x12_2 : Int) (wrap64 (x13_3 + 1)))))); refine store_event (t := 3) (p := 96) (v := ?vo_w48) (w1 := (w46.setCell ⟨go43, (x12_2 : Int).toNat, none⟩ (.int .i64 (wrap64 (x13_3 + 1))))) ?hg ?ho ?hn ?hr ?_; (case ho => rfl); (case hg => rfl); (case hn => rfl); (case hr => first | (go_simp; done) | (go_simp; rfl)); intro w48 hw; have hg : w46.grownBy w48 (some go43) := (by rw [hw]; exact HP47.2); have hp_ : Kd.R (Kd.int .i64) 3 w48 w.heap.size (fun k_ => some k_ ≠ (.slice (some ⟨go40, 0, none⟩) x9_3.length co44 : Value).ownBlock) (.slice (some ⟨go43, 0, none⟩) x8_3.length co43) y273 := (by rw [hw, Ny273.out]; exact HP47.1); clear HP47; have n0_ := Aside0.mk (hp_); have n1_ := Aside0.mk (Kd.R_after (v := (.slice (some ⟨go43, 0, none⟩) x8_3.length co43)) (v1 := (.slice (some ⟨go43, 0, none⟩) x8_3.length co43)) (ok := (fun _ => True)) (by (with_reducible repeat (first | apply Kd.R_alloc | apply Kd.R_drewN | apply Kd.R_drew)); exact Kd.R_mono HO_9.out (fun _ hk => ⟨trivial, hk⟩)) hg (.inl rfl)); have n2_ := Aside0.mk ((by rw [hw]; exact below_set (HB.out) GB43.out : Below w.heap.size w w48)); clear HO_8; clear HO_9; clear HB; have HO_8 := n0_; have HO_9 := n1_; have HB := n2_; clear n0_ n1_ n2_; clear hg hw hp_)))
                                        go_roundg kj29
                                        case measure => have := HK1.out; have := HK2.out; have := HK3.out; have := HJ29.out; omega
                                        case rel => exact ⟨(y273), (y272), (wrap64 (x13_3 + 1)), (by first | rfl | (simp; done) | (simp [*]; done)), H', ⟨by have := HK1.out; have := HK2.out; have := HK3.out; have := HJ29.out; omega⟩, ⟨by (with_reducible repeat (first | apply Kd.R_alloc | apply Kd.R_drewN | apply Kd.R_drew)); exact HO_8.out⟩, ⟨by (with_reducible repeat (first | apply Kd.R_alloc | apply Kd.R_drewN | apply Kd.R_drew)); exact Kd.R_mono HO_9.out (fun _ hk => hk.2)⟩, ⟨by repeat (first | (with_reducible first | exact HB.out | apply below_alloc | apply pw_below_drewN | apply below_drew1) | exact HB.out)⟩⟩
                                      · rw [if_neg c42] at H
                                        exact absurd H (by simp)
                                    · rw [if_neg c41] at H
                                      exact absurd H (by simp)
                                  · rw [if_neg c39] at H
                                    have c39b0 : decide ((rd x9_3 x13_3) < (rd l1 x13_3)) = false := decide_eq_false c39
                                    clear c39
                                    have H' := Aside0.mk H
                                    clear H
                                    obtain ⟨Ao49, co49, eo49⟩ := Kd.R_slice HO_9.out
                                    subst eo49
                                    have p269 : 0 ≤ (x13_3 : Int) := of_decide_eq_true (by first | (with_reducible assumption) | assumption)
                                    have q269 : x13_3 < (x9_3.length : Int) := of_decide_eq_true (by first | (with_reducible assumption) | assumption)
                                    (try (obtain ⟨AoX_, coX_, eoX_⟩ := Kd.R_slice HO_9.out; subst eoX_))
                                    obtain ⟨ad269, e269, hx269_0⟩ := Kd.at_int (Kd.R_reads' HO_9.out).2.2 x13_3 p269 q269
                                    cases e269
                                    replace p269 := eq_true p269
                                    replace q269 := eq_true q269
                                    have p270 : 0 ≤ (x13_3 : Int) := of_decide_eq_true (by first | (with_reducible assumption) | assumption)
                                    have q270 : x13_3 < (l1.length : Int) := of_decide_eq_true (by first | (with_reducible assumption) | assumption)
                                    obtain ⟨ad270, e270, hx270_0⟩ := Kd.at_int HR1.out x13_3 p270 q270
                                    cases e270
                                    replace hx270_0 := (HB.out.cell (World.block_lt_of_cell? w _ hx270_0)).trans hx270_0
                                    replace p270 := eq_true p270
                                    replace q270 := eq_true q270
                                    go_wp2
                                    repeat (go_quiet (fail); try go_wp2)
                                    go_roundg kj29
                                    case measure => have := HK1.out; have := HK2.out; have := HK3.out; have := HJ29.out; omega
                                    case rel => exact ⟨(x8_3), (x9_3), (wrap64 (x13_3 + 1)), (by first | rfl | (simp; done) | (simp [*]; done)), H', ⟨by have := HK1.out; have := HK2.out; have := HK3.out; have := HJ29.out; omega⟩, ⟨by (with_reducible repeat (first | apply Kd.R_alloc | apply Kd.R_drewN | apply Kd.R_drew)); exact HO_8.out⟩, ⟨by (with_reducible repeat (first | apply Kd.R_alloc | apply Kd.R_drewN | apply Kd.R_drew)); exact HO_9.out⟩, ⟨by repeat (first | (with_reducible first | exact HB.out | apply below_alloc | apply pw_below_drewN | apply below_drew1) | exact HB.out)⟩⟩
                                · rw [if_neg c38] at H
                                  exact absurd H (by simp)
                              · rw [if_neg c37] at H
                                exact absurd H (by simp)
                            · rw [if_neg c36] at H
                              exact absurd H (by simp)
                          · replace c35 := Bool.eq_false_iff.mpr c35
                            subst c35
                            have H1 : (flagstoneref13_Reweigh.l1 kj29 l1 x8_3 x9_3 (wrap64 (x12_2 + 1))) = some (r1, r2) := by rw [if_neg (show ¬ (false = true) by decide)] at H; exact H
                            clear H
                            have H := H1
                            clear H1
                            have H' := Aside0.mk H
                            clear H
                            go_wp2
                            repeat (go_quiet (fail); try go_wp2)
                            go_roundg kj29
                            case measure => have := HK1.out; have := HK2.out; have := HK3.out; have := HJ29.out; omega
                            case rel => exact ⟨(x8_3), (x9_3), (wrap64 (x12_2 + 1)), (by first | rfl | (simp; done) | (simp [*]; done)), H', ⟨by have := HK1.out; have := HK2.out; have := HK3.out; have := HJ29.out; omega⟩, ⟨by (with_reducible repeat (first | apply Kd.R_alloc | apply Kd.R_drewN | apply Kd.R_drew)); exact HO_8.out⟩, ⟨by (with_reducible repeat (first | apply Kd.R_alloc | apply Kd.R_drewN | apply Kd.R_drew)); exact HO_9.out⟩, ⟨by repeat (first | (with_reducible first | exact HB.out | apply below_alloc | apply pw_below_drewN | apply below_drew1) | exact HB.out)⟩⟩
                · rw [if_neg c29] at H
                  have c29b0 : decide (x12_2 < 10000) = false := decide_eq_false c29
                  clear c29
                  replace H := Option.bind_eq_some_iff.mp H
                  obtain ⟨t265, A500, H⟩ := H
                  replace H : (if (t265.length : Int) > 16 then (some (([] : List (S69)), 19)) else (some (t265, 0))) = some (r1, r2) := H
                  have A50 := Aside0.mk A500
                  clear A500
                  by_cases c51 : (t265.length : Int) > 16
                  · rw [if_pos c51] at H
                    have c51b0 : decide (16 < (t265.length : Int)) = true := decide_eq_true c51
                    have c51b1 : decide (16 < t265.length) = true := decide_eq_true (by omega)
                    clear c51
                    simp only [Option.some.injEq, Prod.mk.injEq] at H
                    obtain ⟨rfl, rfl⟩ := H
                    obtain ⟨Ao52, co52, eo52⟩ := Kd.R_slice HO_8.out
                    subst eo52
                    go_wp2_with (first | (go_at_call 44; (with_reducible refine (flagstoneref13_Ranges.calls k2 _ _ x8_2 t265 _ ?side1 ?side2 A50.out).mono ?_); (case side1 => repeat (first | exact (Kd.R_reads' HO_8.out).2.2 | (with_reducible refine Kd.C_alloc ?_ _) | (with_reducible refine Kd.C_drewN ?_ _) | (with_reducible refine Kd.C_drew ?_))); (case side2 => exact (Kd.R_reads' HO_8.out).2.1); rintro e w53 ⟨v266, rfl, ho0, hb⟩; have n0_ := Aside0.mk (Kd.R_below (by (with_reducible repeat (first | apply Kd.R_alloc | apply Kd.R_drewN | apply Kd.R_drew)); exact HO_8.out) hb); have n1_ := Aside0.mk (Kd.R_below (by (with_reducible repeat (first | apply Kd.R_alloc | apply Kd.R_drewN | apply Kd.R_drew)); exact HO_9.out) hb); have n2_ := Aside0.mk (Kd.R_lower ho0 (below_size (by repeat (first | (with_reducible first | exact HB.out | apply below_alloc | apply pw_below_drewN | apply below_drew1) | exact HB.out)))); have n3_ := Aside0.mk (below_step (by repeat (first | (with_reducible first | exact HB.out | apply below_alloc | apply pw_below_drewN | apply below_drew1) | exact HB.out)) hb); clear HO_8; clear HO_9; clear HB; have HO_8 := n0_; have HO_9 := n1_; have HO267 := n2_; have HB := n3_; clear n0_ n1_ n2_ n3_; (try clear hb); (try clear hb2); (try clear hk); (try clear hi); (try clear ho0); obtain ⟨Ao54, co54, eo54⟩ := Kd.R_slice HO267.out; subst eo54))
                    repeat (go_quiet (first | (go_at_call 44; (with_reducible refine (flagstoneref13_Ranges.calls k2 _ _ x8_2 t265 _ ?side1 ?side2 A50.out).mono ?_); (case side1 => repeat (first | exact (Kd.R_reads' HO_8.out).2.2 | (with_reducible refine Kd.C_alloc ?_ _) | (with_reducible refine Kd.C_drewN ?_ _) | (with_reducible refine Kd.C_drew ?_))); (case side2 => exact (Kd.R_reads' HO_8.out).2.1); rintro e w53 ⟨v266, rfl, ho0, hb⟩; have n0_ := Aside0.mk (Kd.R_below (by (with_reducible repeat (first | apply Kd.R_alloc | apply Kd.R_drewN | apply Kd.R_drew)); exact HO_8.out) hb); have n1_ := Aside0.mk (Kd.R_below (by (with_reducible repeat (first | apply Kd.R_alloc | apply Kd.R_drewN | apply Kd.R_drew)); exact HO_9.out) hb); have n2_ := Aside0.mk (Kd.R_lower ho0 (below_size (by repeat (first | (with_reducible first | exact HB.out | apply below_alloc | apply pw_below_drewN | apply below_drew1) | exact HB.out)))); have n3_ := Aside0.mk (below_step (by repeat (first | (with_reducible first | exact HB.out | apply below_alloc | apply pw_below_drewN | apply below_drew1) | exact HB.out)) hb); clear HO_8; clear HO_9; clear HB; have HO_8 := n0_; have HO_9 := n1_; have HO267 := n2_; have HB := n3_; clear n0_ n1_ n2_ n3_; (try clear hb); (try clear hb2); (try clear hk); (try clear hi); (try clear ho0); obtain ⟨Ao54, co54, eo54⟩ := Kd.R_slice HO267.out; subst eo54)); try go_wp2_with (first | (go_at_call 44; (with_reducible refine (flagstoneref13_Ranges.calls k2 _ _ x8_2 t265 _ ?side1 ?side2 A50.out).mono ?_); (case side1 => repeat (first | exact (Kd.R_reads' HO_8.out).2.2 | (with_reducible refine Kd.C_alloc ?_ _) | (with_reducible refine Kd.C_drewN ?_ _) | (with_reducible refine Kd.C_drew ?_))); (case side2 => exact (Kd.R_reads' HO_8.out).2.1); rintro e w53 ⟨v266, rfl, ho0, hb⟩; have n0_ := Aside0.mk (Kd.R_below (by (with_reducible repeat (first | apply Kd.R_alloc | apply Kd.R_drewN | apply Kd.R_drew)); exact HO_8.out) hb); have n1_ := Aside0.mk (Kd.R_below (by (with_reducible repeat (first | apply Kd.R_alloc | apply Kd.R_drewN | apply Kd.R_drew)); exact HO_9.out) hb); have n2_ := Aside0.mk (Kd.R_lower ho0 (below_size (by repeat (first | (with_reducible first | exact HB.out | apply below_alloc | apply pw_below_drewN | apply below_drew1) | exact HB.out)))); have n3_ := Aside0.mk (below_step (by repeat (first | (with_reducible first | exact HB.out | apply below_alloc | apply pw_below_drewN | apply below_drew1) | exact HB.out)) hb); clear HO_8; clear HO_9; clear HB; have HO_8 := n0_; have HO_9 := n1_; have HO267 := n2_; have HB := n3_; clear n0_ n1_ n2_ n3_; (try clear hb); (try clear hb2); (try clear hk); (try clear hi); (try clear ho0); obtain ⟨Ao54, co54, eo54⟩ := Kd.R_slice HO267.out; subst eo54)))
                    go_ret2
                    exact ⟨_, by first | rfl | (simp [errW_none, errW_some] <;> rfl) | (simp [*, errW_none, errW_some] <;> rfl), by first | exact Kd.R_nil _ _ _ _ _ | exact Kd.N_nil _ _ _ _ _ | exact Kd.V_nil _ _ _ _ _ | exact Kd.Q_nil _ _ _ _ _ | exact Kd.S_nil _ _ _ _ _, by repeat (first | (with_reducible first | exact HB.out | apply below_alloc | apply pw_below_drewN | apply below_drew1) | exact HB.out)⟩
                  · rw [if_neg c51] at H
                    have c51b0 : decide (16 < (t265.length : Int)) = false := decide_eq_false c51
                    have c51b1 : decide (16 < t265.length) = false := decide_eq_false (by omega)
                    clear c51
                    simp only [Option.some.injEq, Prod.mk.injEq] at H
                    obtain ⟨rfl, rfl⟩ := H
                    obtain ⟨Ao55, co55, eo55⟩ := Kd.R_slice HO_8.out
                    subst eo55
                    go_wp2_with (first | (go_at_call 44; (with_reducible refine (flagstoneref13_Ranges.calls k2 _ _ x8_2 t265 _ ?side1 ?side2 A50.out).mono ?_); (case side1 => repeat (first | exact (Kd.R_reads' HO_8.out).2.2 | (with_reducible refine Kd.C_alloc ?_ _) | (with_reducible refine Kd.C_drewN ?_ _) | (with_reducible refine Kd.C_drew ?_))); (case side2 => exact (Kd.R_reads' HO_8.out).2.1); rintro e w56 ⟨v266, rfl, ho0, hb⟩; have n0_ := Aside0.mk (Kd.R_below (by (with_reducible repeat (first | apply Kd.R_alloc | apply Kd.R_drewN | apply Kd.R_drew)); exact HO_8.out) hb); have n1_ := Aside0.mk (Kd.R_below (by (with_reducible repeat (first | apply Kd.R_alloc | apply Kd.R_drewN | apply Kd.R_drew)); exact HO_9.out) hb); have n2_ := Aside0.mk (Kd.R_lower ho0 (below_size (by repeat (first | (with_reducible first | exact HB.out | apply below_alloc | apply pw_below_drewN | apply below_drew1) | exact HB.out)))); have n3_ := Aside0.mk (below_step (by repeat (first | (with_reducible first | exact HB.out | apply below_alloc | apply pw_below_drewN | apply below_drew1) | exact HB.out)) hb); clear HO_8; clear HO_9; clear HB; have HO_8 := n0_; have HO_9 := n1_; have HO267 := n2_; have HB := n3_; clear n0_ n1_ n2_ n3_; (try clear hb); (try clear hb2); (try clear hk); (try clear hi); (try clear ho0); obtain ⟨Ao57, co57, eo57⟩ := Kd.R_slice HO267.out; subst eo57))
                    repeat (go_quiet (first | (go_at_call 44; (with_reducible refine (flagstoneref13_Ranges.calls k2 _ _ x8_2 t265 _ ?side1 ?side2 A50.out).mono ?_); (case side1 => repeat (first | exact (Kd.R_reads' HO_8.out).2.2 | (with_reducible refine Kd.C_alloc ?_ _) | (with_reducible refine Kd.C_drewN ?_ _) | (with_reducible refine Kd.C_drew ?_))); (case side2 => exact (Kd.R_reads' HO_8.out).2.1); rintro e w56 ⟨v266, rfl, ho0, hb⟩; have n0_ := Aside0.mk (Kd.R_below (by (with_reducible repeat (first | apply Kd.R_alloc | apply Kd.R_drewN | apply Kd.R_drew)); exact HO_8.out) hb); have n1_ := Aside0.mk (Kd.R_below (by (with_reducible repeat (first | apply Kd.R_alloc | apply Kd.R_drewN | apply Kd.R_drew)); exact HO_9.out) hb); have n2_ := Aside0.mk (Kd.R_lower ho0 (below_size (by repeat (first | (with_reducible first | exact HB.out | apply below_alloc | apply pw_below_drewN | apply below_drew1) | exact HB.out)))); have n3_ := Aside0.mk (below_step (by repeat (first | (with_reducible first | exact HB.out | apply below_alloc | apply pw_below_drewN | apply below_drew1) | exact HB.out)) hb); clear HO_8; clear HO_9; clear HB; have HO_8 := n0_; have HO_9 := n1_; have HO267 := n2_; have HB := n3_; clear n0_ n1_ n2_ n3_; (try clear hb); (try clear hb2); (try clear hk); (try clear hi); (try clear ho0); obtain ⟨Ao57, co57, eo57⟩ := Kd.R_slice HO267.out; subst eo57)); try go_wp2_with (first | (go_at_call 44; (with_reducible refine (flagstoneref13_Ranges.calls k2 _ _ x8_2 t265 _ ?side1 ?side2 A50.out).mono ?_); (case side1 => repeat (first | exact (Kd.R_reads' HO_8.out).2.2 | (with_reducible refine Kd.C_alloc ?_ _) | (with_reducible refine Kd.C_drewN ?_ _) | (with_reducible refine Kd.C_drew ?_))); (case side2 => exact (Kd.R_reads' HO_8.out).2.1); rintro e w56 ⟨v266, rfl, ho0, hb⟩; have n0_ := Aside0.mk (Kd.R_below (by (with_reducible repeat (first | apply Kd.R_alloc | apply Kd.R_drewN | apply Kd.R_drew)); exact HO_8.out) hb); have n1_ := Aside0.mk (Kd.R_below (by (with_reducible repeat (first | apply Kd.R_alloc | apply Kd.R_drewN | apply Kd.R_drew)); exact HO_9.out) hb); have n2_ := Aside0.mk (Kd.R_lower ho0 (below_size (by repeat (first | (with_reducible first | exact HB.out | apply below_alloc | apply pw_below_drewN | apply below_drew1) | exact HB.out)))); have n3_ := Aside0.mk (below_step (by repeat (first | (with_reducible first | exact HB.out | apply below_alloc | apply pw_below_drewN | apply below_drew1) | exact HB.out)) hb); clear HO_8; clear HO_9; clear HB; have HO_8 := n0_; have HO_9 := n1_; have HO267 := n2_; have HB := n3_; clear n0_ n1_ n2_ n3_; (try clear hb); (try clear hb2); (try clear hk); (try clear hi); (try clear ho0); obtain ⟨Ao57, co57, eo57⟩ := Kd.R_slice HO267.out; subst eo57)))
                    go_ret2
                    exact ⟨_, by first | rfl | (simp [errW_none, errW_some] <;> rfl) | (simp [*, errW_none, errW_some] <;> rfl), by (with_reducible repeat (first | apply Kd.R_alloc | apply Kd.R_drewN | apply Kd.R_drew)); exact HO267.out, by repeat (first | (with_reducible first | exact HB.out | apply below_alloc | apply pw_below_drewN | apply below_drew1) | exact HB.out)⟩
    · rw [if_neg c6] at H
      have c6b0 : (t252 == 0) = false := beq_eq_false_iff_ne.mpr c6
      have c6b1 : (t252 != 0) = true := bne_iff_ne.mpr c6
      simp only [Option.some.injEq, Prod.mk.injEq] at H
      obtain ⟨rfl, rfl⟩ := H
      go_enter Tryd.func16, Tryd.ntmps16
      go_wp2_with (first | (go_at_call 41; (with_reducible refine (flagstoneref6_Split.calls k _ _ l0 (l1.length : Int) t251 _ ?side1 ?side2 A3.out).mono ?_); (case side1 => repeat (first | exact HR0.out | (with_reducible refine Kd.C_alloc ?_ _) | (with_reducible refine Kd.C_drewN ?_ _) | (with_reducible refine Kd.C_drew ?_))); (case side2 => exact HC0.out); rintro e w' ⟨rfl, ⟨nd, rfl⟩⟩; (try first | exact ⟨rfl, _, World.drewN_drewN _ _ _⟩ | exact ⟨rfl, _, Eq.trans (World.drewN_drewN _ _ _) (congrArg (World.drewN _) (Nat.add_assoc _ _ _))⟩)) | (go_at_call 42; (with_reducible refine (flagstoneref13_weights.calls k _ _ l1 t252 _ ?side1 ?side2 A5.out).mono ?_); (case side1 => repeat (first | exact HR1.out | (with_reducible refine Kd.C_alloc ?_ _) | (with_reducible refine Kd.C_drewN ?_ _) | (with_reducible refine Kd.C_drew ?_))); (case side2 => exact HC1.out); rintro e w' ⟨rfl, ⟨nd, rfl⟩⟩; (try first | exact ⟨rfl, _, World.drewN_drewN _ _ _⟩ | exact ⟨rfl, _, Eq.trans (World.drewN_drewN _ _ _) (congrArg (World.drewN _) (Nat.add_assoc _ _ _))⟩)))
      repeat (go_quiet (first | (go_at_call 41; (with_reducible refine (flagstoneref6_Split.calls k _ _ l0 (l1.length : Int) t251 _ ?side1 ?side2 A3.out).mono ?_); (case side1 => repeat (first | exact HR0.out | (with_reducible refine Kd.C_alloc ?_ _) | (with_reducible refine Kd.C_drewN ?_ _) | (with_reducible refine Kd.C_drew ?_))); (case side2 => exact HC0.out); rintro e w' ⟨rfl, ⟨nd, rfl⟩⟩; (try first | exact ⟨rfl, _, World.drewN_drewN _ _ _⟩ | exact ⟨rfl, _, Eq.trans (World.drewN_drewN _ _ _) (congrArg (World.drewN _) (Nat.add_assoc _ _ _))⟩)) | (go_at_call 42; (with_reducible refine (flagstoneref13_weights.calls k _ _ l1 t252 _ ?side1 ?side2 A5.out).mono ?_); (case side1 => repeat (first | exact HR1.out | (with_reducible refine Kd.C_alloc ?_ _) | (with_reducible refine Kd.C_drewN ?_ _) | (with_reducible refine Kd.C_drew ?_))); (case side2 => exact HC1.out); rintro e w' ⟨rfl, ⟨nd, rfl⟩⟩; (try first | exact ⟨rfl, _, World.drewN_drewN _ _ _⟩ | exact ⟨rfl, _, Eq.trans (World.drewN_drewN _ _ _) (congrArg (World.drewN _) (Nat.add_assoc _ _ _))⟩))); try go_wp2_with (first | (go_at_call 41; (with_reducible refine (flagstoneref6_Split.calls k _ _ l0 (l1.length : Int) t251 _ ?side1 ?side2 A3.out).mono ?_); (case side1 => repeat (first | exact HR0.out | (with_reducible refine Kd.C_alloc ?_ _) | (with_reducible refine Kd.C_drewN ?_ _) | (with_reducible refine Kd.C_drew ?_))); (case side2 => exact HC0.out); rintro e w' ⟨rfl, ⟨nd, rfl⟩⟩; (try first | exact ⟨rfl, _, World.drewN_drewN _ _ _⟩ | exact ⟨rfl, _, Eq.trans (World.drewN_drewN _ _ _) (congrArg (World.drewN _) (Nat.add_assoc _ _ _))⟩)) | (go_at_call 42; (with_reducible refine (flagstoneref13_weights.calls k _ _ l1 t252 _ ?side1 ?side2 A5.out).mono ?_); (case side1 => repeat (first | exact HR1.out | (with_reducible refine Kd.C_alloc ?_ _) | (with_reducible refine Kd.C_drewN ?_ _) | (with_reducible refine Kd.C_drew ?_))); (case side2 => exact HC1.out); rintro e w' ⟨rfl, ⟨nd, rfl⟩⟩; (try first | exact ⟨rfl, _, World.drewN_drewN _ _ _⟩ | exact ⟨rfl, _, Eq.trans (World.drewN_drewN _ _ _) (congrArg (World.drewN _) (Nat.add_assoc _ _ _))⟩))))
      go_ret2
      exact ⟨_, by first | rfl | (simp [errW_none, errW_some] <;> rfl) | (simp [*, errW_none, errW_some] <;> rfl), by first | exact Kd.R_nil _ _ _ _ _ | exact Kd.N_nil _ _ _ _ _ | exact Kd.V_nil _ _ _ _ _ | exact Kd.Q_nil _ _ _ _ _ | exact Kd.S_nil _ _ _ _ _, by repeat (first | (with_reducible first | exact HB.out | apply below_alloc | apply pw_below_drewN | apply below_drew1) | exact HB.out)⟩
  · rw [if_neg c4] at H
    have c4b0 : (t251 == 0) = false := beq_eq_false_iff_ne.mpr c4
    have c4b1 : (t251 != 0) = true := bne_iff_ne.mpr c4
    simp only [Option.some.injEq, Prod.mk.injEq] at H
    obtain ⟨rfl, rfl⟩ := H
    go_enter Tryd.func16, Tryd.ntmps16
    go_wp2_with (first | (go_at_call 41; (with_reducible refine (flagstoneref6_Split.calls k _ _ l0 (l1.length : Int) t251 _ ?side1 ?side2 A3.out).mono ?_); (case side1 => repeat (first | exact HR0.out | (with_reducible refine Kd.C_alloc ?_ _) | (with_reducible refine Kd.C_drewN ?_ _) | (with_reducible refine Kd.C_drew ?_))); (case side2 => exact HC0.out); rintro e w' ⟨rfl, ⟨nd, rfl⟩⟩; (try first | exact ⟨rfl, _, World.drewN_drewN _ _ _⟩ | exact ⟨rfl, _, Eq.trans (World.drewN_drewN _ _ _) (congrArg (World.drewN _) (Nat.add_assoc _ _ _))⟩)))
    repeat (go_quiet (first | (go_at_call 41; (with_reducible refine (flagstoneref6_Split.calls k _ _ l0 (l1.length : Int) t251 _ ?side1 ?side2 A3.out).mono ?_); (case side1 => repeat (first | exact HR0.out | (with_reducible refine Kd.C_alloc ?_ _) | (with_reducible refine Kd.C_drewN ?_ _) | (with_reducible refine Kd.C_drew ?_))); (case side2 => exact HC0.out); rintro e w' ⟨rfl, ⟨nd, rfl⟩⟩; (try first | exact ⟨rfl, _, World.drewN_drewN _ _ _⟩ | exact ⟨rfl, _, Eq.trans (World.drewN_drewN _ _ _) (congrArg (World.drewN _) (Nat.add_assoc _ _ _))⟩))); try go_wp2_with (first | (go_at_call 41; (with_reducible refine (flagstoneref6_Split.calls k _ _ l0 (l1.length : Int) t251 _ ?side1 ?side2 A3.out).mono ?_); (case side1 => repeat (first | exact HR0.out | (with_reducible refine Kd.C_alloc ?_ _) | (with_reducible refine Kd.C_drewN ?_ _) | (with_reducible refine Kd.C_drew ?_))); (case side2 => exact HC0.out); rintro e w' ⟨rfl, ⟨nd, rfl⟩⟩; (try first | exact ⟨rfl, _, World.drewN_drewN _ _ _⟩ | exact ⟨rfl, _, Eq.trans (World.drewN_drewN _ _ _) (congrArg (World.drewN _) (Nat.add_assoc _ _ _))⟩))))
    go_ret2
    exact ⟨_, by first | rfl | (simp [errW_none, errW_some] <;> rfl) | (simp [*, errW_none, errW_some] <;> rfl), by first | exact Kd.R_nil _ _ _ _ _ | exact Kd.N_nil _ _ _ _ _ | exact Kd.V_nil _ _ _ _ _ | exact Kd.Q_nil _ _ _ _ _ | exact Kd.S_nil _ _ _ _ _, by repeat (first | (with_reducible first | exact HB.out | apply below_alloc | apply pw_below_drewN | apply below_drew1) | exact HB.out)⟩

-- NOT PRINTED: function 3 (flagstonelaw13_BucketReweighs)

end Go.Proofs.YtefglphdiimhnaaDoor.Q
