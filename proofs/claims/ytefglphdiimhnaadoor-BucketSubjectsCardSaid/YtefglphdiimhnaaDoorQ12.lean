-- printed by wip/hp.py (the session's driver of the print, with hand-proved contracts)
import Derived.Test.YtefglphdiimhnaaDoorQ0
import Derived.Test.YtefglphdiimhnaaDoorQ7
import Derived.Test.YtefglphdiimhnaaDoorQ9
import Derived.Test.YtefglphdiimhnaaDoorQ10
import Derived.Test.YtefglphdiimhnaaDoorQ11
namespace Go.Proofs.YtefglphdiimhnaaDoor.Q
open Go.RowKit Go.Proofs.YtefglphdiimhnaaDoorW.PrintWords Go.Proofs.YtefglphdiimhnaaDoorW.PrintLast Go.Proofs.YtefglphdiimhnaaDoorW.PrintMore
attribute [local go_sem] max2_int min2_int max_two min_two max_three min_three max_four min_four   -- for this text's walks alone
set_option linter.unusedVariables false
set_option linter.unusedSimpArgs false

/-! ### flagstonelaw13_BucketSubjects: function 9 -/
mutual
def flagstonelaw13_BucketSubjects.j0 : Nat → List Int → ByteArray → ByteArray → ByteArray → Bool → List (S85) → Option (Bool)
  | 0, _, _, _, _, _, _ => none
  | k + 1, x0, x2, x3, x4, x38, x300000 => if x38 = true then (some true) else ((flagstonedraw_New.f x0 60).bind fun bt301 => ((flagstonedraw_Codes_Subject.f k bt301.1 bt301.2).bind fun bt304 => ((flagstonedraw_Declared.f).bind fun t309 => (flagstonelaw13_BucketSubjects.l0 k x2 x3 x4 t309 0 x300000 bt304.1))))
def flagstonelaw13_BucketSubjects.l0 : Nat → ByteArray → ByteArray → ByteArray → List (S65) → Int → List (S85) → List (S85) → Option (Bool)
  | 0, _, _, _, _, _, _, _ => none
  | k + 1, x2, x3, x4, x12, x13, x300000, x309000 => if x13 < (x12.length : Int) then (if 0 ≤ x13 then ((bucket_Subject.f k x309000 ((rd_T65 x12 x13).f0) ((rd_T65 x12 x13).f1) x4).bind fun bt314 => ((flagstoneref13_Subject.f k x309000 ((rd_T65 x12 x13).f0) ((rd_T65 x12 x13).f1) x4).bind fun bt318 => (if bt314.1 = bt318.1 then (if (bt314.2 != bt318.2) = true then (some false) else (flagstonelaw13_BucketSubjects.l0 k x2 x3 x4 x12 (wrap64 (x13 + 1)) x300000 x309000)) else (some false)))) else (none)) else ((some (([(⟨x309000⟩ : S58), (⟨x300000⟩ : S58)] : List (S58)) : List (S58))).bind fun y320 => (flagstonelaw13_BucketSubjects.l1 k x2 x3 x4 y320 (y320.length : Int) 0))
def flagstonelaw13_BucketSubjects.l1 : Nat → ByteArray → ByteArray → ByteArray → List (S58) → Int → Int → Option (Bool)
  | 0, _, _, _, _, _, _ => none
  | k + 1, x2, x3, x4, x91, x92, x93 => if x93 < x92 then (if 0 ≤ x93 then (if x93 < (x91.length : Int) then ((bucket_Subject.f k ((rd_T58 x91 x93).f0) x2 x3 x4).bind fun bt325 => ((flagstoneref13_Subject.f k ((rd_T58 x91 x93).f0) x2 x3 x4).bind fun bt327 => ((bucket_Subject.f k ((rd_T58 x91 x93).f0) (⟨#[117, 115, 101, 114]⟩ : ByteArray) (⟨#[107, 101, 121]⟩ : ByteArray) x4).bind fun bt329 => ((flagstoneref13_Subject.f k ((rd_T58 x91 x93).f0) (⟨#[117, 115, 101, 114]⟩ : ByteArray) (⟨#[107, 101, 121]⟩ : ByteArray) x4).bind fun bt331 => (if bt325.1 = bt327.1 then (if (bt325.2 != bt327.2) = true then (some false) else (if bt329.1 = bt331.1 then (if (bt329.2 != bt331.2) = true then (some false) else (flagstonelaw13_BucketSubjects.l1 k x2 x3 x4 x91 x92 (wrap64 (x93 + 1)))) else (some false))) else (some false)))))) else (none)) else (none)) else (some true)
end
def flagstonelaw13_BucketSubjects.f (k : Nat) (l0 : List Int) (l1_0 : List (S85)) (a2 : ByteArray) (a3 : ByteArray) (a4 : ByteArray) : Option (Bool) := (flagstonelaw13_awake.f).bind fun t300 => (if t300 = true then (if (l1_0.length : Int) > 8 then (flagstonelaw13_BucketSubjects.j0 k l0 a2 a3 a4 true l1_0) else (flagstonelaw13_BucketSubjects.j0 k l0 a2 a3 a4 (decide ((a4.size : Int) > 400)) l1_0)) else (some false))
theorem flagstonelaw13_BucketSubjects.mono_l : ∀ k, (∀ y0 y1 y2 y3 y4 y5, LeO (flagstonelaw13_BucketSubjects.j0 k y0 y1 y2 y3 y4 y5) (flagstonelaw13_BucketSubjects.j0 (k + 1) y0 y1 y2 y3 y4 y5)) ∧ (∀ y0 y1 y2 y3 y4 y5 y6, LeO (flagstonelaw13_BucketSubjects.l0 k y0 y1 y2 y3 y4 y5 y6) (flagstonelaw13_BucketSubjects.l0 (k + 1) y0 y1 y2 y3 y4 y5 y6)) ∧ (∀ y0 y1 y2 y3 y4 y5, LeO (flagstonelaw13_BucketSubjects.l1 k y0 y1 y2 y3 y4 y5) (flagstonelaw13_BucketSubjects.l1 (k + 1) y0 y1 y2 y3 y4 y5))
  | 0 => ⟨fun _ _ _ _ _ _ r h => by simp [flagstonelaw13_BucketSubjects.j0] at h, fun _ _ _ _ _ _ _ r h => by simp [flagstonelaw13_BucketSubjects.l0] at h, fun _ _ _ _ _ _ r h => by simp [flagstonelaw13_BucketSubjects.l1] at h⟩
  | k + 1 => by
    obtain ⟨ih0, ih1, ih2⟩ := flagstonelaw13_BucketSubjects.mono_l k
    refine ⟨?_, ?_, ?_⟩
    · intro y0 y1 y2 y3 y4 y5
      unfold flagstonelaw13_BucketSubjects.j0
      repeat' first
      | (with_reducible exact ih0 _ _ _ _ _ _)
      | (with_reducible exact ih1 _ _ _ _ _ _ _)
      | (with_reducible exact ih2 _ _ _ _ _ _)
      | (with_reducible exact bucket_Subject.mono _ _ _ _ _)
      | (with_reducible exact flagstonedraw_Codes_Subject.mono _ _ _)
      | (with_reducible exact flagstoneref13_Subject.mono _ _ _ _ _)
      | (with_reducible exact LeO.refl _)
      | (with_reducible exact LeO.none _)
      | (with_reducible refine LeO.ite ?_ ?_)
      | (with_reducible refine LeO.bind ?_ (fun _ => ?_))
      | exact ih0 _ _ _ _ _ _
      | exact ih1 _ _ _ _ _ _ _
      | exact ih2 _ _ _ _ _ _
      | exact bucket_Subject.mono _ _ _ _ _
      | exact flagstonedraw_Codes_Subject.mono _ _ _
      | exact flagstoneref13_Subject.mono _ _ _ _ _
      | exact LeO.none _
      | refine LeO.ite ?_ ?_
      | refine LeO.bind ?_ (fun _ => ?_)
    · intro y0 y1 y2 y3 y4 y5 y6
      unfold flagstonelaw13_BucketSubjects.l0
      repeat' first
      | (with_reducible exact ih0 _ _ _ _ _ _)
      | (with_reducible exact ih1 _ _ _ _ _ _ _)
      | (with_reducible exact ih2 _ _ _ _ _ _)
      | (with_reducible exact bucket_Subject.mono _ _ _ _ _)
      | (with_reducible exact flagstonedraw_Codes_Subject.mono _ _ _)
      | (with_reducible exact flagstoneref13_Subject.mono _ _ _ _ _)
      | (with_reducible exact LeO.refl _)
      | (with_reducible exact LeO.none _)
      | (with_reducible refine LeO.ite ?_ ?_)
      | (with_reducible refine LeO.bind ?_ (fun _ => ?_))
      | exact ih0 _ _ _ _ _ _
      | exact ih1 _ _ _ _ _ _ _
      | exact ih2 _ _ _ _ _ _
      | exact bucket_Subject.mono _ _ _ _ _
      | exact flagstonedraw_Codes_Subject.mono _ _ _
      | exact flagstoneref13_Subject.mono _ _ _ _ _
      | exact LeO.none _
      | refine LeO.ite ?_ ?_
      | refine LeO.bind ?_ (fun _ => ?_)
    · intro y0 y1 y2 y3 y4 y5
      unfold flagstonelaw13_BucketSubjects.l1
      repeat' first
      | (with_reducible exact ih0 _ _ _ _ _ _)
      | (with_reducible exact ih1 _ _ _ _ _ _ _)
      | (with_reducible exact ih2 _ _ _ _ _ _)
      | (with_reducible exact bucket_Subject.mono _ _ _ _ _)
      | (with_reducible exact flagstonedraw_Codes_Subject.mono _ _ _)
      | (with_reducible exact flagstoneref13_Subject.mono _ _ _ _ _)
      | (with_reducible exact LeO.refl _)
      | (with_reducible exact LeO.none _)
      | (with_reducible refine LeO.ite ?_ ?_)
      | (with_reducible refine LeO.bind ?_ (fun _ => ?_))
      | exact ih0 _ _ _ _ _ _
      | exact ih1 _ _ _ _ _ _ _
      | exact ih2 _ _ _ _ _ _
      | exact bucket_Subject.mono _ _ _ _ _
      | exact flagstonedraw_Codes_Subject.mono _ _ _
      | exact flagstoneref13_Subject.mono _ _ _ _ _
      | exact LeO.none _
      | refine LeO.ite ?_ ?_
      | refine LeO.bind ?_ (fun _ => ?_)
theorem flagstonelaw13_BucketSubjects.mono : ∀ a0 a1 a2 a3 a4 k, LeO (flagstonelaw13_BucketSubjects.f k a0 a1 a2 a3 a4) (flagstonelaw13_BucketSubjects.f (k + 1) a0 a1 a2 a3 a4) := by
  intro a0 a1 a2 a3 a4 k
  obtain ⟨ih0, ih1, ih2⟩ := flagstonelaw13_BucketSubjects.mono_l k
  unfold flagstonelaw13_BucketSubjects.f
  repeat' first
      | (with_reducible exact ih0 _ _ _ _ _ _)
      | (with_reducible exact ih1 _ _ _ _ _ _ _)
      | (with_reducible exact ih2 _ _ _ _ _ _)
      | (with_reducible exact bucket_Subject.mono _ _ _ _ _)
      | (with_reducible exact flagstonedraw_Codes_Subject.mono _ _ _)
      | (with_reducible exact flagstoneref13_Subject.mono _ _ _ _ _)
      | (with_reducible exact LeO.refl _)
      | (with_reducible exact LeO.none _)
      | (with_reducible refine LeO.ite ?_ ?_)
      | (with_reducible refine LeO.bind ?_ (fun _ => ?_))
      | exact ih0 _ _ _ _ _ _
      | exact ih1 _ _ _ _ _ _ _
      | exact ih2 _ _ _ _ _ _
      | exact bucket_Subject.mono _ _ _ _ _
      | exact flagstonedraw_Codes_Subject.mono _ _ _
      | exact flagstoneref13_Subject.mono _ _ _ _ _
      | exact LeO.none _
      | refine LeO.ite ?_ ?_
      | refine LeO.bind ?_ (fun _ => ?_)
def flagstonelaw13_BucketSubjects.T10 : Bool × List (List Nat × List Nat) := (true, [([], []), ([], []), ([], []), ([1, 2], [1, 2]), ([3], [3]), ([4], [4]), ([], []), ([], []), ([6, 7], [6, 7]), ([8], [8]), ([9], [9]), ([], []), ([0, 5, 10, 11], [0, 5, 10, 11]), ([12], [12]), ([13], [13]), ([13], [13]), ([14, 12, 0, 1, 2, 3, 4, 5, 6, 7, 8, 9, 10, 11, 12, 13, 14], [14]), ([15, 16, 0, 1, 2, 3, 4, 5, 6, 7, 8, 9, 10, 11, 12, 13, 14, 15, 16], [15])])
def flagstonelaw13_BucketSubjects.B10 : List Nat := [0, 0, 0, 6, 14, 30, 0, 0, 192, 448, 960, 0, 4095, 8191, 16383, 16383, 32767, 131071]
theorem flagstonelaw13_BucketSubjects.tab10 : rtab .any (opsOf Tryd.f9 10) = flagstonelaw13_BucketSubjects.T10 := by kernel_rfl
theorem flagstonelaw13_BucketSubjects.bits10 : waitsOk flagstonelaw13_BucketSubjects.T10.2 flagstonelaw13_BucketSubjects.B10 = true := by kernel_rfl
def flagstonelaw13_BucketSubjects.T11 : Bool × List (List Nat × List Nat) := (true, [([], []), ([], []), ([], []), ([1, 2], [1, 2]), ([3], [3]), ([4], [4]), ([], []), ([], []), ([6, 7], [6, 7]), ([8], [8]), ([9], [9]), ([], []), ([0, 5, 10, 11], [0, 5, 10, 11]), ([12], [12]), ([13], [13]), ([13], [13]), ([14, 12, 0, 1, 2, 3, 4, 5, 6, 7, 8, 9, 10, 11, 12, 13, 14], [14]), ([15, 16, 0, 1, 2, 3, 4, 5, 6, 7, 8, 9, 10, 11, 12, 13, 14, 15, 16], [15])])
def flagstonelaw13_BucketSubjects.B11 : List Nat := [0, 0, 0, 6, 14, 30, 0, 0, 192, 448, 960, 0, 4095, 8191, 16383, 16383, 32767, 131071]
theorem flagstonelaw13_BucketSubjects.tab11 : rtab .any (opsOf Tryd.f9 11) = flagstonelaw13_BucketSubjects.T11 := by kernel_rfl
theorem flagstonelaw13_BucketSubjects.bits11 : waitsOk flagstonelaw13_BucketSubjects.T11.2 flagstonelaw13_BucketSubjects.B11 = true := by kernel_rfl
set_option maxHeartbeats 8000000 in
set_option maxRecDepth 100000 in
theorem flagstonelaw13_BucketSubjects.calls (k : Nat) (A0 : Option Addr) (c0 : Nat) (l0 : List Int) (P1_0_ : Nat → Prop) (A1_0 : Option Addr) (c1_0 : Nat) (l1_0 : List (S85)) (a2 : ByteArray) (a3 : ByteArray) (a4 : ByteArray) (r : Bool) (w : World) (hr0 : Kd.C (Kd.int .u8) w A0 l0.length l0) (hc0 : l0.length ≤ c0) (hs1_0 : Kd.V k85 85 w w.heap.size (fun k_ => P1_0_ k_) (.slice A1_0 l1_0.length c1_0) l1_0) (hGL : GL w) (h : flagstonelaw13_BucketSubjects.f k l0 l1_0 a2 a3 a4 = some r) :
    Calls Tryd.prog 9 #[.slice A0 l0.length c0, .agg #[.slice A1_0 l1_0.length c1_0], .string a2, .string a3, .string a4] w fun e w' => e = .returned (.bool r) ∧ Below w.heap.size w w' := by
  have hu58 := Tryd.underlying58; have HR0 := Aside0.mk hr0; have HC0 := Aside0.mk hc0; clear hr0 hc0
  have HO1_0 := Aside0.mk (show Kd.V k85 85 w w.heap.size (fun k_ => (P1_0_ k_ ∨ w.heap.size ≤ k_)) (.slice A1_0 l1_0.length c1_0) l1_0 from Kd.V_mono hs1_0 (fun k_ hk => .inl hk))
  have HGL := Aside0.mk hGL; clear hGL
  have HB := Aside0.mk (Below.refl w.heap.size w)
  have H : ((flagstonelaw13_awake.f).bind fun t300 => (if t300 = true then (if (l1_0.length : Int) > 8 then (flagstonelaw13_BucketSubjects.j0 k l0 a2 a3 a4 true l1_0) else (flagstonelaw13_BucketSubjects.j0 k l0 a2 a3 a4 (decide ((a4.size : Int) > 400)) l1_0)) else (some false))) = some r := h
  clear h; replace H := Option.bind_eq_some_iff.mp H; obtain ⟨t300, A60, H⟩ := H
  replace H : (if t300 = true then (if (l1_0.length : Int) > 8 then (flagstonelaw13_BucketSubjects.j0 k l0 a2 a3 a4 true l1_0) else (flagstonelaw13_BucketSubjects.j0 k l0 a2 a3 a4 (decide ((a4.size : Int) > 400)) l1_0)) else (some false)) = some r := H
  have A6 := Aside0.mk A60; clear A60
  by_cases c7 : t300 = true
  · subst c7
    have H1 : (if (l1_0.length : Int) > 8 then (flagstonelaw13_BucketSubjects.j0 k l0 a2 a3 a4 true l1_0) else (flagstonelaw13_BucketSubjects.j0 k l0 a2 a3 a4 (decide ((a4.size : Int) > 400)) l1_0)) = some r := by rw [if_pos rfl] at H; exact H
    clear H; have H := H1; clear H1; have HC8 := Aside0.mk H; clear H
    go_enter Tryd.func9, Tryd.ntmps9
    go_upto_region 3 with (first | ((with_reducible refine gate_dst (N := 6) rfl ?_); (try (refine gate_guard (by rfl) ?_; dsimp only)); refine box_event ?hg (N := 6) ?hd (cs := #[.slice A1_0 l1_0.length c1_0]) (t := 58) ?hr ?_; (case hd => rfl); (case hg => rfl); (case hr => first | (go_simp; done) | (go_simp; rfl)); intro gb299 hg w9 hbox hb; have n0_ := Aside0.mk (Kd.V_below (Kd.V_elderB (by (with_reducible repeat (first | apply Kd.V_alloc | apply Kd.V_drewN | apply Kd.V_drew)); exact HO1_0.out) gb299 (Nat.le_of_eq hg.symm)) hb); have n1_ := Aside0.mk (below_step (by repeat (first | (with_reducible first|exact HB.out|apply zE|apply zB|apply zC) | exact HB.out)) hb); have n2_ := Aside0.mk (hbox); have n3_ := Aside0.mk ((by rw [hg]; exact (below_size (by repeat (first | (with_reducible first|exact HB.out|apply zE|apply zB|apply zC) | exact HB.out))) : w.heap.size ≤ gb299)); have n4_ := Aside0.mk ((by rw [hg]; exact (below_size (by repeat (first | (with_reducible first|exact HB.out|apply zE|apply zB|apply zC) | exact HB.out))) : w.heap.size ≤ gb299)); clear HO1_0 HB; have HO1_0 := n0_; have HB := n1_; have BK299 := n2_; have GW299 := n3_; have GE299 := n4_; clear n0_ n1_ n2_ n3_ n4_ hb hbox hg) | ((with_reducible refine gate_callee (f := 10) rfl ?_); refine goesL_ (some 28) rfl rfl Tryd.func10 (by kernel_rfl) rfl #[] rfl (by (try simp only [List.map_toArray, List.map_cons, List.map_nil]); first | done | rfl | (simp only [List.length_drop, List.length_take]; rfl)) ?_; (with_reducible refine (flagstonelaw13_awake.calls  true _ ?side1 A6.out).mono ?_); (case side1 => exact GL.below HGL.out (by repeat (first | (with_reducible first|exact HB.out|apply zE|apply zB|apply zC | refine zJ ?_ GE299.out) | exact HB.out))); rintro e w10 ⟨rfl, hb⟩; refine ⟨_, rfl, ?_⟩; have n0_ := Aside0.mk (Kd.V_below (by (with_reducible repeat (first | apply Kd.V_alloc | apply Kd.V_drewN | apply Kd.V_drew)); exact HO1_0.out) hb); have n1_ := Aside0.mk (blk_below (g := gb299) (o := .cells #[.slice A1_0 l1_0.length c1_0] 58 (0, 0)) (by (with_reducible repeat (first|refine zN ?_ _|refine zD ?_|refine zA ?_ _)); exact BK299.out) hb); have n2_ := Aside0.mk (below_step (by repeat (first | (with_reducible first|exact HB.out|apply zE|apply zB|apply zC | refine zJ ?_ GE299.out) | exact HB.out)) hb); clear HO1_0 BK299 HB; have HO1_0 := n0_; have BK299 := n1_; have HB := n2_; clear n0_ n1_ n2_; (try clear hb); (try clear hb2); (try clear hk); (try clear hi); (try clear hge)))
    (try simp only [Act.put, List.setIfInBounds_toArray, List.set_cons_zero, List.set_cons_succ])
    go_cut [38] (fun v38 wc => ∃ (kq : Nat) (x38_7 : Bool), v38 = .bool x38_7 ∧ Aside0 (flagstonelaw13_BucketSubjects.j0 kq l0 a2 a3 a4 x38_7 l1_0 = some r) ∧ Aside0 (kq ≤ k) ∧ Aside0 (Kd.V k85 85 wc w.heap.size (fun k_ => (P1_0_ k_ ∨ w.heap.size ≤ k_) ∧ k_ ≠ gb299) (.slice A1_0 l1_0.length c1_0) l1_0) ∧ Aside0 (wc.heap[gb299]? = some (.cells #[(.slice A1_0 l1_0.length c1_0)] 58 (0, 0))) ∧ Aside0 (Below w.heap.size w wc))
    case first =>
      have H := HC8.out; clear HC8
      by_cases c11 : (l1_0.length : Int) > 8
      · rw [if_pos c11] at H
        have c11b0 : decide (8 < (l1_0.length : Int)) = true := decide_eq_true c11
        have c11b1 : decide (8 < l1_0.length) = true := decide_eq_true (by omega)
        clear c11
        (first | rw [c11b0] | (simp only [i64_w, i32_w]; rw [c11b0]) | skip)
        have H' := Aside0.mk H; clear H
        have hcz12_0 : w10.cell? ⟨gb299, 0, none⟩ = some (.slice A1_0 l1_0.length c1_0) := (blk_cell BK299.out 0).trans rfl
        have hfz12_0 := blk_frozen BK299.out 0
        go_wp2
        go_meet
        case rel => exact ⟨_, (true), (by first | rfl | (simp; done) | (simp [*]; done)), H', ⟨by first | omega | exact Nat.le_refl _⟩, ⟨by (with_reducible repeat (first | apply Kd.V_alloc | apply Kd.V_drewN | apply Kd.V_drew)); exact HO1_0.out⟩, ⟨by (with_reducible repeat (first|refine zN ?_ _|refine zD ?_|refine zA ?_ _)); exact BK299.out⟩, ⟨by repeat (first | (with_reducible first|exact HB.out|apply zE|apply zB|apply zC | refine zJ ?_ GE299.out) | exact HB.out)⟩⟩
      · rw [if_neg c11] at H
        have c11b0 : decide (8 < (l1_0.length : Int)) = false := decide_eq_false c11
        have c11b1 : decide (8 < l1_0.length) = false := decide_eq_false (by omega)
        clear c11
        (first | rw [c11b0] | (simp only [i64_w, i32_w]; rw [c11b0]) | skip)
        have H' := Aside0.mk H; clear H
        have hcz13_0 : w10.cell? ⟨gb299, 0, none⟩ = some (.slice A1_0 l1_0.length c1_0) := (blk_cell BK299.out 0).trans rfl
        have hfz13_0 := blk_frozen BK299.out 0
        go_wp2
        go_meet
        case rel => exact ⟨_, (decide ((a4.size : Int) > 400)), (by first | rfl | (simp; done) | (simp [*]; done)), H', ⟨by first | omega | exact Nat.le_refl _⟩, ⟨by (with_reducible repeat (first | apply Kd.V_alloc | apply Kd.V_drewN | apply Kd.V_drew)); exact HO1_0.out⟩, ⟨by (with_reducible repeat (first|refine zN ?_ _|refine zD ?_|refine zA ?_ _)); exact BK299.out⟩, ⟨by repeat (first | (with_reducible first|exact HB.out|apply zE|apply zB|apply zC | refine zJ ?_ GE299.out) | exact HB.out)⟩⟩
    case rest =>
      clear HC8; (try clear c1); (try clear p2); (try clear c7); (try clear c9); (try clear c10); (try clear c11); (try clear c11b0); (try clear c11b1); (try clear hcz12_0); (try clear hcz13_0); (try clear hfz12_0); (try clear hfz13_0)
      obtain ⟨kq, x38_7, rfl, HA, HJ7, HO_300000, BK299, HB⟩ := hcut
      cases kq with
      | zero => exact absurd HA.out (by simp [flagstonelaw13_BucketSubjects.j0])
      | succ kj7 =>
        have H := HA.out; clear HA
        simp only [flagstonelaw13_BucketSubjects.j0] at H
        by_cases c14 : x38_7 = true
        · subst c14
          have H1 : (some true) = some r := by rw [if_pos rfl] at H; exact H
          clear H; have H := H1; clear H1
          obtain rfl := Option.some.inj H
          go_wp2
          go_ret
          exact ⟨by first | rfl | (simp [errW_none, errW_some] <;> rfl) | (simp [*, errW_none, errW_some] <;> rfl), by repeat (first | (with_reducible first|exact HB.out|apply zE|apply zB|apply zC | refine zJ ?_ GE299.out) | exact HB.out)⟩
        · replace c14 := Bool.eq_false_iff.mpr c14
          subst c14
          have H1 : ((flagstonedraw_New.f l0 60).bind fun bt301 => ((flagstonedraw_Codes_Subject.f kj7 bt301.1 bt301.2).bind fun bt304 => ((flagstonedraw_Declared.f).bind fun t309 => (flagstonelaw13_BucketSubjects.l0 kj7 a2 a3 a4 t309 0 l1_0 bt304.1)))) = some r := by rw [if_neg (show ¬ (false = true) by decide)] at H; exact H
          clear H; have H := H1; clear H1; replace H := Option.bind_eq_some_iff.mp H
          obtain ⟨⟨t301, t302⟩, A150, H⟩ := H
          replace H : ((flagstonedraw_Codes_Subject.f kj7 t301 t302).bind fun bt304 => ((flagstonedraw_Declared.f).bind fun t309 => (flagstonelaw13_BucketSubjects.l0 kj7 a2 a3 a4 t309 0 l1_0 bt304.1))) = some r := H
          have A15 := Aside0.mk A150; clear A150; replace H := Option.bind_eq_some_iff.mp H
          obtain ⟨⟨t304, t307⟩, A160, H⟩ := H
          replace H : ((flagstonedraw_Declared.f).bind fun t309 => (flagstonelaw13_BucketSubjects.l0 kj7 a2 a3 a4 t309 0 l1_0 t304)) = some r := H
          have A16 := Aside0.mk A160; clear A160; replace H := Option.bind_eq_some_iff.mp H; obtain ⟨t309, A170, H⟩ := H
          replace H : (flagstonelaw13_BucketSubjects.l0 kj7 a2 a3 a4 t309 0 l1_0 t304) = some r := H
          have A17 := Aside0.mk A170; clear A170; have H' := Aside0.mk H; clear H
          go_wp2_with (first | ((with_reducible refine gate_callee (f := 11) rfl ?_); refine goesL_ (some 40) rfl rfl Tryd.func11 (by kernel_rfl) rfl #[.slice A0 l0.length c0, .int .i64 60] rfl (by (try simp only [List.map_toArray, List.map_cons, List.map_nil]); first | done | rfl | (simp only [List.length_drop, List.length_take]; rfl)) ?_; (with_reducible refine (flagstonedraw_New.calls _ _ l0 60 t301 t302 w _ ?side1 ?side2 ?side3 A15.out).mono ?_); (case side1 => repeat (first | (with_reducible first|exact HB.out|apply zE|apply zB|apply zC | refine zJ ?_ GE299.out) | exact HB.out)); (case side2 => exact HR0.out); (case side3 => exact HC0.out); rintro e w18 ⟨g303, rfl, hi, hb, hb2, hge⟩; refine ⟨_, rfl, ?_⟩; have n0_ := Aside0.mk (Kd.V_below (Kd.V_elderB (by (with_reducible repeat (first | apply Kd.V_alloc | apply Kd.V_drewN | apply Kd.V_drew)); exact HO_300000.out) g303 hge) hb2); have n1_ := Aside0.mk (blk_below (g := gb299) (o := .cells #[.slice A1_0 l1_0.length c1_0] 58 (0, 0)) (by (with_reducible repeat (first|refine zN ?_ _|refine zD ?_|refine zA ?_ _)); exact BK299.out) hb2); have n2_ := Aside0.mk (hb); have n3_ := Aside0.mk (hi); have n4_ := Aside0.mk (IsS71.ne_blk hi (blk_below (g := gb299) (o := .cells #[.slice A1_0 l1_0.length c1_0] 58 (0, 0)) (by (with_reducible repeat (first|refine zN ?_ _|refine zD ?_|refine zA ?_ _)); exact BK299.out) hb2) (by decide)); have n5_ := Aside0.mk (Ne.symm (IsS71.ne_blk hi (blk_below (g := gb299) (o := .cells #[.slice A1_0 l1_0.length c1_0] 58 (0, 0)) (by (with_reducible repeat (first|refine zN ?_ _|refine zD ?_|refine zA ?_ _)); exact BK299.out) hb2) (by decide))); clear HO_300000 BK299 HB; have HO_300000 := n0_; have BK299 := n1_; have HB := n2_; have HI303 := n3_; have NB303_299 := n4_; have NB299_303 := n5_; clear n0_ n1_ n2_ n3_ n4_ n5_; (try clear hb); (try clear hb2); (try clear hk); (try clear hi); (try clear hge)) | ((with_reducible refine gate_callee (f := 32) rfl ?_); refine goesL_ (some 41) rfl rfl Tryd.func32 (by kernel_rfl) rfl #[.pointer (some ⟨g303, 0, none⟩)] rfl (by (try simp only [List.map_toArray, List.map_cons, List.map_nil]); first | done | rfl | (simp only [List.length_drop, List.length_take]; rfl)) ?_; (with_reducible refine (flagstonedraw_Codes_Subject.calls kj7 g303 t301 t302 t304 t307 w _ ?side1 ?side2 ?side3 A16.out).mono ?_); (case side1 => repeat (first | (with_reducible first | exact HI303.out | apply IsS71.alloc | apply IsS71.drewN | apply IsS71.drew | apply IsS71.set_1 | refine IsS71.far ?_ NB303_299.out _) | exact HI303.out)); (case side2 => repeat (first | (with_reducible first|exact HB.out|apply zE|apply zB|apply zC | refine zJ ?_ (IsS71.ge HI303.out) | refine zJ ?_ GE299.out) | exact HB.out)); (case side3 => exact HGL.out); rintro e w19 ⟨v305, rfl, ho0, hi, hb, hk⟩; refine ⟨_, rfl, ?_⟩; have n0_ := Aside0.mk (Kd.V_mono (Kd.V_keep (Kd.V_mono (ok := fun k_ => ((((P1_0_ k_ ∨ w.heap.size ≤ k_)) ∧ k_ ≠ gb299) ∧ k_ ≠ g303)) (by (with_reducible repeat (first | apply Kd.V_alloc | apply Kd.V_drewN | apply Kd.V_drew)); exact HO_300000.out) (fun k_ hk_ => (⟨hk_, hk_.2⟩ : _ ∧ k_ ≠ g303))) hk (fun _ h => h.2)) (fun _ h => h.1)); have n1_ := Aside0.mk (KeepBut.blk hk (g' := gb299) (o := .cells #[.slice A1_0 l1_0.length c1_0] 58 (0, 0)) (by (with_reducible repeat (first|refine zN ?_ _|refine zD ?_|refine zA ?_ _)); exact BK299.out) NB299_303.out (by simp)); have n2_ := Aside0.mk (Kd.V_lower (Kd.V_mono (ok' := fun k_ => (P1_0_ k_ ∨ w.heap.size ≤ k_) ∧ k_ ≠ gb299 ∧ k_ ≠ g303) ho0 (fun k_ hk_ => ⟨(.inr (Nat.le_trans (below_size (by repeat (first | (with_reducible first|exact HB.out|apply zE|apply zB|apply zC | refine zJ ?_ (IsS71.ge HI303.out) | refine zJ ?_ GE299.out) | exact HB.out))) hk_)), (Kd.freshB (g := gb299) (o := .cells #[.slice A1_0 l1_0.length c1_0] 58 (0, 0)) (by (with_reducible repeat (first|refine zN ?_ _|refine zD ?_|refine zA ?_ _)); exact BK299.out) k_ hk_), (IsS71.fresh (by repeat (first | (with_reducible first | exact HI303.out | apply IsS71.alloc | apply IsS71.drewN | apply IsS71.drew | apply IsS71.set_1 | refine IsS71.far ?_ NB303_299.out _) | exact HI303.out)) k_ hk_)⟩)) (below_size (by repeat (first | (with_reducible first|exact HB.out|apply zE|apply zB|apply zC | refine zJ ?_ (IsS71.ge HI303.out) | refine zJ ?_ GE299.out) | exact HB.out)))); have n3_ := Aside0.mk (hb); have n4_ := Aside0.mk (hi); clear HO_300000 BK299 HB HI303; have HO_300000 := n0_; have BK299 := n1_; have HO306 := n2_; have HB := n3_; have HI303 := n4_; clear n0_ n1_ n2_ n3_ n4_; (try clear hb); (try clear hb2); (try clear hk); (try clear hi); (try clear hge); (try clear ho0)) | ((with_reducible refine gate_dst (N := 11) rfl ?_); (try (refine gate_guard (by rfl) ?_; dsimp only)); refine box_event ?hg (N := 11) ?hd (cs := #[.slice none 0 0]) (t := 58) ?hr ?_; (case hd => rfl); (case hg => rfl); (case hr => first | (go_simp; done) | (go_simp; rfl)); intro gb308 hg w20 hbox hb; have n0_ := Aside0.mk (Kd.V_below (Kd.V_elderB (by (with_reducible repeat (first | apply Kd.V_alloc | apply Kd.V_drewN | apply Kd.V_drew)); exact HO_300000.out) gb308 (Nat.le_of_eq hg.symm)) hb); have n1_ := Aside0.mk (Kd.V_below (Kd.V_elderB (by (with_reducible repeat (first | apply Kd.V_alloc | apply Kd.V_drewN | apply Kd.V_drew)); exact HO306.out) gb308 (Nat.le_of_eq hg.symm)) hb); have n2_ := Aside0.mk (blk_below (g := gb299) (o := .cells #[.slice A1_0 l1_0.length c1_0] 58 (0, 0)) (by (with_reducible repeat (first|refine zN ?_ _|refine zD ?_|refine zA ?_ _)); exact BK299.out) hb); have n3_ := Aside0.mk (IsS71.below (by repeat (first | (with_reducible first | exact HI303.out | apply IsS71.alloc | apply IsS71.drewN | apply IsS71.drew | apply IsS71.set_1 | refine IsS71.far ?_ NB303_299.out _) | exact HI303.out)) hb); have n4_ := Aside0.mk (below_step (by repeat (first | (with_reducible first|exact HB.out|apply zE|apply zB|apply zC | refine zJ ?_ (IsS71.ge HI303.out) | refine zJ ?_ GE299.out) | exact HB.out)) hb); have n5_ := Aside0.mk (hbox); have n6_ := Aside0.mk ((by rw [hg]; exact (below_size (by repeat (first | (with_reducible first|exact HB.out|apply zE|apply zB|apply zC | refine zJ ?_ (IsS71.ge HI303.out) | refine zJ ?_ GE299.out) | exact HB.out))) : w.heap.size ≤ gb308)); have n7_ := Aside0.mk ((by rw [hg]; exact (below_size (by repeat (first | (with_reducible first|exact HB.out|apply zE|apply zB|apply zC | refine zJ ?_ (IsS71.ge HI303.out) | refine zJ ?_ GE299.out) | exact HB.out))) : w.heap.size ≤ gb308)); have n8_ := Aside0.mk ((by rw [hg]; exact Nat.ne_of_lt (blk_lt (g := gb299) (o := .cells #[.slice A1_0 l1_0.length c1_0] 58 (0, 0)) (by (with_reducible repeat (first|refine zN ?_ _|refine zD ?_|refine zA ?_ _)); exact BK299.out)) : gb299 ≠ gb308)); have n9_ := Aside0.mk ((by rw [hg]; exact Nat.ne_of_gt (blk_lt (g := gb299) (o := .cells #[.slice A1_0 l1_0.length c1_0] 58 (0, 0)) (by (with_reducible repeat (first|refine zN ?_ _|refine zD ?_|refine zA ?_ _)); exact BK299.out)) : gb308 ≠ gb299)); have n10_ := Aside0.mk ((by rw [hg]; exact Nat.ne_of_lt (IsS71.lt (show IsS71 w _ g303 t301 t307 from by repeat (first | (with_reducible first | exact HI303.out | apply IsS71.alloc | apply IsS71.drewN | apply IsS71.drew | apply IsS71.set_1 | refine IsS71.far ?_ NB303_299.out _) | exact HI303.out))) : g303 ≠ gb308)); have n11_ := Aside0.mk ((by rw [hg]; exact Nat.ne_of_gt (IsS71.lt (show IsS71 w _ g303 t301 t307 from by repeat (first | (with_reducible first | exact HI303.out | apply IsS71.alloc | apply IsS71.drewN | apply IsS71.drew | apply IsS71.set_1 | refine IsS71.far ?_ NB303_299.out _) | exact HI303.out))) : gb308 ≠ g303)); clear HO_300000 HO306 BK299 HI303 HB; have HO_300000 := n0_; have HO306 := n1_; have BK299 := n2_; have HI303 := n3_; have HB := n4_; have BK308 := n5_; have GW308 := n6_; have GE308 := n7_; have NB299_308 := n8_; have NB308_299 := n9_; have NB303_308 := n10_; have NB308_303 := n11_; clear n0_ n1_ n2_ n3_ n4_ n5_ n6_ n7_ n8_ n9_ n10_ n11_ hb hbox hg; obtain ⟨Ao21, co21, eo21⟩ := Kd.V_slice HO306.out; subst eo21; have hnb22 := NB308_299.out; have hnc22 := NB299_308.out; have hnb23 := NB308_303.out; have hnc23 := NB303_308.out; have hcz24_0 : w20.cell? ⟨gb308, 0, none⟩ = some (.slice none 0 0) := (blk_cell BK308.out 0).trans rfl; have hfz24_0 := blk_frozen BK308.out 0) | ((with_reducible refine gate_callee (f := 33) rfl ?_); refine goesL_ (some 42) rfl rfl Tryd.func33 (by kernel_rfl) rfl #[] rfl (by (try simp only [List.map_toArray, List.map_cons, List.map_nil]); first | done | rfl | (simp only [List.length_drop, List.length_take]; rfl)) ?_; (with_reducible refine (flagstonedraw_Declared.calls  t309 _ A17.out).mono ?_); rintro e w25 ⟨v310, rfl, ho0, hb⟩; refine ⟨_, rfl, ?_⟩; have n0_ := Aside0.mk (Kd.V_elder' (by (with_reducible repeat (first | apply Kd.V_alloc | apply Kd.V_drewN | apply Kd.V_drew)); exact (Kd.V_mono (Kd.V_far (p := ⟨gb308, 0, none⟩) (Kd.V_mono HO_300000.out (fun k_ hk => (⟨hk, hk.2⟩ : _ ∧ k_ ≠ gb308))) (fun _ hk => hk.2) (.slice Ao21 t304.length co21)) (fun _ h_ => h_.1))) (Kd.R_base ho0) hb); have n1_ := Aside0.mk (Kd.V_elder' (by (with_reducible repeat (first | apply Kd.V_alloc | apply Kd.V_drewN | apply Kd.V_drew)); exact (Kd.V_mono (Kd.V_far (p := ⟨gb308, 0, none⟩) (Kd.V_mono HO306.out (fun k_ hk => (⟨hk, hk.2⟩ : _ ∧ k_ ≠ gb308))) (fun _ hk => hk.2) (.slice Ao21 t304.length co21)) (fun _ h_ => h_.1))) (Kd.R_base ho0) hb); have n2_ := Aside0.mk (Kd.R_lower (Kd.R_newM (M := fun k_ => (w.heap.size ≤ k_)) ho0 (below_size (by repeat (first | (with_reducible first|exact HB.out|apply zE|apply zB|apply zC | refine zJ ?_ (IsS71.ge HI303.out) | refine zJ ?_ GE299.out | refine zJ ?_ GE308.out) | exact HB.out))) (fun k_ h_ => h_)) (below_size (by repeat (first | (with_reducible first|exact HB.out|apply zE|apply zB|apply zC | refine zJ ?_ (IsS71.ge HI303.out) | refine zJ ?_ GE299.out | refine zJ ?_ GE308.out) | exact HB.out)))); have n3_ := Aside0.mk (blk_below (g := gb299) (o := .cells #[.slice A1_0 l1_0.length c1_0] 58 (0, 0)) (by (with_reducible repeat (first|refine zN ?_ _|refine zD ?_|refine zA ?_ _)); refine blk_far ?_ NB299_308.out _; (with_reducible repeat (first|refine zN ?_ _|refine zD ?_|refine zA ?_ _)); exact BK299.out) hb); have n4_ := Aside0.mk (IsS71.below (show IsS71 w (w20.setCell ⟨gb308, 0, none⟩ (.slice Ao21 t304.length co21)) g303 t301 t307 from by repeat (first | (with_reducible first | exact HI303.out | apply IsS71.alloc | apply IsS71.drewN | apply IsS71.drew | apply IsS71.set_1 | refine IsS71.far ?_ NB303_299.out _ | refine IsS71.far ?_ NB303_308.out _) | exact HI303.out)) hb); have n5_ := Aside0.mk (blk_below (g := gb308) (o := .cells #[.slice Ao21 t304.length co21] 58 (0, 0)) (by (with_reducible repeat (first|refine zN ?_ _|refine zD ?_|refine zA ?_ _)); refine blk_put (cs := #[.slice none 0 0]) ?_ 0 _ rfl; (with_reducible repeat (first|refine zN ?_ _|refine zD ?_|refine zA ?_ _)); exact BK308.out) hb); have n6_ := Aside0.mk (below_step (by repeat (first | (with_reducible first|exact HB.out|apply zE|apply zB|apply zC | refine zJ ?_ (IsS71.ge HI303.out) | refine zJ ?_ GE299.out | refine zJ ?_ GE308.out) | exact HB.out)) hb); clear HO_300000 HO306 BK299 HI303 BK308 HB; have HO_300000 := n0_; have HO306 := n1_; have HO311 := n2_; have BK299 := n3_; have HI303 := n4_; have BK308 := n5_; have HB := n6_; clear n0_ n1_ n2_ n3_ n4_ n5_ n6_; (try clear hb); (try clear hb2); (try clear hk); (try clear hi); (try clear hge); (try clear ho0)))
          go_loopg [13] kj7 (fun kq v13 w' => ∃ (x13_2 : Int), v13 = .int .i64 x13_2 ∧ Aside0 (flagstonelaw13_BucketSubjects.l0 kq a2 a3 a4 t309 x13_2 l1_0 t304 = some r) ∧ Aside0 (kq ≤ kj7) ∧ Aside0 (Kd.R k65 65 w' w.heap.size (fun k_ => (w.heap.size ≤ k_)) v310 t309) ∧ Aside0 (Kd.V k85 85 w' w.heap.size (fun k_ => (P1_0_ k_ ∨ w.heap.size ≤ k_) ∧ some k_ ≠ (v310 : Value).ownBlock ∧ k_ ≠ gb299 ∧ k_ ≠ gb308) (.slice A1_0 l1_0.length c1_0) l1_0) ∧ Aside0 (Kd.V k85 85 w' w.heap.size (fun k_ => (P1_0_ k_ ∨ w.heap.size ≤ k_) ∧ some k_ ≠ (v310 : Value).ownBlock ∧ k_ ≠ gb299 ∧ k_ ≠ gb308) (.slice Ao21 t304.length co21) t304) ∧ Aside0 (w'.heap[gb299]? = some (.cells #[(.slice A1_0 l1_0.length c1_0)] 58 (0, 0))) ∧ Aside0 (w'.heap[gb308]? = some (.cells #[(.slice Ao21 t304.length co21)] 58 (0, 0))) ∧ Aside0 (Below w.heap.size w w'))
          case atStart => exact ⟨(0), (by first | rfl | (simp; done) | (simp [*]; done)), H', ⟨Nat.le_refl _⟩, ⟨by (with_reducible repeat (first | apply Kd.R_alloc | apply Kd.R_drewN | apply Kd.R_drew)); exact Kd.R_mono HO311.out (fun _ hk => hk.1)⟩, ⟨by (with_reducible repeat (first | apply Kd.V_alloc | apply Kd.V_drewN | apply Kd.V_drew)); exact Kd.V_mono HO_300000.out (fun _ hk => ⟨hk.1.1.1.1, ⟨hk.2, ⟨hk.1.1.1.2, hk.1.2⟩⟩⟩)⟩, ⟨by (with_reducible repeat (first | apply Kd.V_alloc | apply Kd.V_drewN | apply Kd.V_drew)); exact Kd.V_mono HO306.out (fun _ hk => ⟨hk.1.1.1, ⟨hk.2, ⟨hk.1.1.2.1, hk.1.2⟩⟩⟩)⟩, ⟨by (with_reducible repeat (first|refine zN ?_ _|refine zD ?_|refine zA ?_ _)); exact BK299.out⟩, ⟨by (with_reducible repeat (first|refine zN ?_ _|refine zD ?_|refine zA ?_ _)); exact BK308.out⟩, ⟨by repeat (first | (with_reducible first|exact HB.out|apply zE|apply zB|apply zC | refine zJ ?_ (IsS71.ge HI303.out) | refine zJ ?_ GE299.out | refine zJ ?_ GE308.out) | exact HB.out)⟩⟩
          case round =>
            clear H'; (try clear c1); (try clear c2); (try clear p2); (try clear c3); (try clear c7); (try clear c9); (try clear c10); (try clear c11); (try clear c11b0); (try clear c11b1); (try clear c14); (try clear c22); (try clear c23); (try clear hcz12_0); (try clear hcz13_0); (try clear hcz24_0); (try clear hfz12_0); (try clear hfz13_0); (try clear hfz24_0); (try clear p2)
            obtain ⟨x13_2, rfl, HA, HK2, HO_12, HO_300000, HO_309000, BK299, BK308, HB⟩ := hrel
            cases gk with
            | zero => exact absurd HA.out (by simp [flagstonelaw13_BucketSubjects.l0])
            | succ k2 =>
              have H := HA.out; clear HA
              simp only [flagstonelaw13_BucketSubjects.l0] at H
              by_cases c26 : x13_2 < (t309.length : Int)
              · rw [if_pos c26] at H
                have c26b0 : decide (x13_2 < (t309.length : Int)) = true := decide_eq_true c26
                clear c26
                by_cases c27 : 0 ≤ x13_2
                · rw [if_pos c27] at H
                  have c27b0 : decide (0 ≤ x13_2) = true := decide_eq_true c27
                  clear c27; replace H := Option.bind_eq_some_iff.mp H
                  obtain ⟨⟨t314, t315⟩, A280, H⟩ := H
                  replace H : ((flagstoneref13_Subject.f k2 t304 ((rd_T65 t309 x13_2).f0) ((rd_T65 t309 x13_2).f1) a4).bind fun bt318 => (if t314 = bt318.1 then (if (t315 != bt318.2) = true then (some false) else (flagstonelaw13_BucketSubjects.l0 k2 a2 a3 a4 t309 (wrap64 (x13_2 + 1)) l1_0 t304)) else (some false))) = some r := H
                  have A28 := Aside0.mk A280; clear A280; replace H := Option.bind_eq_some_iff.mp H
                  obtain ⟨⟨t318, t319⟩, A290, H⟩ := H
                  replace H : (if t314 = t318 then (if (t315 != t319) = true then (some false) else (flagstonelaw13_BucketSubjects.l0 k2 a2 a3 a4 t309 (wrap64 (x13_2 + 1)) l1_0 t304)) else (some false)) = some r := H
                  have A29 := Aside0.mk A290; clear A290
                  by_cases c30 : t314 = t318
                  · rw [if_pos c30] at H
                    have c30b0 : (t314 == t318) = true := beq_iff_eq.mpr c30
                    have c30b1 : (t314 != t318) = false := bne_eq_false_iff_eq.mpr c30
                    clear c30
                    by_cases c31 : (t315 != t319) = true
                    · rw [if_pos c31] at H
                      have c31b0 : (t315 != t319) = true := c31
                      (try (have c31b1 : decide (t315 = t319) = false := by simpa using c31))
                      (try (have c31b2 : (t315 == t319) = false := by simpa using c31))
                      (try (have c31b3 : ¬ (t315 = t319) := by simpa using c31))
                      clear c31
                      obtain rfl := Option.some.inj H
                      obtain ⟨Ao32, co32, eo32⟩ := Kd.R_slice HO_12.out
                      subst eo32
                      try go_wp2
                      have n0_ := Aside0.mk (Kd.R_drew HO_12.out)
                      have n1_ := Aside0.mk (Kd.V_drew HO_300000.out)
                      have n2_ := Aside0.mk (Kd.V_drew HO_309000.out)
                      have n3_ := Aside0.mk (zD BK299.out)
                      have n4_ := Aside0.mk (zD BK308.out)
                      have n5_ := Aside0.mk (zC HB.out)
                      clear HO_12 HO_300000 HO_309000 BK299 BK308 HB; have HO_12 := n0_; have HO_300000 := n1_; have HO_309000 := n2_; have BK299 := n3_; have BK308 := n4_; have HB := n5_; clear n0_ n1_ n2_ n3_ n4_ n5_
                      have p312 : 0 ≤ (x13_2 : Int) := of_decide_eq_true (by first | (with_reducible assumption) | assumption)
                      have q312 : x13_2 < (t309.length : Int) := of_decide_eq_true (by first | (with_reducible assumption) | assumption)
                      (try (obtain ⟨AoX_, coX_, eoX_⟩ := Kd.R_slice HO_12.out; subst eoX_))
                      obtain ⟨ad312, e312, hx312_0, hx312_1, hx312_2⟩ := at_T65 (Kd.R_reads' HO_12.out).2.2 x13_2 p312 q312
                      cases e312
                      replace p312 := eq_true p312
                      replace q312 := eq_true q312
                      have p313 : 0 ≤ (x13_2 : Int) := of_decide_eq_true (by first | (with_reducible assumption) | assumption)
                      have q313 : x13_2 < (t309.length : Int) := of_decide_eq_true (by first | (with_reducible assumption) | assumption)
                      (try (obtain ⟨AoX_, coX_, eoX_⟩ := Kd.R_slice HO_12.out; subst eoX_))
                      obtain ⟨ad313, e313, hx313_0, hx313_1, hx313_2⟩ := at_T65 (Kd.R_reads' HO_12.out).2.2 x13_2 p313 q313
                      obtain rfl : ad312 = ad313 := (by injection e313)
                      replace p313 := eq_true p313
                      replace q313 := eq_true q313
                      refine start_ (n := 18) (S := fun w' => w'.cell? ⟨gb308, 0, none⟩ = some (.slice Ao21 t304.length co21) ∧ w'.cell? (ad312.add ((x13_2).toNat * 3)) = some (.string ((rd_T65 t309 x13_2).f0)) ∧ w'.cell? ⟨(ad312.add ((x13_2).toNat * 3)).block, (ad312.add ((x13_2).toNat * 3)).off + 1, none⟩ = some (.string ((rd_T65 t309 x13_2).f1)) ∧ w'.cell? ⟨(ad312.add ((x13_2).toNat * 3)).block, (ad312.add ((x13_2).toNat * 3)).off + 2, none⟩ = some (.int .i64 ((rd_T65 t309 x13_2).f2)) ∧ w'.cell? (ad312.add ((x13_2).toNat * 3)) = some (.string ((rd_T65 t309 x13_2).f0)) ∧ w'.cell? ⟨(ad312.add ((x13_2).toNat * 3)).block, (ad312.add ((x13_2).toNat * 3)).off + 1, none⟩ = some (.string ((rd_T65 t309 x13_2).f1)) ∧ w'.cell? ⟨(ad312.add ((x13_2).toNat * 3)).block, (ad312.add ((x13_2).toNat * 3)).off + 2, none⟩ = some (.int .i64 ((rd_T65 t309 x13_2).f2))) (ds := []) #[false, false, false, false, false, false, false, false, false, false, false, false, false, false, false, false, false, false] (by kernel_rfl) rfl rfl ⟨(blk_cell BK308.out 0).trans rfl, hx312_0, hx312_1, hx312_2, hx313_0, hx313_1, hx313_2⟩ (fun hHeld => ?_); refine with_tabW flagstonelaw13_BucketSubjects.tab10 flagstonelaw13_BucketSubjects.bits10 (fun HT_ HW_ => ?_)
                      generalize wr.drew = w33 at HO_12 HO_300000 HO_309000 BK299 BK308 HB hx312_0 hx312_1 hx312_2 hx313_0 hx313_1 hx313_2 hHeld ⊢
                      refine pure_ (i := 1) (N := some 51) (v := ?_) (a' := ?_) #[false, true, false, false, false, false, false, false, false, false, false, false, false, false, false, false, false, false] rfl rfl (any_of HT_.out (by kernel_rfl)) (fun _ _ _ h => h) (Or.inl ⟨by rfl, ?_⟩) ?_ ?_
                      rotate_left
                      · intro w'
                        go_simp
                        with_reducible rfl
                      rotate_left
                      · simp only [Act.put, List.setIfInBounds_toArray, List.set_cons_zero, List.set_cons_succ, i64_w, i32_w]
                        rfl
                      refine pure_ (i := 2) (N := some 52) (v := ?_) (a' := ?_) #[false, true, true, false, false, false, false, false, false, false, false, false, false, false, false, false, false, false] rfl rfl (any_of HT_.out (by kernel_rfl)) (fun _ _ _ h => h) (Or.inl ⟨by rfl, ?_⟩) ?_ ?_
                      rotate_left
                      · intro w'
                        go_simp
                        with_reducible rfl
                      rotate_left
                      · simp only [Act.put, List.setIfInBounds_toArray, List.set_cons_zero, List.set_cons_succ, i64_w, i32_w]
                        rfl
                      refine pure_ (i := 3) (N := some 53) (v := ?_) (a' := ?_) #[false, true, true, true, false, false, false, false, false, false, false, false, false, false, false, false, false, false] rfl rfl (any_of HT_.out (by kernel_rfl)) (fun _ _ _ h => h) (Or.inl ⟨by rfl, ?_⟩) ?_ ?_
                      rotate_left
                      · intro w'
                        go_simp
                        with_reducible rfl
                      rotate_left
                      · simp only [Act.put, List.setIfInBounds_toArray, List.set_cons_zero, List.set_cons_succ, i64_w, i32_w]
                        rfl
                      refine pure_ (i := 4) (N := some 54) (v := ?_) (a' := ?_) #[false, true, true, true, true, false, false, false, false, false, false, false, false, false, false, false, false, false] rfl rfl (any_of HT_.out (by kernel_rfl)) (fun _ _ _ h => h) (Or.inl ⟨by rfl, ?_⟩) ?_ ?_
                      rotate_left
                      · intro w'
                        go_simp
                        with_reducible rfl
                      rotate_left
                      · simp only [Act.put, List.setIfInBounds_toArray, List.set_cons_zero, List.set_cons_succ, i64_w, i32_w]
                        rfl
                      refine pure_ (i := 6) (N := some 56) (v := ?_) (a' := ?_) #[false, true, true, true, true, false, true, false, false, false, false, false, false, false, false, false, false, false] rfl rfl (any_of HT_.out (by kernel_rfl)) (fun _ _ _ h => h) (Or.inl ⟨by rfl, ?_⟩) ?_ ?_
                      rotate_left
                      · intro w'
                        go_simp
                        with_reducible rfl
                      rotate_left
                      · simp only [Act.put, List.setIfInBounds_toArray, List.set_cons_zero, List.set_cons_succ, i64_w, i32_w]
                        rfl
                      refine pure_ (i := 7) (N := some 57) (v := ?_) (a' := ?_) #[false, true, true, true, true, false, true, true, false, false, false, false, false, false, false, false, false, false] rfl rfl (any_of HT_.out (by kernel_rfl)) (fun _ _ _ h => h) (Or.inl ⟨by rfl, ?_⟩) ?_ ?_
                      rotate_left
                      · intro w'
                        go_simp
                        with_reducible rfl
                      rotate_left
                      · simp only [Act.put, List.setIfInBounds_toArray, List.set_cons_zero, List.set_cons_succ, i64_w, i32_w]
                        rfl
                      refine pure_ (i := 8) (N := some 58) (v := ?_) (a' := ?_) #[false, true, true, true, true, false, true, true, true, false, false, false, false, false, false, false, false, false] rfl rfl (any_of HT_.out (by kernel_rfl)) (fun _ _ _ h => h) (Or.inl ⟨by rfl, ?_⟩) ?_ ?_
                      rotate_left
                      · intro w'
                        go_simp
                        with_reducible rfl
                      rotate_left
                      · simp only [Act.put, List.setIfInBounds_toArray, List.set_cons_zero, List.set_cons_succ, i64_w, i32_w]
                        rfl
                      refine pure_ (i := 9) (N := some 59) (v := ?_) (a' := ?_) #[false, true, true, true, true, false, true, true, true, true, false, false, false, false, false, false, false, false] rfl rfl (any_of HT_.out (by kernel_rfl)) (fun _ _ _ h => h) (Or.inl ⟨by rfl, ?_⟩) ?_ ?_
                      rotate_left
                      · intro w'
                        go_simp
                        with_reducible rfl
                      rotate_left
                      · simp only [Act.put, List.setIfInBounds_toArray, List.set_cons_zero, List.set_cons_succ, i64_w, i32_w]
                        rfl
                      refine pure_ (i := 11) (N := some 61) (v := ?_) (a' := ?_) #[false, true, true, true, true, false, true, true, true, true, false, true, false, false, false, false, false, false] rfl rfl (any_of HT_.out (by kernel_rfl)) (fun _ _ _ h => h) (Or.inl ⟨by rfl, ?_⟩) ?_ ?_
                      rotate_left
                      · intro w'
                        go_simp
                        with_reducible rfl
                      rotate_left
                      · simp only [Act.put, List.setIfInBounds_toArray, List.set_cons_zero, List.set_cons_succ, i64_w, i32_w]
                        rfl
                      refine take_ (i := 0) (N := some 50) (v := ?_) (a' := ?_) #[true, true, true, true, true, false, true, true, true, true, false, true, false, false, false, false, false, false] rfl rfl (take_ofW HT_.out HW_.out (by kernel_rfl)) (fun _ _ _ h => h) (Or.inl ⟨by rfl, ?_⟩) hHeld ?_ ?_
                      rotate_left
                      · rintro w' ⟨s0, s1, s2, s3, s4, s5, s6⟩
                        go_simp
                        with_reducible rfl
                      rotate_left
                      · simp only [Act.put, List.setIfInBounds_toArray, List.set_cons_zero, List.set_cons_succ, i64_w, i32_w]
                        rfl
                      refine take_ (i := 5) (N := some 55) (v := ?_) (a' := ?_) #[true, true, true, true, true, true, true, true, true, true, false, true, false, false, false, false, false, false] rfl rfl (take_ofW HT_.out HW_.out (by kernel_rfl)) (fun _ _ _ h => h) (Or.inl ⟨by rfl, ?_⟩) hHeld ?_ ?_
                      rotate_left
                      · rintro w' ⟨s0, s1, s2, s3, s4, s5, s6⟩
                        go_simp
                        with_reducible rfl
                      rotate_left
                      · simp only [Act.put, List.setIfInBounds_toArray, List.set_cons_zero, List.set_cons_succ, i64_w, i32_w]
                        rfl
                      refine take_ (i := 10) (N := some 60) (v := ?_) (a' := ?_) #[true, true, true, true, true, true, true, true, true, true, true, true, false, false, false, false, false, false] rfl rfl (take_ofW HT_.out HW_.out (by kernel_rfl)) (fun _ _ _ h => h) (Or.inl ⟨by rfl, ?_⟩) hHeld ?_ ?_
                      rotate_left
                      · rintro w' ⟨s0, s1, s2, s3, s4, s5, s6⟩
                        go_simp
                        with_reducible rfl
                      rotate_left
                      · simp only [Act.put, List.setIfInBounds_toArray, List.set_cons_zero, List.set_cons_succ, i64_w, i32_w]
                        rfl
                      refine one_ (i := 12) (N := some 62) #[true, true, true, true, true, true, true, true, true, true, true, true, true, false, false, false, false, false] rfl rfl (one_of HT_.out (by kernel_rfl)) (by decide) (fun K hK => ?_)
                      refine goes_ Tryd.func34 (by kernel_rfl) rfl #[.agg #[.slice Ao21 t304.length co21], .string ((rd_T65 t309 x13_2).f0), .string ((rd_T65 t309 x13_2).f1), .string a4] (by rfl) rfl rfl (by (try simp only [List.map_toArray, List.map_cons, List.map_nil]); first | done | rfl | (simp only [List.length_drop, List.length_take]; rfl)) ?_
                      with_reducible refine (bucket_Subject.calls k2 _ _ t304 ((rd_T65 t309 x13_2).f0) ((rd_T65 t309 x13_2).f1) a4 t314 t315 _ ?side1 ?side2 ?side3 A28.out).mono ?_
                      (case side1 => repeat (first | exact (Kd.V_reads' HO_309000.out).2.2 | (with_reducible refine Kd.C_alloc ?_ _) | (with_reducible refine Kd.C_drewN ?_ _) | (with_reducible refine Kd.C_drew ?_)))
                      (case side2 => exact (Kd.V_reads' HO_309000.out).2.1)
                      (case side3 => exact GL.below HGL.out (by repeat (first | (with_reducible first|exact HB.out|apply zE|apply zB|apply zC | refine zJ ?_ GE299.out | refine zJ ?_ GE308.out) | exact HB.out)))
                      rintro e w34 ⟨rfl, hb⟩
                      have HS1_ := (hb.cell (World.block_lt_of_cell? _ _ (hHeld.2.1))).trans (hHeld.2.1)
                      have HS2_ := (hb.cell (World.block_lt_of_cell? _ _ (hHeld.2.2.1))).trans (hHeld.2.2.1)
                      have HS3_ := (hb.cell (World.block_lt_of_cell? _ _ (hHeld.2.2.2.1))).trans (hHeld.2.2.2.1)
                      have HS4_ := (hb.cell (World.block_lt_of_cell? _ _ (hHeld.2.2.2.2.1))).trans (hHeld.2.2.2.2.1)
                      have HS5_ := (hb.cell (World.block_lt_of_cell? _ _ (hHeld.2.2.2.2.2.1))).trans (hHeld.2.2.2.2.2.1)
                      have HS6_ := (hb.cell (World.block_lt_of_cell? _ _ (hHeld.2.2.2.2.2.2))).trans (hHeld.2.2.2.2.2.2)
                      refine ⟨_, rfl, ?_⟩
                      have n0_ := Aside0.mk (Kd.R_below (by (with_reducible repeat (first | apply Kd.R_alloc | apply Kd.R_drewN | apply Kd.R_drew)); exact HO_12.out) hb)
                      have n1_ := Aside0.mk (Kd.V_below (by (with_reducible repeat (first | apply Kd.V_alloc | apply Kd.V_drewN | apply Kd.V_drew)); exact HO_300000.out) hb)
                      have n2_ := Aside0.mk (Kd.V_below (by (with_reducible repeat (first | apply Kd.V_alloc | apply Kd.V_drewN | apply Kd.V_drew)); exact HO_309000.out) hb)
                      have n3_ := Aside0.mk (blk_below (g := gb299) (o := .cells #[.slice A1_0 l1_0.length c1_0] 58 (0, 0)) (by (with_reducible repeat (first|refine zN ?_ _|refine zD ?_|refine zA ?_ _)); exact BK299.out) hb)
                      have n4_ := Aside0.mk (blk_below (g := gb308) (o := .cells #[.slice Ao21 t304.length co21] 58 (0, 0)) (by (with_reducible repeat (first|refine zN ?_ _|refine zD ?_|refine zA ?_ _)); exact BK308.out) hb)
                      have n5_ := Aside0.mk (below_step (by repeat (first | (with_reducible first|exact HB.out|apply zE|apply zB|apply zC | refine zJ ?_ GE299.out | refine zJ ?_ GE308.out) | exact HB.out)) hb)
                      clear HO_12 HO_300000 HO_309000 BK299 BK308 HB; have HO_12 := n0_; have HO_300000 := n1_; have HO_309000 := n2_; have BK299 := n3_; have BK308 := n4_; have HB := n5_; clear n0_ n1_ n2_ n3_ n4_ n5_
                      (try clear hb)
                      (try clear hb2)
                      (try clear hk)
                      (try clear hi)
                      (try clear hge)
                      refine hK.out _ _ ⟨(blk_cell BK308.out 0).trans rfl, HS1_, HS2_, HS3_, HS4_, HS5_, HS6_⟩ (fun hHeld => ?_)
                      clear hK K
                      refine norm_ (a' := ?_) ?_ ?_
                      rotate_left
                      · show Act.put _ (some 62) _ = _
                        simp only [Act.put, List.setIfInBounds_toArray, List.set_cons_zero, List.set_cons_succ, i64_w, i32_w]
                        rfl
                      refine pure_ (i := 13) (N := some 49) (v := ?_) (a' := ?_) #[true, true, true, true, true, true, true, true, true, true, true, true, true, true, false, false, false, false] rfl rfl (any_of HT_.out (by kernel_rfl)) (fun _ _ _ h => h) (Or.inl ⟨by rfl, ?_⟩) ?_ ?_
                      rotate_left
                      · intro w'
                        go_simp
                        with_reducible rfl
                      rotate_left
                      · simp only [Act.put, List.setIfInBounds_toArray, List.set_cons_zero, List.set_cons_succ, i64_w, i32_w]
                        rfl
                      refine pure_ (i := 14) (N := some 63) (v := ?_) (a' := ?_) #[true, true, true, true, true, true, true, true, true, true, true, true, true, true, true, false, false, false] rfl rfl (any_of HT_.out (by kernel_rfl)) (fun _ _ _ h => h) (Or.inl ⟨by rfl, ?_⟩) ?_ ?_
                      rotate_left
                      · intro w'
                        go_simp
                        with_reducible rfl
                      rotate_left
                      · simp only [Act.put, List.setIfInBounds_toArray, List.set_cons_zero, List.set_cons_succ, i64_w, i32_w]
                        rfl
                      refine pure_ (i := 15) (N := some 64) (v := ?_) (a' := ?_) #[true, true, true, true, true, true, true, true, true, true, true, true, true, true, true, true, false, false] rfl rfl (any_of HT_.out (by kernel_rfl)) (fun _ _ _ h => h) (Or.inl ⟨by rfl, ?_⟩) ?_ ?_
                      rotate_left
                      · intro w'
                        go_simp
                        with_reducible rfl
                      rotate_left
                      · simp only [Act.put, List.setIfInBounds_toArray, List.set_cons_zero, List.set_cons_succ, i64_w, i32_w]
                        rfl
                      refine pure_ (i := 16) (N := some 14) (v := ?_) (a' := ?_) #[true, true, true, true, true, true, true, true, true, true, true, true, true, true, true, true, true, false] rfl rfl (any_of HT_.out (by kernel_rfl)) (fun _ _ _ h => h) (Or.inl ⟨by rfl, ?_⟩) ?_ ?_
                      rotate_left
                      · intro w'
                        go_simp
                        with_reducible rfl
                      rotate_left
                      · simp only [Act.put, List.setIfInBounds_toArray, List.set_cons_zero, List.set_cons_succ, i64_w, i32_w]
                        rfl
                      refine pure_ (i := 17) (N := some 15) (v := ?_) (a' := ?_) #[true, true, true, true, true, true, true, true, true, true, true, true, true, true, true, true, true, true] rfl rfl (any_of HT_.out (by kernel_rfl)) (fun _ _ _ h => h) (Or.inl ⟨by rfl, ?_⟩) ?_ ?_
                      rotate_left
                      · intro w'
                        go_simp
                        with_reducible rfl
                      rotate_left
                      · simp only [Act.put, List.setIfInBounds_toArray, List.set_cons_zero, List.set_cons_succ, i64_w, i32_w]
                        rfl
                      refine done_ (done_of HT_.out (by kernel_rfl)) ?_
                      try go_wp2
                      have n0_ := Aside0.mk (Kd.R_drew HO_12.out)
                      have n1_ := Aside0.mk (Kd.V_drew HO_300000.out)
                      have n2_ := Aside0.mk (Kd.V_drew HO_309000.out)
                      have n3_ := Aside0.mk (zD BK299.out)
                      have n4_ := Aside0.mk (zD BK308.out)
                      have n5_ := Aside0.mk (zC HB.out)
                      clear HO_12 HO_300000 HO_309000 BK299 BK308 HB; have HO_12 := n0_; have HO_300000 := n1_; have HO_309000 := n2_; have BK299 := n3_; have BK308 := n4_; have HB := n5_; clear n0_ n1_ n2_ n3_ n4_ n5_
                      have p316 : 0 ≤ (x13_2 : Int) := of_decide_eq_true (by first | (with_reducible assumption) | assumption)
                      have q316 : x13_2 < (t309.length : Int) := of_decide_eq_true (by first | (with_reducible assumption) | assumption)
                      (try (obtain ⟨AoX_, coX_, eoX_⟩ := Kd.R_slice HO_12.out; subst eoX_))
                      obtain ⟨ad316, e316, hx316_0, hx316_1, hx316_2⟩ := at_T65 (Kd.R_reads' HO_12.out).2.2 x13_2 p316 q316
                      obtain rfl : ad312 = ad316 := (by injection e316)
                      replace p316 := eq_true p316
                      replace q316 := eq_true q316
                      have p317 : 0 ≤ (x13_2 : Int) := of_decide_eq_true (by first | (with_reducible assumption) | assumption)
                      have q317 : x13_2 < (t309.length : Int) := of_decide_eq_true (by first | (with_reducible assumption) | assumption)
                      (try (obtain ⟨AoX_, coX_, eoX_⟩ := Kd.R_slice HO_12.out; subst eoX_))
                      obtain ⟨ad317, e317, hx317_0, hx317_1, hx317_2⟩ := at_T65 (Kd.R_reads' HO_12.out).2.2 x13_2 p317 q317
                      obtain rfl : ad312 = ad317 := (by injection e317)
                      replace p317 := eq_true p317
                      replace q317 := eq_true q317
                      refine start_ (n := 18) (S := fun w' => w'.cell? ⟨gb308, 0, none⟩ = some (.slice Ao21 t304.length co21) ∧ w'.cell? (ad312.add ((x13_2).toNat * 3)) = some (.string ((rd_T65 t309 x13_2).f0)) ∧ w'.cell? ⟨(ad312.add ((x13_2).toNat * 3)).block, (ad312.add ((x13_2).toNat * 3)).off + 1, none⟩ = some (.string ((rd_T65 t309 x13_2).f1)) ∧ w'.cell? ⟨(ad312.add ((x13_2).toNat * 3)).block, (ad312.add ((x13_2).toNat * 3)).off + 2, none⟩ = some (.int .i64 ((rd_T65 t309 x13_2).f2)) ∧ w'.cell? (ad312.add ((x13_2).toNat * 3)) = some (.string ((rd_T65 t309 x13_2).f0)) ∧ w'.cell? ⟨(ad312.add ((x13_2).toNat * 3)).block, (ad312.add ((x13_2).toNat * 3)).off + 1, none⟩ = some (.string ((rd_T65 t309 x13_2).f1)) ∧ w'.cell? ⟨(ad312.add ((x13_2).toNat * 3)).block, (ad312.add ((x13_2).toNat * 3)).off + 2, none⟩ = some (.int .i64 ((rd_T65 t309 x13_2).f2))) (ds := []) #[false, false, false, false, false, false, false, false, false, false, false, false, false, false, false, false, false, false] (by kernel_rfl) rfl rfl ⟨(blk_cell BK308.out 0).trans rfl, hx316_0, hx316_1, hx316_2, hx317_0, hx317_1, hx317_2⟩ (fun hHeld => ?_); refine with_tabW flagstonelaw13_BucketSubjects.tab11 flagstonelaw13_BucketSubjects.bits11 (fun HT_ HW_ => ?_)
                      generalize w34.drew = w35 at HO_12 HO_300000 HO_309000 BK299 BK308 HB hx316_0 hx316_1 hx316_2 hx317_0 hx317_1 hx317_2 hHeld ⊢
                      refine pure_ (i := 1) (N := some 67) (v := ?_) (a' := ?_) #[false, true, false, false, false, false, false, false, false, false, false, false, false, false, false, false, false, false] rfl rfl (any_of HT_.out (by kernel_rfl)) (fun _ _ _ h => h) (Or.inl ⟨by rfl, ?_⟩) ?_ ?_
                      rotate_left
                      · intro w'
                        go_simp
                        with_reducible rfl
                      rotate_left
                      · simp only [Act.put, List.setIfInBounds_toArray, List.set_cons_zero, List.set_cons_succ, i64_w, i32_w]
                        rfl
                      refine pure_ (i := 2) (N := some 68) (v := ?_) (a' := ?_) #[false, true, true, false, false, false, false, false, false, false, false, false, false, false, false, false, false, false] rfl rfl (any_of HT_.out (by kernel_rfl)) (fun _ _ _ h => h) (Or.inl ⟨by rfl, ?_⟩) ?_ ?_
                      rotate_left
                      · intro w'
                        go_simp
                        with_reducible rfl
                      rotate_left
                      · simp only [Act.put, List.setIfInBounds_toArray, List.set_cons_zero, List.set_cons_succ, i64_w, i32_w]
                        rfl
                      refine pure_ (i := 3) (N := some 69) (v := ?_) (a' := ?_) #[false, true, true, true, false, false, false, false, false, false, false, false, false, false, false, false, false, false] rfl rfl (any_of HT_.out (by kernel_rfl)) (fun _ _ _ h => h) (Or.inl ⟨by rfl, ?_⟩) ?_ ?_
                      rotate_left
                      · intro w'
                        go_simp
                        with_reducible rfl
                      rotate_left
                      · simp only [Act.put, List.setIfInBounds_toArray, List.set_cons_zero, List.set_cons_succ, i64_w, i32_w]
                        rfl
                      refine pure_ (i := 4) (N := some 70) (v := ?_) (a' := ?_) #[false, true, true, true, true, false, false, false, false, false, false, false, false, false, false, false, false, false] rfl rfl (any_of HT_.out (by kernel_rfl)) (fun _ _ _ h => h) (Or.inl ⟨by rfl, ?_⟩) ?_ ?_
                      rotate_left
                      · intro w'
                        go_simp
                        with_reducible rfl
                      rotate_left
                      · simp only [Act.put, List.setIfInBounds_toArray, List.set_cons_zero, List.set_cons_succ, i64_w, i32_w]
                        rfl
                      refine pure_ (i := 6) (N := some 72) (v := ?_) (a' := ?_) #[false, true, true, true, true, false, true, false, false, false, false, false, false, false, false, false, false, false] rfl rfl (any_of HT_.out (by kernel_rfl)) (fun _ _ _ h => h) (Or.inl ⟨by rfl, ?_⟩) ?_ ?_
                      rotate_left
                      · intro w'
                        go_simp
                        with_reducible rfl
                      rotate_left
                      · simp only [Act.put, List.setIfInBounds_toArray, List.set_cons_zero, List.set_cons_succ, i64_w, i32_w]
                        rfl
                      refine pure_ (i := 7) (N := some 73) (v := ?_) (a' := ?_) #[false, true, true, true, true, false, true, true, false, false, false, false, false, false, false, false, false, false] rfl rfl (any_of HT_.out (by kernel_rfl)) (fun _ _ _ h => h) (Or.inl ⟨by rfl, ?_⟩) ?_ ?_
                      rotate_left
                      · intro w'
                        go_simp
                        with_reducible rfl
                      rotate_left
                      · simp only [Act.put, List.setIfInBounds_toArray, List.set_cons_zero, List.set_cons_succ, i64_w, i32_w]
                        rfl
                      refine pure_ (i := 8) (N := some 74) (v := ?_) (a' := ?_) #[false, true, true, true, true, false, true, true, true, false, false, false, false, false, false, false, false, false] rfl rfl (any_of HT_.out (by kernel_rfl)) (fun _ _ _ h => h) (Or.inl ⟨by rfl, ?_⟩) ?_ ?_
                      rotate_left
                      · intro w'
                        go_simp
                        with_reducible rfl
                      rotate_left
                      · simp only [Act.put, List.setIfInBounds_toArray, List.set_cons_zero, List.set_cons_succ, i64_w, i32_w]
                        rfl
                      refine pure_ (i := 9) (N := some 75) (v := ?_) (a' := ?_) #[false, true, true, true, true, false, true, true, true, true, false, false, false, false, false, false, false, false] rfl rfl (any_of HT_.out (by kernel_rfl)) (fun _ _ _ h => h) (Or.inl ⟨by rfl, ?_⟩) ?_ ?_
                      rotate_left
                      · intro w'
                        go_simp
                        with_reducible rfl
                      rotate_left
                      · simp only [Act.put, List.setIfInBounds_toArray, List.set_cons_zero, List.set_cons_succ, i64_w, i32_w]
                        rfl
                      refine pure_ (i := 11) (N := some 77) (v := ?_) (a' := ?_) #[false, true, true, true, true, false, true, true, true, true, false, true, false, false, false, false, false, false] rfl rfl (any_of HT_.out (by kernel_rfl)) (fun _ _ _ h => h) (Or.inl ⟨by rfl, ?_⟩) ?_ ?_
                      rotate_left
                      · intro w'
                        go_simp
                        with_reducible rfl
                      rotate_left
                      · simp only [Act.put, List.setIfInBounds_toArray, List.set_cons_zero, List.set_cons_succ, i64_w, i32_w]
                        rfl
                      refine take_ (i := 0) (N := some 66) (v := ?_) (a' := ?_) #[true, true, true, true, true, false, true, true, true, true, false, true, false, false, false, false, false, false] rfl rfl (take_ofW HT_.out HW_.out (by kernel_rfl)) (fun _ _ _ h => h) (Or.inl ⟨by rfl, ?_⟩) hHeld ?_ ?_
                      rotate_left
                      · rintro w' ⟨s0, s1, s2, s3, s4, s5, s6⟩
                        go_simp
                        with_reducible rfl
                      rotate_left
                      · simp only [Act.put, List.setIfInBounds_toArray, List.set_cons_zero, List.set_cons_succ, i64_w, i32_w]
                        rfl
                      refine take_ (i := 5) (N := some 71) (v := ?_) (a' := ?_) #[true, true, true, true, true, true, true, true, true, true, false, true, false, false, false, false, false, false] rfl rfl (take_ofW HT_.out HW_.out (by kernel_rfl)) (fun _ _ _ h => h) (Or.inl ⟨by rfl, ?_⟩) hHeld ?_ ?_
                      rotate_left
                      · rintro w' ⟨s0, s1, s2, s3, s4, s5, s6⟩
                        go_simp
                        with_reducible rfl
                      rotate_left
                      · simp only [Act.put, List.setIfInBounds_toArray, List.set_cons_zero, List.set_cons_succ, i64_w, i32_w]
                        rfl
                      refine take_ (i := 10) (N := some 76) (v := ?_) (a' := ?_) #[true, true, true, true, true, true, true, true, true, true, true, true, false, false, false, false, false, false] rfl rfl (take_ofW HT_.out HW_.out (by kernel_rfl)) (fun _ _ _ h => h) (Or.inl ⟨by rfl, ?_⟩) hHeld ?_ ?_
                      rotate_left
                      · rintro w' ⟨s0, s1, s2, s3, s4, s5, s6⟩
                        go_simp
                        with_reducible rfl
                      rotate_left
                      · simp only [Act.put, List.setIfInBounds_toArray, List.set_cons_zero, List.set_cons_succ, i64_w, i32_w]
                        rfl
                      refine one_ (i := 12) (N := some 78) #[true, true, true, true, true, true, true, true, true, true, true, true, true, false, false, false, false, false] rfl rfl (one_of HT_.out (by kernel_rfl)) (by decide) (fun K hK => ?_)
                      refine goes_ Tryd.func35 (by kernel_rfl) rfl #[.agg #[.slice Ao21 t304.length co21], .string ((rd_T65 t309 x13_2).f0), .string ((rd_T65 t309 x13_2).f1), .string a4] (by rfl) rfl rfl (by (try simp only [List.map_toArray, List.map_cons, List.map_nil]); first | done | rfl | (simp only [List.length_drop, List.length_take]; rfl)) ?_
                      with_reducible refine (flagstoneref13_Subject.calls k2 _ _ t304 ((rd_T65 t309 x13_2).f0) ((rd_T65 t309 x13_2).f1) a4 t318 t319 _ ?side1 ?side2 A29.out).mono ?_
                      (case side1 => repeat (first | exact (Kd.V_reads' HO_309000.out).2.2 | (with_reducible refine Kd.C_alloc ?_ _) | (with_reducible refine Kd.C_drewN ?_ _) | (with_reducible refine Kd.C_drew ?_)))
                      (case side2 => exact (Kd.V_reads' HO_309000.out).2.1)
                      rintro e w36 ⟨rfl, hb⟩
                      have HS1_ := (hb.cell (World.block_lt_of_cell? _ _ (hHeld.2.1))).trans (hHeld.2.1)
                      have HS2_ := (hb.cell (World.block_lt_of_cell? _ _ (hHeld.2.2.1))).trans (hHeld.2.2.1)
                      have HS3_ := (hb.cell (World.block_lt_of_cell? _ _ (hHeld.2.2.2.1))).trans (hHeld.2.2.2.1)
                      have HS4_ := (hb.cell (World.block_lt_of_cell? _ _ (hHeld.2.2.2.2.1))).trans (hHeld.2.2.2.2.1)
                      have HS5_ := (hb.cell (World.block_lt_of_cell? _ _ (hHeld.2.2.2.2.2.1))).trans (hHeld.2.2.2.2.2.1)
                      have HS6_ := (hb.cell (World.block_lt_of_cell? _ _ (hHeld.2.2.2.2.2.2))).trans (hHeld.2.2.2.2.2.2)
                      refine ⟨_, rfl, ?_⟩
                      have n0_ := Aside0.mk (Kd.R_below (by (with_reducible repeat (first | apply Kd.R_alloc | apply Kd.R_drewN | apply Kd.R_drew)); exact HO_12.out) hb)
                      have n1_ := Aside0.mk (Kd.V_below (by (with_reducible repeat (first | apply Kd.V_alloc | apply Kd.V_drewN | apply Kd.V_drew)); exact HO_300000.out) hb)
                      have n2_ := Aside0.mk (Kd.V_below (by (with_reducible repeat (first | apply Kd.V_alloc | apply Kd.V_drewN | apply Kd.V_drew)); exact HO_309000.out) hb)
                      have n3_ := Aside0.mk (blk_below (g := gb299) (o := .cells #[.slice A1_0 l1_0.length c1_0] 58 (0, 0)) (by (with_reducible repeat (first|refine zN ?_ _|refine zD ?_|refine zA ?_ _)); exact BK299.out) hb)
                      have n4_ := Aside0.mk (blk_below (g := gb308) (o := .cells #[.slice Ao21 t304.length co21] 58 (0, 0)) (by (with_reducible repeat (first|refine zN ?_ _|refine zD ?_|refine zA ?_ _)); exact BK308.out) hb)
                      have n5_ := Aside0.mk (below_step (by repeat (first | (with_reducible first|exact HB.out|apply zE|apply zB|apply zC | refine zJ ?_ GE299.out | refine zJ ?_ GE308.out) | exact HB.out)) hb)
                      clear HO_12 HO_300000 HO_309000 BK299 BK308 HB; have HO_12 := n0_; have HO_300000 := n1_; have HO_309000 := n2_; have BK299 := n3_; have BK308 := n4_; have HB := n5_; clear n0_ n1_ n2_ n3_ n4_ n5_
                      (try clear hb)
                      (try clear hb2)
                      (try clear hk)
                      (try clear hi)
                      (try clear hge)
                      refine hK.out _ _ ⟨(blk_cell BK308.out 0).trans rfl, HS1_, HS2_, HS3_, HS4_, HS5_, HS6_⟩ (fun hHeld => ?_)
                      clear hK K
                      refine norm_ (a' := ?_) ?_ ?_
                      rotate_left
                      · show Act.put _ (some 78) _ = _
                        simp only [Act.put, List.setIfInBounds_toArray, List.set_cons_zero, List.set_cons_succ, i64_w, i32_w]
                        rfl
                      refine pure_ (i := 13) (N := some 65) (v := ?_) (a' := ?_) #[true, true, true, true, true, true, true, true, true, true, true, true, true, true, false, false, false, false] rfl rfl (any_of HT_.out (by kernel_rfl)) (fun _ _ _ h => h) (Or.inl ⟨by rfl, ?_⟩) ?_ ?_
                      rotate_left
                      · intro w'
                        go_simp
                        with_reducible rfl
                      rotate_left
                      · simp only [Act.put, List.setIfInBounds_toArray, List.set_cons_zero, List.set_cons_succ, i64_w, i32_w]
                        rfl
                      refine pure_ (i := 14) (N := some 79) (v := ?_) (a' := ?_) #[true, true, true, true, true, true, true, true, true, true, true, true, true, true, true, false, false, false] rfl rfl (any_of HT_.out (by kernel_rfl)) (fun _ _ _ h => h) (Or.inl ⟨by rfl, ?_⟩) ?_ ?_
                      rotate_left
                      · intro w'
                        go_simp
                        with_reducible rfl
                      rotate_left
                      · simp only [Act.put, List.setIfInBounds_toArray, List.set_cons_zero, List.set_cons_succ, i64_w, i32_w]
                        rfl
                      refine pure_ (i := 15) (N := some 80) (v := ?_) (a' := ?_) #[true, true, true, true, true, true, true, true, true, true, true, true, true, true, true, true, false, false] rfl rfl (any_of HT_.out (by kernel_rfl)) (fun _ _ _ h => h) (Or.inl ⟨by rfl, ?_⟩) ?_ ?_
                      rotate_left
                      · intro w'
                        go_simp
                        with_reducible rfl
                      rotate_left
                      · simp only [Act.put, List.setIfInBounds_toArray, List.set_cons_zero, List.set_cons_succ, i64_w, i32_w]
                        rfl
                      refine pure_ (i := 16) (N := some 16) (v := ?_) (a' := ?_) #[true, true, true, true, true, true, true, true, true, true, true, true, true, true, true, true, true, false] rfl rfl (any_of HT_.out (by kernel_rfl)) (fun _ _ _ h => h) (Or.inl ⟨by rfl, ?_⟩) ?_ ?_
                      rotate_left
                      · intro w'
                        go_simp
                        with_reducible rfl
                      rotate_left
                      · simp only [Act.put, List.setIfInBounds_toArray, List.set_cons_zero, List.set_cons_succ, i64_w, i32_w]
                        rfl
                      refine pure_ (i := 17) (N := some 17) (v := ?_) (a' := ?_) #[true, true, true, true, true, true, true, true, true, true, true, true, true, true, true, true, true, true] rfl rfl (any_of HT_.out (by kernel_rfl)) (fun _ _ _ h => h) (Or.inl ⟨by rfl, ?_⟩) ?_ ?_
                      rotate_left
                      · intro w'
                        go_simp
                        with_reducible rfl
                      rotate_left
                      · simp only [Act.put, List.setIfInBounds_toArray, List.set_cons_zero, List.set_cons_succ, i64_w, i32_w]
                        rfl
                      refine done_ (done_of HT_.out (by kernel_rfl)) ?_
                      try go_wp2
                      go_ret
                      exact ⟨by first | rfl | (simp [errW_none, errW_some] <;> rfl) | (simp [*, errW_none, errW_some] <;> rfl), by repeat (first | (with_reducible first|exact HB.out|apply zE|apply zB|apply zC | refine zJ ?_ GE299.out | refine zJ ?_ GE308.out) | exact HB.out)⟩
                    · rw [if_neg c31] at H
                      have c31b0 : (t315 != t319) = false := by simpa using c31
                      (try (have c31b1 : decide (t315 = t319) = true := by simpa using c31))
                      (try (have c31b2 : (t315 == t319) = true := by simpa using c31))
                      clear c31; have H' := Aside0.mk H; clear H
                      obtain ⟨Ao37, co37, eo37⟩ := Kd.R_slice HO_12.out
                      subst eo37
                      try go_wp2
                      have n0_ := Aside0.mk (Kd.R_drew HO_12.out)
                      have n1_ := Aside0.mk (Kd.V_drew HO_300000.out)
                      have n2_ := Aside0.mk (Kd.V_drew HO_309000.out)
                      have n3_ := Aside0.mk (zD BK299.out)
                      have n4_ := Aside0.mk (zD BK308.out)
                      have n5_ := Aside0.mk (zC HB.out)
                      clear HO_12 HO_300000 HO_309000 BK299 BK308 HB; have HO_12 := n0_; have HO_300000 := n1_; have HO_309000 := n2_; have BK299 := n3_; have BK308 := n4_; have HB := n5_; clear n0_ n1_ n2_ n3_ n4_ n5_
                      have p312 : 0 ≤ (x13_2 : Int) := of_decide_eq_true (by first | (with_reducible assumption) | assumption)
                      have q312 : x13_2 < (t309.length : Int) := of_decide_eq_true (by first | (with_reducible assumption) | assumption)
                      (try (obtain ⟨AoX_, coX_, eoX_⟩ := Kd.R_slice HO_12.out; subst eoX_))
                      obtain ⟨ad312, e312, hx312_0, hx312_1, hx312_2⟩ := at_T65 (Kd.R_reads' HO_12.out).2.2 x13_2 p312 q312
                      cases e312
                      replace p312 := eq_true p312
                      replace q312 := eq_true q312
                      have p313 : 0 ≤ (x13_2 : Int) := of_decide_eq_true (by first | (with_reducible assumption) | assumption)
                      have q313 : x13_2 < (t309.length : Int) := of_decide_eq_true (by first | (with_reducible assumption) | assumption)
                      (try (obtain ⟨AoX_, coX_, eoX_⟩ := Kd.R_slice HO_12.out; subst eoX_))
                      obtain ⟨ad313, e313, hx313_0, hx313_1, hx313_2⟩ := at_T65 (Kd.R_reads' HO_12.out).2.2 x13_2 p313 q313
                      obtain rfl : ad312 = ad313 := (by injection e313)
                      replace p313 := eq_true p313
                      replace q313 := eq_true q313
                      refine start_ (n := 18) (S := fun w' => w'.cell? ⟨gb308, 0, none⟩ = some (.slice Ao21 t304.length co21) ∧ w'.cell? (ad312.add ((x13_2).toNat * 3)) = some (.string ((rd_T65 t309 x13_2).f0)) ∧ w'.cell? ⟨(ad312.add ((x13_2).toNat * 3)).block, (ad312.add ((x13_2).toNat * 3)).off + 1, none⟩ = some (.string ((rd_T65 t309 x13_2).f1)) ∧ w'.cell? ⟨(ad312.add ((x13_2).toNat * 3)).block, (ad312.add ((x13_2).toNat * 3)).off + 2, none⟩ = some (.int .i64 ((rd_T65 t309 x13_2).f2)) ∧ w'.cell? (ad312.add ((x13_2).toNat * 3)) = some (.string ((rd_T65 t309 x13_2).f0)) ∧ w'.cell? ⟨(ad312.add ((x13_2).toNat * 3)).block, (ad312.add ((x13_2).toNat * 3)).off + 1, none⟩ = some (.string ((rd_T65 t309 x13_2).f1)) ∧ w'.cell? ⟨(ad312.add ((x13_2).toNat * 3)).block, (ad312.add ((x13_2).toNat * 3)).off + 2, none⟩ = some (.int .i64 ((rd_T65 t309 x13_2).f2))) (ds := []) #[false, false, false, false, false, false, false, false, false, false, false, false, false, false, false, false, false, false] (by kernel_rfl) rfl rfl ⟨(blk_cell BK308.out 0).trans rfl, hx312_0, hx312_1, hx312_2, hx313_0, hx313_1, hx313_2⟩ (fun hHeld => ?_); refine with_tabW flagstonelaw13_BucketSubjects.tab10 flagstonelaw13_BucketSubjects.bits10 (fun HT_ HW_ => ?_)
                      generalize wr.drew = w38 at HO_12 HO_300000 HO_309000 BK299 BK308 HB hx312_0 hx312_1 hx312_2 hx313_0 hx313_1 hx313_2 hHeld ⊢
                      refine pure_ (i := 1) (N := some 51) (v := ?_) (a' := ?_) #[false, true, false, false, false, false, false, false, false, false, false, false, false, false, false, false, false, false] rfl rfl (any_of HT_.out (by kernel_rfl)) (fun _ _ _ h => h) (Or.inl ⟨by rfl, ?_⟩) ?_ ?_
                      rotate_left
                      · intro w'
                        go_simp
                        with_reducible rfl
                      rotate_left
                      · simp only [Act.put, List.setIfInBounds_toArray, List.set_cons_zero, List.set_cons_succ, i64_w, i32_w]
                        rfl
                      refine pure_ (i := 2) (N := some 52) (v := ?_) (a' := ?_) #[false, true, true, false, false, false, false, false, false, false, false, false, false, false, false, false, false, false] rfl rfl (any_of HT_.out (by kernel_rfl)) (fun _ _ _ h => h) (Or.inl ⟨by rfl, ?_⟩) ?_ ?_
                      rotate_left
                      · intro w'
                        go_simp
                        with_reducible rfl
                      rotate_left
                      · simp only [Act.put, List.setIfInBounds_toArray, List.set_cons_zero, List.set_cons_succ, i64_w, i32_w]
                        rfl
                      refine pure_ (i := 3) (N := some 53) (v := ?_) (a' := ?_) #[false, true, true, true, false, false, false, false, false, false, false, false, false, false, false, false, false, false] rfl rfl (any_of HT_.out (by kernel_rfl)) (fun _ _ _ h => h) (Or.inl ⟨by rfl, ?_⟩) ?_ ?_
                      rotate_left
                      · intro w'
                        go_simp
                        with_reducible rfl
                      rotate_left
                      · simp only [Act.put, List.setIfInBounds_toArray, List.set_cons_zero, List.set_cons_succ, i64_w, i32_w]
                        rfl
                      refine pure_ (i := 4) (N := some 54) (v := ?_) (a' := ?_) #[false, true, true, true, true, false, false, false, false, false, false, false, false, false, false, false, false, false] rfl rfl (any_of HT_.out (by kernel_rfl)) (fun _ _ _ h => h) (Or.inl ⟨by rfl, ?_⟩) ?_ ?_
                      rotate_left
                      · intro w'
                        go_simp
                        with_reducible rfl
                      rotate_left
                      · simp only [Act.put, List.setIfInBounds_toArray, List.set_cons_zero, List.set_cons_succ, i64_w, i32_w]
                        rfl
                      refine pure_ (i := 6) (N := some 56) (v := ?_) (a' := ?_) #[false, true, true, true, true, false, true, false, false, false, false, false, false, false, false, false, false, false] rfl rfl (any_of HT_.out (by kernel_rfl)) (fun _ _ _ h => h) (Or.inl ⟨by rfl, ?_⟩) ?_ ?_
                      rotate_left
                      · intro w'
                        go_simp
                        with_reducible rfl
                      rotate_left
                      · simp only [Act.put, List.setIfInBounds_toArray, List.set_cons_zero, List.set_cons_succ, i64_w, i32_w]
                        rfl
                      refine pure_ (i := 7) (N := some 57) (v := ?_) (a' := ?_) #[false, true, true, true, true, false, true, true, false, false, false, false, false, false, false, false, false, false] rfl rfl (any_of HT_.out (by kernel_rfl)) (fun _ _ _ h => h) (Or.inl ⟨by rfl, ?_⟩) ?_ ?_
                      rotate_left
                      · intro w'
                        go_simp
                        with_reducible rfl
                      rotate_left
                      · simp only [Act.put, List.setIfInBounds_toArray, List.set_cons_zero, List.set_cons_succ, i64_w, i32_w]
                        rfl
                      refine pure_ (i := 8) (N := some 58) (v := ?_) (a' := ?_) #[false, true, true, true, true, false, true, true, true, false, false, false, false, false, false, false, false, false] rfl rfl (any_of HT_.out (by kernel_rfl)) (fun _ _ _ h => h) (Or.inl ⟨by rfl, ?_⟩) ?_ ?_
                      rotate_left
                      · intro w'
                        go_simp
                        with_reducible rfl
                      rotate_left
                      · simp only [Act.put, List.setIfInBounds_toArray, List.set_cons_zero, List.set_cons_succ, i64_w, i32_w]
                        rfl
                      refine pure_ (i := 9) (N := some 59) (v := ?_) (a' := ?_) #[false, true, true, true, true, false, true, true, true, true, false, false, false, false, false, false, false, false] rfl rfl (any_of HT_.out (by kernel_rfl)) (fun _ _ _ h => h) (Or.inl ⟨by rfl, ?_⟩) ?_ ?_
                      rotate_left
                      · intro w'
                        go_simp
                        with_reducible rfl
                      rotate_left
                      · simp only [Act.put, List.setIfInBounds_toArray, List.set_cons_zero, List.set_cons_succ, i64_w, i32_w]
                        rfl
                      refine pure_ (i := 11) (N := some 61) (v := ?_) (a' := ?_) #[false, true, true, true, true, false, true, true, true, true, false, true, false, false, false, false, false, false] rfl rfl (any_of HT_.out (by kernel_rfl)) (fun _ _ _ h => h) (Or.inl ⟨by rfl, ?_⟩) ?_ ?_
                      rotate_left
                      · intro w'
                        go_simp
                        with_reducible rfl
                      rotate_left
                      · simp only [Act.put, List.setIfInBounds_toArray, List.set_cons_zero, List.set_cons_succ, i64_w, i32_w]
                        rfl
                      refine take_ (i := 0) (N := some 50) (v := ?_) (a' := ?_) #[true, true, true, true, true, false, true, true, true, true, false, true, false, false, false, false, false, false] rfl rfl (take_ofW HT_.out HW_.out (by kernel_rfl)) (fun _ _ _ h => h) (Or.inl ⟨by rfl, ?_⟩) hHeld ?_ ?_
                      rotate_left
                      · rintro w' ⟨s0, s1, s2, s3, s4, s5, s6⟩
                        go_simp
                        with_reducible rfl
                      rotate_left
                      · simp only [Act.put, List.setIfInBounds_toArray, List.set_cons_zero, List.set_cons_succ, i64_w, i32_w]
                        rfl
                      refine take_ (i := 5) (N := some 55) (v := ?_) (a' := ?_) #[true, true, true, true, true, true, true, true, true, true, false, true, false, false, false, false, false, false] rfl rfl (take_ofW HT_.out HW_.out (by kernel_rfl)) (fun _ _ _ h => h) (Or.inl ⟨by rfl, ?_⟩) hHeld ?_ ?_
                      rotate_left
                      · rintro w' ⟨s0, s1, s2, s3, s4, s5, s6⟩
                        go_simp
                        with_reducible rfl
                      rotate_left
                      · simp only [Act.put, List.setIfInBounds_toArray, List.set_cons_zero, List.set_cons_succ, i64_w, i32_w]
                        rfl
                      refine take_ (i := 10) (N := some 60) (v := ?_) (a' := ?_) #[true, true, true, true, true, true, true, true, true, true, true, true, false, false, false, false, false, false] rfl rfl (take_ofW HT_.out HW_.out (by kernel_rfl)) (fun _ _ _ h => h) (Or.inl ⟨by rfl, ?_⟩) hHeld ?_ ?_
                      rotate_left
                      · rintro w' ⟨s0, s1, s2, s3, s4, s5, s6⟩
                        go_simp
                        with_reducible rfl
                      rotate_left
                      · simp only [Act.put, List.setIfInBounds_toArray, List.set_cons_zero, List.set_cons_succ, i64_w, i32_w]
                        rfl
                      refine one_ (i := 12) (N := some 62) #[true, true, true, true, true, true, true, true, true, true, true, true, true, false, false, false, false, false] rfl rfl (one_of HT_.out (by kernel_rfl)) (by decide) (fun K hK => ?_)
                      refine goes_ Tryd.func34 (by kernel_rfl) rfl #[.agg #[.slice Ao21 t304.length co21], .string ((rd_T65 t309 x13_2).f0), .string ((rd_T65 t309 x13_2).f1), .string a4] (by rfl) rfl rfl (by (try simp only [List.map_toArray, List.map_cons, List.map_nil]); first | done | rfl | (simp only [List.length_drop, List.length_take]; rfl)) ?_
                      with_reducible refine (bucket_Subject.calls k2 _ _ t304 ((rd_T65 t309 x13_2).f0) ((rd_T65 t309 x13_2).f1) a4 t314 t315 _ ?side1 ?side2 ?side3 A28.out).mono ?_
                      (case side1 => repeat (first | exact (Kd.V_reads' HO_309000.out).2.2 | (with_reducible refine Kd.C_alloc ?_ _) | (with_reducible refine Kd.C_drewN ?_ _) | (with_reducible refine Kd.C_drew ?_)))
                      (case side2 => exact (Kd.V_reads' HO_309000.out).2.1)
                      (case side3 => exact GL.below HGL.out (by repeat (first | (with_reducible first|exact HB.out|apply zE|apply zB|apply zC | refine zJ ?_ GE299.out | refine zJ ?_ GE308.out) | exact HB.out)))
                      rintro e w39 ⟨rfl, hb⟩
                      have HS1_ := (hb.cell (World.block_lt_of_cell? _ _ (hHeld.2.1))).trans (hHeld.2.1)
                      have HS2_ := (hb.cell (World.block_lt_of_cell? _ _ (hHeld.2.2.1))).trans (hHeld.2.2.1)
                      have HS3_ := (hb.cell (World.block_lt_of_cell? _ _ (hHeld.2.2.2.1))).trans (hHeld.2.2.2.1)
                      have HS4_ := (hb.cell (World.block_lt_of_cell? _ _ (hHeld.2.2.2.2.1))).trans (hHeld.2.2.2.2.1)
                      have HS5_ := (hb.cell (World.block_lt_of_cell? _ _ (hHeld.2.2.2.2.2.1))).trans (hHeld.2.2.2.2.2.1)
                      have HS6_ := (hb.cell (World.block_lt_of_cell? _ _ (hHeld.2.2.2.2.2.2))).trans (hHeld.2.2.2.2.2.2)
                      refine ⟨_, rfl, ?_⟩
                      have n0_ := Aside0.mk (Kd.R_below (by (with_reducible repeat (first | apply Kd.R_alloc | apply Kd.R_drewN | apply Kd.R_drew)); exact HO_12.out) hb)
                      have n1_ := Aside0.mk (Kd.V_below (by (with_reducible repeat (first | apply Kd.V_alloc | apply Kd.V_drewN | apply Kd.V_drew)); exact HO_300000.out) hb)
                      have n2_ := Aside0.mk (Kd.V_below (by (with_reducible repeat (first | apply Kd.V_alloc | apply Kd.V_drewN | apply Kd.V_drew)); exact HO_309000.out) hb)
                      have n3_ := Aside0.mk (blk_below (g := gb299) (o := .cells #[.slice A1_0 l1_0.length c1_0] 58 (0, 0)) (by (with_reducible repeat (first|refine zN ?_ _|refine zD ?_|refine zA ?_ _)); exact BK299.out) hb)
                      have n4_ := Aside0.mk (blk_below (g := gb308) (o := .cells #[.slice Ao21 t304.length co21] 58 (0, 0)) (by (with_reducible repeat (first|refine zN ?_ _|refine zD ?_|refine zA ?_ _)); exact BK308.out) hb)
                      have n5_ := Aside0.mk (below_step (by repeat (first | (with_reducible first|exact HB.out|apply zE|apply zB|apply zC | refine zJ ?_ GE299.out | refine zJ ?_ GE308.out) | exact HB.out)) hb)
                      clear HO_12 HO_300000 HO_309000 BK299 BK308 HB; have HO_12 := n0_; have HO_300000 := n1_; have HO_309000 := n2_; have BK299 := n3_; have BK308 := n4_; have HB := n5_; clear n0_ n1_ n2_ n3_ n4_ n5_
                      (try clear hb)
                      (try clear hb2)
                      (try clear hk)
                      (try clear hi)
                      (try clear hge)
                      refine hK.out _ _ ⟨(blk_cell BK308.out 0).trans rfl, HS1_, HS2_, HS3_, HS4_, HS5_, HS6_⟩ (fun hHeld => ?_)
                      clear hK K
                      refine norm_ (a' := ?_) ?_ ?_
                      rotate_left
                      · show Act.put _ (some 62) _ = _
                        simp only [Act.put, List.setIfInBounds_toArray, List.set_cons_zero, List.set_cons_succ, i64_w, i32_w]
                        rfl
                      refine pure_ (i := 13) (N := some 49) (v := ?_) (a' := ?_) #[true, true, true, true, true, true, true, true, true, true, true, true, true, true, false, false, false, false] rfl rfl (any_of HT_.out (by kernel_rfl)) (fun _ _ _ h => h) (Or.inl ⟨by rfl, ?_⟩) ?_ ?_
                      rotate_left
                      · intro w'
                        go_simp
                        with_reducible rfl
                      rotate_left
                      · simp only [Act.put, List.setIfInBounds_toArray, List.set_cons_zero, List.set_cons_succ, i64_w, i32_w]
                        rfl
                      refine pure_ (i := 14) (N := some 63) (v := ?_) (a' := ?_) #[true, true, true, true, true, true, true, true, true, true, true, true, true, true, true, false, false, false] rfl rfl (any_of HT_.out (by kernel_rfl)) (fun _ _ _ h => h) (Or.inl ⟨by rfl, ?_⟩) ?_ ?_
                      rotate_left
                      · intro w'
                        go_simp
                        with_reducible rfl
                      rotate_left
                      · simp only [Act.put, List.setIfInBounds_toArray, List.set_cons_zero, List.set_cons_succ, i64_w, i32_w]
                        rfl
                      refine pure_ (i := 15) (N := some 64) (v := ?_) (a' := ?_) #[true, true, true, true, true, true, true, true, true, true, true, true, true, true, true, true, false, false] rfl rfl (any_of HT_.out (by kernel_rfl)) (fun _ _ _ h => h) (Or.inl ⟨by rfl, ?_⟩) ?_ ?_
                      rotate_left
                      · intro w'
                        go_simp
                        with_reducible rfl
                      rotate_left
                      · simp only [Act.put, List.setIfInBounds_toArray, List.set_cons_zero, List.set_cons_succ, i64_w, i32_w]
                        rfl
                      refine pure_ (i := 16) (N := some 14) (v := ?_) (a' := ?_) #[true, true, true, true, true, true, true, true, true, true, true, true, true, true, true, true, true, false] rfl rfl (any_of HT_.out (by kernel_rfl)) (fun _ _ _ h => h) (Or.inl ⟨by rfl, ?_⟩) ?_ ?_
                      rotate_left
                      · intro w'
                        go_simp
                        with_reducible rfl
                      rotate_left
                      · simp only [Act.put, List.setIfInBounds_toArray, List.set_cons_zero, List.set_cons_succ, i64_w, i32_w]
                        rfl
                      refine pure_ (i := 17) (N := some 15) (v := ?_) (a' := ?_) #[true, true, true, true, true, true, true, true, true, true, true, true, true, true, true, true, true, true] rfl rfl (any_of HT_.out (by kernel_rfl)) (fun _ _ _ h => h) (Or.inl ⟨by rfl, ?_⟩) ?_ ?_
                      rotate_left
                      · intro w'
                        go_simp
                        with_reducible rfl
                      rotate_left
                      · simp only [Act.put, List.setIfInBounds_toArray, List.set_cons_zero, List.set_cons_succ, i64_w, i32_w]
                        rfl
                      refine done_ (done_of HT_.out (by kernel_rfl)) ?_
                      try go_wp2
                      have n0_ := Aside0.mk (Kd.R_drew HO_12.out)
                      have n1_ := Aside0.mk (Kd.V_drew HO_300000.out)
                      have n2_ := Aside0.mk (Kd.V_drew HO_309000.out)
                      have n3_ := Aside0.mk (zD BK299.out)
                      have n4_ := Aside0.mk (zD BK308.out)
                      have n5_ := Aside0.mk (zC HB.out)
                      clear HO_12 HO_300000 HO_309000 BK299 BK308 HB; have HO_12 := n0_; have HO_300000 := n1_; have HO_309000 := n2_; have BK299 := n3_; have BK308 := n4_; have HB := n5_; clear n0_ n1_ n2_ n3_ n4_ n5_
                      have p316 : 0 ≤ (x13_2 : Int) := of_decide_eq_true (by first | (with_reducible assumption) | assumption)
                      have q316 : x13_2 < (t309.length : Int) := of_decide_eq_true (by first | (with_reducible assumption) | assumption)
                      (try (obtain ⟨AoX_, coX_, eoX_⟩ := Kd.R_slice HO_12.out; subst eoX_))
                      obtain ⟨ad316, e316, hx316_0, hx316_1, hx316_2⟩ := at_T65 (Kd.R_reads' HO_12.out).2.2 x13_2 p316 q316
                      obtain rfl : ad312 = ad316 := (by injection e316)
                      replace p316 := eq_true p316
                      replace q316 := eq_true q316
                      have p317 : 0 ≤ (x13_2 : Int) := of_decide_eq_true (by first | (with_reducible assumption) | assumption)
                      have q317 : x13_2 < (t309.length : Int) := of_decide_eq_true (by first | (with_reducible assumption) | assumption)
                      (try (obtain ⟨AoX_, coX_, eoX_⟩ := Kd.R_slice HO_12.out; subst eoX_))
                      obtain ⟨ad317, e317, hx317_0, hx317_1, hx317_2⟩ := at_T65 (Kd.R_reads' HO_12.out).2.2 x13_2 p317 q317
                      obtain rfl : ad312 = ad317 := (by injection e317)
                      replace p317 := eq_true p317
                      replace q317 := eq_true q317
                      refine start_ (n := 18) (S := fun w' => w'.cell? ⟨gb308, 0, none⟩ = some (.slice Ao21 t304.length co21) ∧ w'.cell? (ad312.add ((x13_2).toNat * 3)) = some (.string ((rd_T65 t309 x13_2).f0)) ∧ w'.cell? ⟨(ad312.add ((x13_2).toNat * 3)).block, (ad312.add ((x13_2).toNat * 3)).off + 1, none⟩ = some (.string ((rd_T65 t309 x13_2).f1)) ∧ w'.cell? ⟨(ad312.add ((x13_2).toNat * 3)).block, (ad312.add ((x13_2).toNat * 3)).off + 2, none⟩ = some (.int .i64 ((rd_T65 t309 x13_2).f2)) ∧ w'.cell? (ad312.add ((x13_2).toNat * 3)) = some (.string ((rd_T65 t309 x13_2).f0)) ∧ w'.cell? ⟨(ad312.add ((x13_2).toNat * 3)).block, (ad312.add ((x13_2).toNat * 3)).off + 1, none⟩ = some (.string ((rd_T65 t309 x13_2).f1)) ∧ w'.cell? ⟨(ad312.add ((x13_2).toNat * 3)).block, (ad312.add ((x13_2).toNat * 3)).off + 2, none⟩ = some (.int .i64 ((rd_T65 t309 x13_2).f2))) (ds := []) #[false, false, false, false, false, false, false, false, false, false, false, false, false, false, false, false, false, false] (by kernel_rfl) rfl rfl ⟨(blk_cell BK308.out 0).trans rfl, hx316_0, hx316_1, hx316_2, hx317_0, hx317_1, hx317_2⟩ (fun hHeld => ?_); refine with_tabW flagstonelaw13_BucketSubjects.tab11 flagstonelaw13_BucketSubjects.bits11 (fun HT_ HW_ => ?_)
                      generalize w39.drew = w40 at HO_12 HO_300000 HO_309000 BK299 BK308 HB hx316_0 hx316_1 hx316_2 hx317_0 hx317_1 hx317_2 hHeld ⊢
                      refine pure_ (i := 1) (N := some 67) (v := ?_) (a' := ?_) #[false, true, false, false, false, false, false, false, false, false, false, false, false, false, false, false, false, false] rfl rfl (any_of HT_.out (by kernel_rfl)) (fun _ _ _ h => h) (Or.inl ⟨by rfl, ?_⟩) ?_ ?_
                      rotate_left
                      · intro w'
                        go_simp
                        with_reducible rfl
                      rotate_left
                      · simp only [Act.put, List.setIfInBounds_toArray, List.set_cons_zero, List.set_cons_succ, i64_w, i32_w]
                        rfl
                      refine pure_ (i := 2) (N := some 68) (v := ?_) (a' := ?_) #[false, true, true, false, false, false, false, false, false, false, false, false, false, false, false, false, false, false] rfl rfl (any_of HT_.out (by kernel_rfl)) (fun _ _ _ h => h) (Or.inl ⟨by rfl, ?_⟩) ?_ ?_
                      rotate_left
                      · intro w'
                        go_simp
                        with_reducible rfl
                      rotate_left
                      · simp only [Act.put, List.setIfInBounds_toArray, List.set_cons_zero, List.set_cons_succ, i64_w, i32_w]
                        rfl
                      refine pure_ (i := 3) (N := some 69) (v := ?_) (a' := ?_) #[false, true, true, true, false, false, false, false, false, false, false, false, false, false, false, false, false, false] rfl rfl (any_of HT_.out (by kernel_rfl)) (fun _ _ _ h => h) (Or.inl ⟨by rfl, ?_⟩) ?_ ?_
                      rotate_left
                      · intro w'
                        go_simp
                        with_reducible rfl
                      rotate_left
                      · simp only [Act.put, List.setIfInBounds_toArray, List.set_cons_zero, List.set_cons_succ, i64_w, i32_w]
                        rfl
                      refine pure_ (i := 4) (N := some 70) (v := ?_) (a' := ?_) #[false, true, true, true, true, false, false, false, false, false, false, false, false, false, false, false, false, false] rfl rfl (any_of HT_.out (by kernel_rfl)) (fun _ _ _ h => h) (Or.inl ⟨by rfl, ?_⟩) ?_ ?_
                      rotate_left
                      · intro w'
                        go_simp
                        with_reducible rfl
                      rotate_left
                      · simp only [Act.put, List.setIfInBounds_toArray, List.set_cons_zero, List.set_cons_succ, i64_w, i32_w]
                        rfl
                      refine pure_ (i := 6) (N := some 72) (v := ?_) (a' := ?_) #[false, true, true, true, true, false, true, false, false, false, false, false, false, false, false, false, false, false] rfl rfl (any_of HT_.out (by kernel_rfl)) (fun _ _ _ h => h) (Or.inl ⟨by rfl, ?_⟩) ?_ ?_
                      rotate_left
                      · intro w'
                        go_simp
                        with_reducible rfl
                      rotate_left
                      · simp only [Act.put, List.setIfInBounds_toArray, List.set_cons_zero, List.set_cons_succ, i64_w, i32_w]
                        rfl
                      refine pure_ (i := 7) (N := some 73) (v := ?_) (a' := ?_) #[false, true, true, true, true, false, true, true, false, false, false, false, false, false, false, false, false, false] rfl rfl (any_of HT_.out (by kernel_rfl)) (fun _ _ _ h => h) (Or.inl ⟨by rfl, ?_⟩) ?_ ?_
                      rotate_left
                      · intro w'
                        go_simp
                        with_reducible rfl
                      rotate_left
                      · simp only [Act.put, List.setIfInBounds_toArray, List.set_cons_zero, List.set_cons_succ, i64_w, i32_w]
                        rfl
                      refine pure_ (i := 8) (N := some 74) (v := ?_) (a' := ?_) #[false, true, true, true, true, false, true, true, true, false, false, false, false, false, false, false, false, false] rfl rfl (any_of HT_.out (by kernel_rfl)) (fun _ _ _ h => h) (Or.inl ⟨by rfl, ?_⟩) ?_ ?_
                      rotate_left
                      · intro w'
                        go_simp
                        with_reducible rfl
                      rotate_left
                      · simp only [Act.put, List.setIfInBounds_toArray, List.set_cons_zero, List.set_cons_succ, i64_w, i32_w]
                        rfl
                      refine pure_ (i := 9) (N := some 75) (v := ?_) (a' := ?_) #[false, true, true, true, true, false, true, true, true, true, false, false, false, false, false, false, false, false] rfl rfl (any_of HT_.out (by kernel_rfl)) (fun _ _ _ h => h) (Or.inl ⟨by rfl, ?_⟩) ?_ ?_
                      rotate_left
                      · intro w'
                        go_simp
                        with_reducible rfl
                      rotate_left
                      · simp only [Act.put, List.setIfInBounds_toArray, List.set_cons_zero, List.set_cons_succ, i64_w, i32_w]
                        rfl
                      refine pure_ (i := 11) (N := some 77) (v := ?_) (a' := ?_) #[false, true, true, true, true, false, true, true, true, true, false, true, false, false, false, false, false, false] rfl rfl (any_of HT_.out (by kernel_rfl)) (fun _ _ _ h => h) (Or.inl ⟨by rfl, ?_⟩) ?_ ?_
                      rotate_left
                      · intro w'
                        go_simp
                        with_reducible rfl
                      rotate_left
                      · simp only [Act.put, List.setIfInBounds_toArray, List.set_cons_zero, List.set_cons_succ, i64_w, i32_w]
                        rfl
                      refine take_ (i := 0) (N := some 66) (v := ?_) (a' := ?_) #[true, true, true, true, true, false, true, true, true, true, false, true, false, false, false, false, false, false] rfl rfl (take_ofW HT_.out HW_.out (by kernel_rfl)) (fun _ _ _ h => h) (Or.inl ⟨by rfl, ?_⟩) hHeld ?_ ?_
                      rotate_left
                      · rintro w' ⟨s0, s1, s2, s3, s4, s5, s6⟩
                        go_simp
                        with_reducible rfl
                      rotate_left
                      · simp only [Act.put, List.setIfInBounds_toArray, List.set_cons_zero, List.set_cons_succ, i64_w, i32_w]
                        rfl
                      refine take_ (i := 5) (N := some 71) (v := ?_) (a' := ?_) #[true, true, true, true, true, true, true, true, true, true, false, true, false, false, false, false, false, false] rfl rfl (take_ofW HT_.out HW_.out (by kernel_rfl)) (fun _ _ _ h => h) (Or.inl ⟨by rfl, ?_⟩) hHeld ?_ ?_
                      rotate_left
                      · rintro w' ⟨s0, s1, s2, s3, s4, s5, s6⟩
                        go_simp
                        with_reducible rfl
                      rotate_left
                      · simp only [Act.put, List.setIfInBounds_toArray, List.set_cons_zero, List.set_cons_succ, i64_w, i32_w]
                        rfl
                      refine take_ (i := 10) (N := some 76) (v := ?_) (a' := ?_) #[true, true, true, true, true, true, true, true, true, true, true, true, false, false, false, false, false, false] rfl rfl (take_ofW HT_.out HW_.out (by kernel_rfl)) (fun _ _ _ h => h) (Or.inl ⟨by rfl, ?_⟩) hHeld ?_ ?_
                      rotate_left
                      · rintro w' ⟨s0, s1, s2, s3, s4, s5, s6⟩
                        go_simp
                        with_reducible rfl
                      rotate_left
                      · simp only [Act.put, List.setIfInBounds_toArray, List.set_cons_zero, List.set_cons_succ, i64_w, i32_w]
                        rfl
                      refine one_ (i := 12) (N := some 78) #[true, true, true, true, true, true, true, true, true, true, true, true, true, false, false, false, false, false] rfl rfl (one_of HT_.out (by kernel_rfl)) (by decide) (fun K hK => ?_)
                      refine goes_ Tryd.func35 (by kernel_rfl) rfl #[.agg #[.slice Ao21 t304.length co21], .string ((rd_T65 t309 x13_2).f0), .string ((rd_T65 t309 x13_2).f1), .string a4] (by rfl) rfl rfl (by (try simp only [List.map_toArray, List.map_cons, List.map_nil]); first | done | rfl | (simp only [List.length_drop, List.length_take]; rfl)) ?_
                      with_reducible refine (flagstoneref13_Subject.calls k2 _ _ t304 ((rd_T65 t309 x13_2).f0) ((rd_T65 t309 x13_2).f1) a4 t318 t319 _ ?side1 ?side2 A29.out).mono ?_
                      (case side1 => repeat (first | exact (Kd.V_reads' HO_309000.out).2.2 | (with_reducible refine Kd.C_alloc ?_ _) | (with_reducible refine Kd.C_drewN ?_ _) | (with_reducible refine Kd.C_drew ?_)))
                      (case side2 => exact (Kd.V_reads' HO_309000.out).2.1)
                      rintro e w41 ⟨rfl, hb⟩
                      have HS1_ := (hb.cell (World.block_lt_of_cell? _ _ (hHeld.2.1))).trans (hHeld.2.1)
                      have HS2_ := (hb.cell (World.block_lt_of_cell? _ _ (hHeld.2.2.1))).trans (hHeld.2.2.1)
                      have HS3_ := (hb.cell (World.block_lt_of_cell? _ _ (hHeld.2.2.2.1))).trans (hHeld.2.2.2.1)
                      have HS4_ := (hb.cell (World.block_lt_of_cell? _ _ (hHeld.2.2.2.2.1))).trans (hHeld.2.2.2.2.1)
                      have HS5_ := (hb.cell (World.block_lt_of_cell? _ _ (hHeld.2.2.2.2.2.1))).trans (hHeld.2.2.2.2.2.1)
                      have HS6_ := (hb.cell (World.block_lt_of_cell? _ _ (hHeld.2.2.2.2.2.2))).trans (hHeld.2.2.2.2.2.2)
                      refine ⟨_, rfl, ?_⟩
                      have n0_ := Aside0.mk (Kd.R_below (by (with_reducible repeat (first | apply Kd.R_alloc | apply Kd.R_drewN | apply Kd.R_drew)); exact HO_12.out) hb)
                      have n1_ := Aside0.mk (Kd.V_below (by (with_reducible repeat (first | apply Kd.V_alloc | apply Kd.V_drewN | apply Kd.V_drew)); exact HO_300000.out) hb)
                      have n2_ := Aside0.mk (Kd.V_below (by (with_reducible repeat (first | apply Kd.V_alloc | apply Kd.V_drewN | apply Kd.V_drew)); exact HO_309000.out) hb)
                      have n3_ := Aside0.mk (blk_below (g := gb299) (o := .cells #[.slice A1_0 l1_0.length c1_0] 58 (0, 0)) (by (with_reducible repeat (first|refine zN ?_ _|refine zD ?_|refine zA ?_ _)); exact BK299.out) hb)
                      have n4_ := Aside0.mk (blk_below (g := gb308) (o := .cells #[.slice Ao21 t304.length co21] 58 (0, 0)) (by (with_reducible repeat (first|refine zN ?_ _|refine zD ?_|refine zA ?_ _)); exact BK308.out) hb)
                      have n5_ := Aside0.mk (below_step (by repeat (first | (with_reducible first|exact HB.out|apply zE|apply zB|apply zC | refine zJ ?_ GE299.out | refine zJ ?_ GE308.out) | exact HB.out)) hb)
                      clear HO_12 HO_300000 HO_309000 BK299 BK308 HB; have HO_12 := n0_; have HO_300000 := n1_; have HO_309000 := n2_; have BK299 := n3_; have BK308 := n4_; have HB := n5_; clear n0_ n1_ n2_ n3_ n4_ n5_
                      (try clear hb)
                      (try clear hb2)
                      (try clear hk)
                      (try clear hi)
                      (try clear hge)
                      refine hK.out _ _ ⟨(blk_cell BK308.out 0).trans rfl, HS1_, HS2_, HS3_, HS4_, HS5_, HS6_⟩ (fun hHeld => ?_)
                      clear hK K
                      refine norm_ (a' := ?_) ?_ ?_
                      rotate_left
                      · show Act.put _ (some 78) _ = _
                        simp only [Act.put, List.setIfInBounds_toArray, List.set_cons_zero, List.set_cons_succ, i64_w, i32_w]
                        rfl
                      refine pure_ (i := 13) (N := some 65) (v := ?_) (a' := ?_) #[true, true, true, true, true, true, true, true, true, true, true, true, true, true, false, false, false, false] rfl rfl (any_of HT_.out (by kernel_rfl)) (fun _ _ _ h => h) (Or.inl ⟨by rfl, ?_⟩) ?_ ?_
                      rotate_left
                      · intro w'
                        go_simp
                        with_reducible rfl
                      rotate_left
                      · simp only [Act.put, List.setIfInBounds_toArray, List.set_cons_zero, List.set_cons_succ, i64_w, i32_w]
                        rfl
                      refine pure_ (i := 14) (N := some 79) (v := ?_) (a' := ?_) #[true, true, true, true, true, true, true, true, true, true, true, true, true, true, true, false, false, false] rfl rfl (any_of HT_.out (by kernel_rfl)) (fun _ _ _ h => h) (Or.inl ⟨by rfl, ?_⟩) ?_ ?_
                      rotate_left
                      · intro w'
                        go_simp
                        with_reducible rfl
                      rotate_left
                      · simp only [Act.put, List.setIfInBounds_toArray, List.set_cons_zero, List.set_cons_succ, i64_w, i32_w]
                        rfl
                      refine pure_ (i := 15) (N := some 80) (v := ?_) (a' := ?_) #[true, true, true, true, true, true, true, true, true, true, true, true, true, true, true, true, false, false] rfl rfl (any_of HT_.out (by kernel_rfl)) (fun _ _ _ h => h) (Or.inl ⟨by rfl, ?_⟩) ?_ ?_
                      rotate_left
                      · intro w'
                        go_simp
                        with_reducible rfl
                      rotate_left
                      · simp only [Act.put, List.setIfInBounds_toArray, List.set_cons_zero, List.set_cons_succ, i64_w, i32_w]
                        rfl
                      refine pure_ (i := 16) (N := some 16) (v := ?_) (a' := ?_) #[true, true, true, true, true, true, true, true, true, true, true, true, true, true, true, true, true, false] rfl rfl (any_of HT_.out (by kernel_rfl)) (fun _ _ _ h => h) (Or.inl ⟨by rfl, ?_⟩) ?_ ?_
                      rotate_left
                      · intro w'
                        go_simp
                        with_reducible rfl
                      rotate_left
                      · simp only [Act.put, List.setIfInBounds_toArray, List.set_cons_zero, List.set_cons_succ, i64_w, i32_w]
                        rfl
                      refine pure_ (i := 17) (N := some 17) (v := ?_) (a' := ?_) #[true, true, true, true, true, true, true, true, true, true, true, true, true, true, true, true, true, true] rfl rfl (any_of HT_.out (by kernel_rfl)) (fun _ _ _ h => h) (Or.inl ⟨by rfl, ?_⟩) ?_ ?_
                      rotate_left
                      · intro w'
                        go_simp
                        with_reducible rfl
                      rotate_left
                      · simp only [Act.put, List.setIfInBounds_toArray, List.set_cons_zero, List.set_cons_succ, i64_w, i32_w]
                        rfl
                      refine done_ (done_of HT_.out (by kernel_rfl)) ?_
                      try go_wp2
                      go_roundg k2
                      case measure => have := HJ7.out; have := HK2.out; omega
                      case rel => exact ⟨(wrap64 (x13_2 + 1)), (by first | rfl | (simp; done) | (simp [*]; done)), H', ⟨by have := HJ7.out; have := HK2.out; omega⟩, ⟨by (with_reducible repeat (first | apply Kd.R_alloc | apply Kd.R_drewN | apply Kd.R_drew)); exact HO_12.out⟩, ⟨by (with_reducible repeat (first | apply Kd.V_alloc | apply Kd.V_drewN | apply Kd.V_drew)); exact HO_300000.out⟩, ⟨by (with_reducible repeat (first | apply Kd.V_alloc | apply Kd.V_drewN | apply Kd.V_drew)); exact HO_309000.out⟩, ⟨by (with_reducible repeat (first|refine zN ?_ _|refine zD ?_|refine zA ?_ _)); exact BK299.out⟩, ⟨by (with_reducible repeat (first|refine zN ?_ _|refine zD ?_|refine zA ?_ _)); exact BK308.out⟩, ⟨by repeat (first | (with_reducible first|exact HB.out|apply zE|apply zB|apply zC | refine zJ ?_ GE299.out | refine zJ ?_ GE308.out) | exact HB.out)⟩⟩
                  · rw [if_neg c30] at H
                    have c30b0 : (t314 == t318) = false := beq_eq_false_iff_ne.mpr c30
                    have c30b1 : (t314 != t318) = true := bne_iff_ne.mpr c30
                    obtain rfl := Option.some.inj H
                    obtain ⟨Ao42, co42, eo42⟩ := Kd.R_slice HO_12.out
                    subst eo42
                    try go_wp2
                    have n0_ := Aside0.mk (Kd.R_drew HO_12.out)
                    have n1_ := Aside0.mk (Kd.V_drew HO_300000.out)
                    have n2_ := Aside0.mk (Kd.V_drew HO_309000.out)
                    have n3_ := Aside0.mk (zD BK299.out)
                    have n4_ := Aside0.mk (zD BK308.out)
                    have n5_ := Aside0.mk (zC HB.out)
                    clear HO_12 HO_300000 HO_309000 BK299 BK308 HB; have HO_12 := n0_; have HO_300000 := n1_; have HO_309000 := n2_; have BK299 := n3_; have BK308 := n4_; have HB := n5_; clear n0_ n1_ n2_ n3_ n4_ n5_
                    have p312 : 0 ≤ (x13_2 : Int) := of_decide_eq_true (by first | (with_reducible assumption) | assumption)
                    have q312 : x13_2 < (t309.length : Int) := of_decide_eq_true (by first | (with_reducible assumption) | assumption)
                    (try (obtain ⟨AoX_, coX_, eoX_⟩ := Kd.R_slice HO_12.out; subst eoX_))
                    obtain ⟨ad312, e312, hx312_0, hx312_1, hx312_2⟩ := at_T65 (Kd.R_reads' HO_12.out).2.2 x13_2 p312 q312
                    cases e312
                    replace p312 := eq_true p312
                    replace q312 := eq_true q312
                    have p313 : 0 ≤ (x13_2 : Int) := of_decide_eq_true (by first | (with_reducible assumption) | assumption)
                    have q313 : x13_2 < (t309.length : Int) := of_decide_eq_true (by first | (with_reducible assumption) | assumption)
                    (try (obtain ⟨AoX_, coX_, eoX_⟩ := Kd.R_slice HO_12.out; subst eoX_))
                    obtain ⟨ad313, e313, hx313_0, hx313_1, hx313_2⟩ := at_T65 (Kd.R_reads' HO_12.out).2.2 x13_2 p313 q313
                    obtain rfl : ad312 = ad313 := (by injection e313)
                    replace p313 := eq_true p313
                    replace q313 := eq_true q313
                    refine start_ (n := 18) (S := fun w' => w'.cell? ⟨gb308, 0, none⟩ = some (.slice Ao21 t304.length co21) ∧ w'.cell? (ad312.add ((x13_2).toNat * 3)) = some (.string ((rd_T65 t309 x13_2).f0)) ∧ w'.cell? ⟨(ad312.add ((x13_2).toNat * 3)).block, (ad312.add ((x13_2).toNat * 3)).off + 1, none⟩ = some (.string ((rd_T65 t309 x13_2).f1)) ∧ w'.cell? ⟨(ad312.add ((x13_2).toNat * 3)).block, (ad312.add ((x13_2).toNat * 3)).off + 2, none⟩ = some (.int .i64 ((rd_T65 t309 x13_2).f2)) ∧ w'.cell? (ad312.add ((x13_2).toNat * 3)) = some (.string ((rd_T65 t309 x13_2).f0)) ∧ w'.cell? ⟨(ad312.add ((x13_2).toNat * 3)).block, (ad312.add ((x13_2).toNat * 3)).off + 1, none⟩ = some (.string ((rd_T65 t309 x13_2).f1)) ∧ w'.cell? ⟨(ad312.add ((x13_2).toNat * 3)).block, (ad312.add ((x13_2).toNat * 3)).off + 2, none⟩ = some (.int .i64 ((rd_T65 t309 x13_2).f2))) (ds := []) #[false, false, false, false, false, false, false, false, false, false, false, false, false, false, false, false, false, false] (by kernel_rfl) rfl rfl ⟨(blk_cell BK308.out 0).trans rfl, hx312_0, hx312_1, hx312_2, hx313_0, hx313_1, hx313_2⟩ (fun hHeld => ?_); refine with_tabW flagstonelaw13_BucketSubjects.tab10 flagstonelaw13_BucketSubjects.bits10 (fun HT_ HW_ => ?_)
                    generalize wr.drew = w43 at HO_12 HO_300000 HO_309000 BK299 BK308 HB hx312_0 hx312_1 hx312_2 hx313_0 hx313_1 hx313_2 hHeld ⊢
                    refine pure_ (i := 1) (N := some 51) (v := ?_) (a' := ?_) #[false, true, false, false, false, false, false, false, false, false, false, false, false, false, false, false, false, false] rfl rfl (any_of HT_.out (by kernel_rfl)) (fun _ _ _ h => h) (Or.inl ⟨by rfl, ?_⟩) ?_ ?_
                    rotate_left
                    · intro w'
                      go_simp
                      with_reducible rfl
                    rotate_left
                    · simp only [Act.put, List.setIfInBounds_toArray, List.set_cons_zero, List.set_cons_succ, i64_w, i32_w]
                      rfl
                    refine pure_ (i := 2) (N := some 52) (v := ?_) (a' := ?_) #[false, true, true, false, false, false, false, false, false, false, false, false, false, false, false, false, false, false] rfl rfl (any_of HT_.out (by kernel_rfl)) (fun _ _ _ h => h) (Or.inl ⟨by rfl, ?_⟩) ?_ ?_
                    rotate_left
                    · intro w'
                      go_simp
                      with_reducible rfl
                    rotate_left
                    · simp only [Act.put, List.setIfInBounds_toArray, List.set_cons_zero, List.set_cons_succ, i64_w, i32_w]
                      rfl
                    refine pure_ (i := 3) (N := some 53) (v := ?_) (a' := ?_) #[false, true, true, true, false, false, false, false, false, false, false, false, false, false, false, false, false, false] rfl rfl (any_of HT_.out (by kernel_rfl)) (fun _ _ _ h => h) (Or.inl ⟨by rfl, ?_⟩) ?_ ?_
                    rotate_left
                    · intro w'
                      go_simp
                      with_reducible rfl
                    rotate_left
                    · simp only [Act.put, List.setIfInBounds_toArray, List.set_cons_zero, List.set_cons_succ, i64_w, i32_w]
                      rfl
                    refine pure_ (i := 4) (N := some 54) (v := ?_) (a' := ?_) #[false, true, true, true, true, false, false, false, false, false, false, false, false, false, false, false, false, false] rfl rfl (any_of HT_.out (by kernel_rfl)) (fun _ _ _ h => h) (Or.inl ⟨by rfl, ?_⟩) ?_ ?_
                    rotate_left
                    · intro w'
                      go_simp
                      with_reducible rfl
                    rotate_left
                    · simp only [Act.put, List.setIfInBounds_toArray, List.set_cons_zero, List.set_cons_succ, i64_w, i32_w]
                      rfl
                    refine pure_ (i := 6) (N := some 56) (v := ?_) (a' := ?_) #[false, true, true, true, true, false, true, false, false, false, false, false, false, false, false, false, false, false] rfl rfl (any_of HT_.out (by kernel_rfl)) (fun _ _ _ h => h) (Or.inl ⟨by rfl, ?_⟩) ?_ ?_
                    rotate_left
                    · intro w'
                      go_simp
                      with_reducible rfl
                    rotate_left
                    · simp only [Act.put, List.setIfInBounds_toArray, List.set_cons_zero, List.set_cons_succ, i64_w, i32_w]
                      rfl
                    refine pure_ (i := 7) (N := some 57) (v := ?_) (a' := ?_) #[false, true, true, true, true, false, true, true, false, false, false, false, false, false, false, false, false, false] rfl rfl (any_of HT_.out (by kernel_rfl)) (fun _ _ _ h => h) (Or.inl ⟨by rfl, ?_⟩) ?_ ?_
                    rotate_left
                    · intro w'
                      go_simp
                      with_reducible rfl
                    rotate_left
                    · simp only [Act.put, List.setIfInBounds_toArray, List.set_cons_zero, List.set_cons_succ, i64_w, i32_w]
                      rfl
                    refine pure_ (i := 8) (N := some 58) (v := ?_) (a' := ?_) #[false, true, true, true, true, false, true, true, true, false, false, false, false, false, false, false, false, false] rfl rfl (any_of HT_.out (by kernel_rfl)) (fun _ _ _ h => h) (Or.inl ⟨by rfl, ?_⟩) ?_ ?_
                    rotate_left
                    · intro w'
                      go_simp
                      with_reducible rfl
                    rotate_left
                    · simp only [Act.put, List.setIfInBounds_toArray, List.set_cons_zero, List.set_cons_succ, i64_w, i32_w]
                      rfl
                    refine pure_ (i := 9) (N := some 59) (v := ?_) (a' := ?_) #[false, true, true, true, true, false, true, true, true, true, false, false, false, false, false, false, false, false] rfl rfl (any_of HT_.out (by kernel_rfl)) (fun _ _ _ h => h) (Or.inl ⟨by rfl, ?_⟩) ?_ ?_
                    rotate_left
                    · intro w'
                      go_simp
                      with_reducible rfl
                    rotate_left
                    · simp only [Act.put, List.setIfInBounds_toArray, List.set_cons_zero, List.set_cons_succ, i64_w, i32_w]
                      rfl
                    refine pure_ (i := 11) (N := some 61) (v := ?_) (a' := ?_) #[false, true, true, true, true, false, true, true, true, true, false, true, false, false, false, false, false, false] rfl rfl (any_of HT_.out (by kernel_rfl)) (fun _ _ _ h => h) (Or.inl ⟨by rfl, ?_⟩) ?_ ?_
                    rotate_left
                    · intro w'
                      go_simp
                      with_reducible rfl
                    rotate_left
                    · simp only [Act.put, List.setIfInBounds_toArray, List.set_cons_zero, List.set_cons_succ, i64_w, i32_w]
                      rfl
                    refine take_ (i := 0) (N := some 50) (v := ?_) (a' := ?_) #[true, true, true, true, true, false, true, true, true, true, false, true, false, false, false, false, false, false] rfl rfl (take_ofW HT_.out HW_.out (by kernel_rfl)) (fun _ _ _ h => h) (Or.inl ⟨by rfl, ?_⟩) hHeld ?_ ?_
                    rotate_left
                    · rintro w' ⟨s0, s1, s2, s3, s4, s5, s6⟩
                      go_simp
                      with_reducible rfl
                    rotate_left
                    · simp only [Act.put, List.setIfInBounds_toArray, List.set_cons_zero, List.set_cons_succ, i64_w, i32_w]
                      rfl
                    refine take_ (i := 5) (N := some 55) (v := ?_) (a' := ?_) #[true, true, true, true, true, true, true, true, true, true, false, true, false, false, false, false, false, false] rfl rfl (take_ofW HT_.out HW_.out (by kernel_rfl)) (fun _ _ _ h => h) (Or.inl ⟨by rfl, ?_⟩) hHeld ?_ ?_
                    rotate_left
                    · rintro w' ⟨s0, s1, s2, s3, s4, s5, s6⟩
                      go_simp
                      with_reducible rfl
                    rotate_left
                    · simp only [Act.put, List.setIfInBounds_toArray, List.set_cons_zero, List.set_cons_succ, i64_w, i32_w]
                      rfl
                    refine take_ (i := 10) (N := some 60) (v := ?_) (a' := ?_) #[true, true, true, true, true, true, true, true, true, true, true, true, false, false, false, false, false, false] rfl rfl (take_ofW HT_.out HW_.out (by kernel_rfl)) (fun _ _ _ h => h) (Or.inl ⟨by rfl, ?_⟩) hHeld ?_ ?_
                    rotate_left
                    · rintro w' ⟨s0, s1, s2, s3, s4, s5, s6⟩
                      go_simp
                      with_reducible rfl
                    rotate_left
                    · simp only [Act.put, List.setIfInBounds_toArray, List.set_cons_zero, List.set_cons_succ, i64_w, i32_w]
                      rfl
                    refine one_ (i := 12) (N := some 62) #[true, true, true, true, true, true, true, true, true, true, true, true, true, false, false, false, false, false] rfl rfl (one_of HT_.out (by kernel_rfl)) (by decide) (fun K hK => ?_)
                    refine goes_ Tryd.func34 (by kernel_rfl) rfl #[.agg #[.slice Ao21 t304.length co21], .string ((rd_T65 t309 x13_2).f0), .string ((rd_T65 t309 x13_2).f1), .string a4] (by rfl) rfl rfl (by (try simp only [List.map_toArray, List.map_cons, List.map_nil]); first | done | rfl | (simp only [List.length_drop, List.length_take]; rfl)) ?_
                    with_reducible refine (bucket_Subject.calls k2 _ _ t304 ((rd_T65 t309 x13_2).f0) ((rd_T65 t309 x13_2).f1) a4 t314 t315 _ ?side1 ?side2 ?side3 A28.out).mono ?_
                    (case side1 => repeat (first | exact (Kd.V_reads' HO_309000.out).2.2 | (with_reducible refine Kd.C_alloc ?_ _) | (with_reducible refine Kd.C_drewN ?_ _) | (with_reducible refine Kd.C_drew ?_)))
                    (case side2 => exact (Kd.V_reads' HO_309000.out).2.1)
                    (case side3 => exact GL.below HGL.out (by repeat (first | (with_reducible first|exact HB.out|apply zE|apply zB|apply zC | refine zJ ?_ GE299.out | refine zJ ?_ GE308.out) | exact HB.out)))
                    rintro e w44 ⟨rfl, hb⟩
                    have HS1_ := (hb.cell (World.block_lt_of_cell? _ _ (hHeld.2.1))).trans (hHeld.2.1)
                    have HS2_ := (hb.cell (World.block_lt_of_cell? _ _ (hHeld.2.2.1))).trans (hHeld.2.2.1)
                    have HS3_ := (hb.cell (World.block_lt_of_cell? _ _ (hHeld.2.2.2.1))).trans (hHeld.2.2.2.1)
                    have HS4_ := (hb.cell (World.block_lt_of_cell? _ _ (hHeld.2.2.2.2.1))).trans (hHeld.2.2.2.2.1)
                    have HS5_ := (hb.cell (World.block_lt_of_cell? _ _ (hHeld.2.2.2.2.2.1))).trans (hHeld.2.2.2.2.2.1)
                    have HS6_ := (hb.cell (World.block_lt_of_cell? _ _ (hHeld.2.2.2.2.2.2))).trans (hHeld.2.2.2.2.2.2)
                    refine ⟨_, rfl, ?_⟩
                    have n0_ := Aside0.mk (Kd.R_below (by (with_reducible repeat (first | apply Kd.R_alloc | apply Kd.R_drewN | apply Kd.R_drew)); exact HO_12.out) hb)
                    have n1_ := Aside0.mk (Kd.V_below (by (with_reducible repeat (first | apply Kd.V_alloc | apply Kd.V_drewN | apply Kd.V_drew)); exact HO_300000.out) hb)
                    have n2_ := Aside0.mk (Kd.V_below (by (with_reducible repeat (first | apply Kd.V_alloc | apply Kd.V_drewN | apply Kd.V_drew)); exact HO_309000.out) hb)
                    have n3_ := Aside0.mk (blk_below (g := gb299) (o := .cells #[.slice A1_0 l1_0.length c1_0] 58 (0, 0)) (by (with_reducible repeat (first|refine zN ?_ _|refine zD ?_|refine zA ?_ _)); exact BK299.out) hb)
                    have n4_ := Aside0.mk (blk_below (g := gb308) (o := .cells #[.slice Ao21 t304.length co21] 58 (0, 0)) (by (with_reducible repeat (first|refine zN ?_ _|refine zD ?_|refine zA ?_ _)); exact BK308.out) hb)
                    have n5_ := Aside0.mk (below_step (by repeat (first | (with_reducible first|exact HB.out|apply zE|apply zB|apply zC | refine zJ ?_ GE299.out | refine zJ ?_ GE308.out) | exact HB.out)) hb)
                    clear HO_12 HO_300000 HO_309000 BK299 BK308 HB; have HO_12 := n0_; have HO_300000 := n1_; have HO_309000 := n2_; have BK299 := n3_; have BK308 := n4_; have HB := n5_; clear n0_ n1_ n2_ n3_ n4_ n5_
                    (try clear hb)
                    (try clear hb2)
                    (try clear hk)
                    (try clear hi)
                    (try clear hge)
                    refine hK.out _ _ ⟨(blk_cell BK308.out 0).trans rfl, HS1_, HS2_, HS3_, HS4_, HS5_, HS6_⟩ (fun hHeld => ?_)
                    clear hK K
                    refine norm_ (a' := ?_) ?_ ?_
                    rotate_left
                    · show Act.put _ (some 62) _ = _
                      simp only [Act.put, List.setIfInBounds_toArray, List.set_cons_zero, List.set_cons_succ, i64_w, i32_w]
                      rfl
                    refine pure_ (i := 13) (N := some 49) (v := ?_) (a' := ?_) #[true, true, true, true, true, true, true, true, true, true, true, true, true, true, false, false, false, false] rfl rfl (any_of HT_.out (by kernel_rfl)) (fun _ _ _ h => h) (Or.inl ⟨by rfl, ?_⟩) ?_ ?_
                    rotate_left
                    · intro w'
                      go_simp
                      with_reducible rfl
                    rotate_left
                    · simp only [Act.put, List.setIfInBounds_toArray, List.set_cons_zero, List.set_cons_succ, i64_w, i32_w]
                      rfl
                    refine pure_ (i := 14) (N := some 63) (v := ?_) (a' := ?_) #[true, true, true, true, true, true, true, true, true, true, true, true, true, true, true, false, false, false] rfl rfl (any_of HT_.out (by kernel_rfl)) (fun _ _ _ h => h) (Or.inl ⟨by rfl, ?_⟩) ?_ ?_
                    rotate_left
                    · intro w'
                      go_simp
                      with_reducible rfl
                    rotate_left
                    · simp only [Act.put, List.setIfInBounds_toArray, List.set_cons_zero, List.set_cons_succ, i64_w, i32_w]
                      rfl
                    refine pure_ (i := 15) (N := some 64) (v := ?_) (a' := ?_) #[true, true, true, true, true, true, true, true, true, true, true, true, true, true, true, true, false, false] rfl rfl (any_of HT_.out (by kernel_rfl)) (fun _ _ _ h => h) (Or.inl ⟨by rfl, ?_⟩) ?_ ?_
                    rotate_left
                    · intro w'
                      go_simp
                      with_reducible rfl
                    rotate_left
                    · simp only [Act.put, List.setIfInBounds_toArray, List.set_cons_zero, List.set_cons_succ, i64_w, i32_w]
                      rfl
                    refine pure_ (i := 16) (N := some 14) (v := ?_) (a' := ?_) #[true, true, true, true, true, true, true, true, true, true, true, true, true, true, true, true, true, false] rfl rfl (any_of HT_.out (by kernel_rfl)) (fun _ _ _ h => h) (Or.inl ⟨by rfl, ?_⟩) ?_ ?_
                    rotate_left
                    · intro w'
                      go_simp
                      with_reducible rfl
                    rotate_left
                    · simp only [Act.put, List.setIfInBounds_toArray, List.set_cons_zero, List.set_cons_succ, i64_w, i32_w]
                      rfl
                    refine pure_ (i := 17) (N := some 15) (v := ?_) (a' := ?_) #[true, true, true, true, true, true, true, true, true, true, true, true, true, true, true, true, true, true] rfl rfl (any_of HT_.out (by kernel_rfl)) (fun _ _ _ h => h) (Or.inl ⟨by rfl, ?_⟩) ?_ ?_
                    rotate_left
                    · intro w'
                      go_simp
                      with_reducible rfl
                    rotate_left
                    · simp only [Act.put, List.setIfInBounds_toArray, List.set_cons_zero, List.set_cons_succ, i64_w, i32_w]
                      rfl
                    refine done_ (done_of HT_.out (by kernel_rfl)) ?_
                    try go_wp2
                    have n0_ := Aside0.mk (Kd.R_drew HO_12.out)
                    have n1_ := Aside0.mk (Kd.V_drew HO_300000.out)
                    have n2_ := Aside0.mk (Kd.V_drew HO_309000.out)
                    have n3_ := Aside0.mk (zD BK299.out)
                    have n4_ := Aside0.mk (zD BK308.out)
                    have n5_ := Aside0.mk (zC HB.out)
                    clear HO_12 HO_300000 HO_309000 BK299 BK308 HB; have HO_12 := n0_; have HO_300000 := n1_; have HO_309000 := n2_; have BK299 := n3_; have BK308 := n4_; have HB := n5_; clear n0_ n1_ n2_ n3_ n4_ n5_
                    have p316 : 0 ≤ (x13_2 : Int) := of_decide_eq_true (by first | (with_reducible assumption) | assumption)
                    have q316 : x13_2 < (t309.length : Int) := of_decide_eq_true (by first | (with_reducible assumption) | assumption)
                    (try (obtain ⟨AoX_, coX_, eoX_⟩ := Kd.R_slice HO_12.out; subst eoX_))
                    obtain ⟨ad316, e316, hx316_0, hx316_1, hx316_2⟩ := at_T65 (Kd.R_reads' HO_12.out).2.2 x13_2 p316 q316
                    obtain rfl : ad312 = ad316 := (by injection e316)
                    replace p316 := eq_true p316
                    replace q316 := eq_true q316
                    have p317 : 0 ≤ (x13_2 : Int) := of_decide_eq_true (by first | (with_reducible assumption) | assumption)
                    have q317 : x13_2 < (t309.length : Int) := of_decide_eq_true (by first | (with_reducible assumption) | assumption)
                    (try (obtain ⟨AoX_, coX_, eoX_⟩ := Kd.R_slice HO_12.out; subst eoX_))
                    obtain ⟨ad317, e317, hx317_0, hx317_1, hx317_2⟩ := at_T65 (Kd.R_reads' HO_12.out).2.2 x13_2 p317 q317
                    obtain rfl : ad312 = ad317 := (by injection e317)
                    replace p317 := eq_true p317
                    replace q317 := eq_true q317
                    refine start_ (n := 18) (S := fun w' => w'.cell? ⟨gb308, 0, none⟩ = some (.slice Ao21 t304.length co21) ∧ w'.cell? (ad312.add ((x13_2).toNat * 3)) = some (.string ((rd_T65 t309 x13_2).f0)) ∧ w'.cell? ⟨(ad312.add ((x13_2).toNat * 3)).block, (ad312.add ((x13_2).toNat * 3)).off + 1, none⟩ = some (.string ((rd_T65 t309 x13_2).f1)) ∧ w'.cell? ⟨(ad312.add ((x13_2).toNat * 3)).block, (ad312.add ((x13_2).toNat * 3)).off + 2, none⟩ = some (.int .i64 ((rd_T65 t309 x13_2).f2)) ∧ w'.cell? (ad312.add ((x13_2).toNat * 3)) = some (.string ((rd_T65 t309 x13_2).f0)) ∧ w'.cell? ⟨(ad312.add ((x13_2).toNat * 3)).block, (ad312.add ((x13_2).toNat * 3)).off + 1, none⟩ = some (.string ((rd_T65 t309 x13_2).f1)) ∧ w'.cell? ⟨(ad312.add ((x13_2).toNat * 3)).block, (ad312.add ((x13_2).toNat * 3)).off + 2, none⟩ = some (.int .i64 ((rd_T65 t309 x13_2).f2))) (ds := []) #[false, false, false, false, false, false, false, false, false, false, false, false, false, false, false, false, false, false] (by kernel_rfl) rfl rfl ⟨(blk_cell BK308.out 0).trans rfl, hx316_0, hx316_1, hx316_2, hx317_0, hx317_1, hx317_2⟩ (fun hHeld => ?_); refine with_tabW flagstonelaw13_BucketSubjects.tab11 flagstonelaw13_BucketSubjects.bits11 (fun HT_ HW_ => ?_)
                    generalize w44.drew = w45 at HO_12 HO_300000 HO_309000 BK299 BK308 HB hx316_0 hx316_1 hx316_2 hx317_0 hx317_1 hx317_2 hHeld ⊢
                    refine pure_ (i := 1) (N := some 67) (v := ?_) (a' := ?_) #[false, true, false, false, false, false, false, false, false, false, false, false, false, false, false, false, false, false] rfl rfl (any_of HT_.out (by kernel_rfl)) (fun _ _ _ h => h) (Or.inl ⟨by rfl, ?_⟩) ?_ ?_
                    rotate_left
                    · intro w'
                      go_simp
                      with_reducible rfl
                    rotate_left
                    · simp only [Act.put, List.setIfInBounds_toArray, List.set_cons_zero, List.set_cons_succ, i64_w, i32_w]
                      rfl
                    refine pure_ (i := 2) (N := some 68) (v := ?_) (a' := ?_) #[false, true, true, false, false, false, false, false, false, false, false, false, false, false, false, false, false, false] rfl rfl (any_of HT_.out (by kernel_rfl)) (fun _ _ _ h => h) (Or.inl ⟨by rfl, ?_⟩) ?_ ?_
                    rotate_left
                    · intro w'
                      go_simp
                      with_reducible rfl
                    rotate_left
                    · simp only [Act.put, List.setIfInBounds_toArray, List.set_cons_zero, List.set_cons_succ, i64_w, i32_w]
                      rfl
                    refine pure_ (i := 3) (N := some 69) (v := ?_) (a' := ?_) #[false, true, true, true, false, false, false, false, false, false, false, false, false, false, false, false, false, false] rfl rfl (any_of HT_.out (by kernel_rfl)) (fun _ _ _ h => h) (Or.inl ⟨by rfl, ?_⟩) ?_ ?_
                    rotate_left
                    · intro w'
                      go_simp
                      with_reducible rfl
                    rotate_left
                    · simp only [Act.put, List.setIfInBounds_toArray, List.set_cons_zero, List.set_cons_succ, i64_w, i32_w]
                      rfl
                    refine pure_ (i := 4) (N := some 70) (v := ?_) (a' := ?_) #[false, true, true, true, true, false, false, false, false, false, false, false, false, false, false, false, false, false] rfl rfl (any_of HT_.out (by kernel_rfl)) (fun _ _ _ h => h) (Or.inl ⟨by rfl, ?_⟩) ?_ ?_
                    rotate_left
                    · intro w'
                      go_simp
                      with_reducible rfl
                    rotate_left
                    · simp only [Act.put, List.setIfInBounds_toArray, List.set_cons_zero, List.set_cons_succ, i64_w, i32_w]
                      rfl
                    refine pure_ (i := 6) (N := some 72) (v := ?_) (a' := ?_) #[false, true, true, true, true, false, true, false, false, false, false, false, false, false, false, false, false, false] rfl rfl (any_of HT_.out (by kernel_rfl)) (fun _ _ _ h => h) (Or.inl ⟨by rfl, ?_⟩) ?_ ?_
                    rotate_left
                    · intro w'
                      go_simp
                      with_reducible rfl
                    rotate_left
                    · simp only [Act.put, List.setIfInBounds_toArray, List.set_cons_zero, List.set_cons_succ, i64_w, i32_w]
                      rfl
                    refine pure_ (i := 7) (N := some 73) (v := ?_) (a' := ?_) #[false, true, true, true, true, false, true, true, false, false, false, false, false, false, false, false, false, false] rfl rfl (any_of HT_.out (by kernel_rfl)) (fun _ _ _ h => h) (Or.inl ⟨by rfl, ?_⟩) ?_ ?_
                    rotate_left
                    · intro w'
                      go_simp
                      with_reducible rfl
                    rotate_left
                    · simp only [Act.put, List.setIfInBounds_toArray, List.set_cons_zero, List.set_cons_succ, i64_w, i32_w]
                      rfl
                    refine pure_ (i := 8) (N := some 74) (v := ?_) (a' := ?_) #[false, true, true, true, true, false, true, true, true, false, false, false, false, false, false, false, false, false] rfl rfl (any_of HT_.out (by kernel_rfl)) (fun _ _ _ h => h) (Or.inl ⟨by rfl, ?_⟩) ?_ ?_
                    rotate_left
                    · intro w'
                      go_simp
                      with_reducible rfl
                    rotate_left
                    · simp only [Act.put, List.setIfInBounds_toArray, List.set_cons_zero, List.set_cons_succ, i64_w, i32_w]
                      rfl
                    refine pure_ (i := 9) (N := some 75) (v := ?_) (a' := ?_) #[false, true, true, true, true, false, true, true, true, true, false, false, false, false, false, false, false, false] rfl rfl (any_of HT_.out (by kernel_rfl)) (fun _ _ _ h => h) (Or.inl ⟨by rfl, ?_⟩) ?_ ?_
                    rotate_left
                    · intro w'
                      go_simp
                      with_reducible rfl
                    rotate_left
                    · simp only [Act.put, List.setIfInBounds_toArray, List.set_cons_zero, List.set_cons_succ, i64_w, i32_w]
                      rfl
                    refine pure_ (i := 11) (N := some 77) (v := ?_) (a' := ?_) #[false, true, true, true, true, false, true, true, true, true, false, true, false, false, false, false, false, false] rfl rfl (any_of HT_.out (by kernel_rfl)) (fun _ _ _ h => h) (Or.inl ⟨by rfl, ?_⟩) ?_ ?_
                    rotate_left
                    · intro w'
                      go_simp
                      with_reducible rfl
                    rotate_left
                    · simp only [Act.put, List.setIfInBounds_toArray, List.set_cons_zero, List.set_cons_succ, i64_w, i32_w]
                      rfl
                    refine take_ (i := 0) (N := some 66) (v := ?_) (a' := ?_) #[true, true, true, true, true, false, true, true, true, true, false, true, false, false, false, false, false, false] rfl rfl (take_ofW HT_.out HW_.out (by kernel_rfl)) (fun _ _ _ h => h) (Or.inl ⟨by rfl, ?_⟩) hHeld ?_ ?_
                    rotate_left
                    · rintro w' ⟨s0, s1, s2, s3, s4, s5, s6⟩
                      go_simp
                      with_reducible rfl
                    rotate_left
                    · simp only [Act.put, List.setIfInBounds_toArray, List.set_cons_zero, List.set_cons_succ, i64_w, i32_w]
                      rfl
                    refine take_ (i := 5) (N := some 71) (v := ?_) (a' := ?_) #[true, true, true, true, true, true, true, true, true, true, false, true, false, false, false, false, false, false] rfl rfl (take_ofW HT_.out HW_.out (by kernel_rfl)) (fun _ _ _ h => h) (Or.inl ⟨by rfl, ?_⟩) hHeld ?_ ?_
                    rotate_left
                    · rintro w' ⟨s0, s1, s2, s3, s4, s5, s6⟩
                      go_simp
                      with_reducible rfl
                    rotate_left
                    · simp only [Act.put, List.setIfInBounds_toArray, List.set_cons_zero, List.set_cons_succ, i64_w, i32_w]
                      rfl
                    refine take_ (i := 10) (N := some 76) (v := ?_) (a' := ?_) #[true, true, true, true, true, true, true, true, true, true, true, true, false, false, false, false, false, false] rfl rfl (take_ofW HT_.out HW_.out (by kernel_rfl)) (fun _ _ _ h => h) (Or.inl ⟨by rfl, ?_⟩) hHeld ?_ ?_
                    rotate_left
                    · rintro w' ⟨s0, s1, s2, s3, s4, s5, s6⟩
                      go_simp
                      with_reducible rfl
                    rotate_left
                    · simp only [Act.put, List.setIfInBounds_toArray, List.set_cons_zero, List.set_cons_succ, i64_w, i32_w]
                      rfl
                    refine one_ (i := 12) (N := some 78) #[true, true, true, true, true, true, true, true, true, true, true, true, true, false, false, false, false, false] rfl rfl (one_of HT_.out (by kernel_rfl)) (by decide) (fun K hK => ?_)
                    refine goes_ Tryd.func35 (by kernel_rfl) rfl #[.agg #[.slice Ao21 t304.length co21], .string ((rd_T65 t309 x13_2).f0), .string ((rd_T65 t309 x13_2).f1), .string a4] (by rfl) rfl rfl (by (try simp only [List.map_toArray, List.map_cons, List.map_nil]); first | done | rfl | (simp only [List.length_drop, List.length_take]; rfl)) ?_
                    with_reducible refine (flagstoneref13_Subject.calls k2 _ _ t304 ((rd_T65 t309 x13_2).f0) ((rd_T65 t309 x13_2).f1) a4 t318 t319 _ ?side1 ?side2 A29.out).mono ?_
                    (case side1 => repeat (first | exact (Kd.V_reads' HO_309000.out).2.2 | (with_reducible refine Kd.C_alloc ?_ _) | (with_reducible refine Kd.C_drewN ?_ _) | (with_reducible refine Kd.C_drew ?_)))
                    (case side2 => exact (Kd.V_reads' HO_309000.out).2.1)
                    rintro e w46 ⟨rfl, hb⟩
                    have HS1_ := (hb.cell (World.block_lt_of_cell? _ _ (hHeld.2.1))).trans (hHeld.2.1)
                    have HS2_ := (hb.cell (World.block_lt_of_cell? _ _ (hHeld.2.2.1))).trans (hHeld.2.2.1)
                    have HS3_ := (hb.cell (World.block_lt_of_cell? _ _ (hHeld.2.2.2.1))).trans (hHeld.2.2.2.1)
                    have HS4_ := (hb.cell (World.block_lt_of_cell? _ _ (hHeld.2.2.2.2.1))).trans (hHeld.2.2.2.2.1)
                    have HS5_ := (hb.cell (World.block_lt_of_cell? _ _ (hHeld.2.2.2.2.2.1))).trans (hHeld.2.2.2.2.2.1)
                    have HS6_ := (hb.cell (World.block_lt_of_cell? _ _ (hHeld.2.2.2.2.2.2))).trans (hHeld.2.2.2.2.2.2)
                    refine ⟨_, rfl, ?_⟩
                    have n0_ := Aside0.mk (Kd.R_below (by (with_reducible repeat (first | apply Kd.R_alloc | apply Kd.R_drewN | apply Kd.R_drew)); exact HO_12.out) hb)
                    have n1_ := Aside0.mk (Kd.V_below (by (with_reducible repeat (first | apply Kd.V_alloc | apply Kd.V_drewN | apply Kd.V_drew)); exact HO_300000.out) hb)
                    have n2_ := Aside0.mk (Kd.V_below (by (with_reducible repeat (first | apply Kd.V_alloc | apply Kd.V_drewN | apply Kd.V_drew)); exact HO_309000.out) hb)
                    have n3_ := Aside0.mk (blk_below (g := gb299) (o := .cells #[.slice A1_0 l1_0.length c1_0] 58 (0, 0)) (by (with_reducible repeat (first|refine zN ?_ _|refine zD ?_|refine zA ?_ _)); exact BK299.out) hb)
                    have n4_ := Aside0.mk (blk_below (g := gb308) (o := .cells #[.slice Ao21 t304.length co21] 58 (0, 0)) (by (with_reducible repeat (first|refine zN ?_ _|refine zD ?_|refine zA ?_ _)); exact BK308.out) hb)
                    have n5_ := Aside0.mk (below_step (by repeat (first | (with_reducible first|exact HB.out|apply zE|apply zB|apply zC | refine zJ ?_ GE299.out | refine zJ ?_ GE308.out) | exact HB.out)) hb)
                    clear HO_12 HO_300000 HO_309000 BK299 BK308 HB; have HO_12 := n0_; have HO_300000 := n1_; have HO_309000 := n2_; have BK299 := n3_; have BK308 := n4_; have HB := n5_; clear n0_ n1_ n2_ n3_ n4_ n5_
                    (try clear hb)
                    (try clear hb2)
                    (try clear hk)
                    (try clear hi)
                    (try clear hge)
                    refine hK.out _ _ ⟨(blk_cell BK308.out 0).trans rfl, HS1_, HS2_, HS3_, HS4_, HS5_, HS6_⟩ (fun hHeld => ?_)
                    clear hK K
                    refine norm_ (a' := ?_) ?_ ?_
                    rotate_left
                    · show Act.put _ (some 78) _ = _
                      simp only [Act.put, List.setIfInBounds_toArray, List.set_cons_zero, List.set_cons_succ, i64_w, i32_w]
                      rfl
                    refine pure_ (i := 13) (N := some 65) (v := ?_) (a' := ?_) #[true, true, true, true, true, true, true, true, true, true, true, true, true, true, false, false, false, false] rfl rfl (any_of HT_.out (by kernel_rfl)) (fun _ _ _ h => h) (Or.inl ⟨by rfl, ?_⟩) ?_ ?_
                    rotate_left
                    · intro w'
                      go_simp
                      with_reducible rfl
                    rotate_left
                    · simp only [Act.put, List.setIfInBounds_toArray, List.set_cons_zero, List.set_cons_succ, i64_w, i32_w]
                      rfl
                    refine pure_ (i := 14) (N := some 79) (v := ?_) (a' := ?_) #[true, true, true, true, true, true, true, true, true, true, true, true, true, true, true, false, false, false] rfl rfl (any_of HT_.out (by kernel_rfl)) (fun _ _ _ h => h) (Or.inl ⟨by rfl, ?_⟩) ?_ ?_
                    rotate_left
                    · intro w'
                      go_simp
                      with_reducible rfl
                    rotate_left
                    · simp only [Act.put, List.setIfInBounds_toArray, List.set_cons_zero, List.set_cons_succ, i64_w, i32_w]
                      rfl
                    refine pure_ (i := 15) (N := some 80) (v := ?_) (a' := ?_) #[true, true, true, true, true, true, true, true, true, true, true, true, true, true, true, true, false, false] rfl rfl (any_of HT_.out (by kernel_rfl)) (fun _ _ _ h => h) (Or.inl ⟨by rfl, ?_⟩) ?_ ?_
                    rotate_left
                    · intro w'
                      go_simp
                      with_reducible rfl
                    rotate_left
                    · simp only [Act.put, List.setIfInBounds_toArray, List.set_cons_zero, List.set_cons_succ, i64_w, i32_w]
                      rfl
                    refine pure_ (i := 16) (N := some 16) (v := ?_) (a' := ?_) #[true, true, true, true, true, true, true, true, true, true, true, true, true, true, true, true, true, false] rfl rfl (any_of HT_.out (by kernel_rfl)) (fun _ _ _ h => h) (Or.inl ⟨by rfl, ?_⟩) ?_ ?_
                    rotate_left
                    · intro w'
                      go_simp
                      with_reducible rfl
                    rotate_left
                    · simp only [Act.put, List.setIfInBounds_toArray, List.set_cons_zero, List.set_cons_succ, i64_w, i32_w]
                      rfl
                    refine pure_ (i := 17) (N := some 17) (v := ?_) (a' := ?_) #[true, true, true, true, true, true, true, true, true, true, true, true, true, true, true, true, true, true] rfl rfl (any_of HT_.out (by kernel_rfl)) (fun _ _ _ h => h) (Or.inl ⟨by rfl, ?_⟩) ?_ ?_
                    rotate_left
                    · intro w'
                      go_simp
                      with_reducible rfl
                    rotate_left
                    · simp only [Act.put, List.setIfInBounds_toArray, List.set_cons_zero, List.set_cons_succ, i64_w, i32_w]
                      rfl
                    refine done_ (done_of HT_.out (by kernel_rfl)) ?_
                    try go_wp2
                    go_ret
                    exact ⟨by first | rfl | (simp [errW_none, errW_some] <;> rfl) | (simp [*, errW_none, errW_some] <;> rfl), by repeat (first | (with_reducible first|exact HB.out|apply zE|apply zB|apply zC | refine zJ ?_ GE299.out | refine zJ ?_ GE308.out) | exact HB.out)⟩
                · rw [if_neg c27] at H
                  exact absurd H (by simp)
              · rw [if_neg c26] at H
                have c26b0 : decide (x13_2 < (t309.length : Int)) = false := decide_eq_false c26
                clear c26
                obtain ⟨y320, hy320⟩ : ∃ y_ : List (S58), y_ = (([(⟨t304⟩ : S58), (⟨l1_0⟩ : S58)] : List (S58))) := ⟨_, rfl⟩
                replace H : (flagstonelaw13_BucketSubjects.l1 k2 a2 a3 a4 y320 (y320.length : Int) 0) = some r := by first | (rw [hy320]; with_reducible exact H) | (have H2_ := (Option.bind_some _ _).symm.trans H; rw [hy320]; with_reducible exact H2_) | (have H2_ := (Option.bind_some _ _).symm.trans H; with_reducible exact H2_) | with_reducible exact H | (rw [hy320]; exact H) | exact H
                have Ny320 := Aside0.mk hy320; clear hy320; have H' := Aside0.mk H; clear H
                obtain ⟨Ao47, co47, eo47⟩ := Kd.R_slice HO_12.out
                subst eo47; have hnb48 := NB308_299.out; have hnc48 := NB299_308.out
                have hcz49_0 : wr.cell? ⟨gb308, 0, none⟩ = some (.slice Ao21 t304.length co21) := (blk_cell BK308.out 0).trans rfl
                have hfz49_0 := blk_frozen BK308.out 0
                have hcz50_0 : wr.cell? ⟨gb299, 0, none⟩ = some (.slice A1_0 l1_0.length c1_0) := (blk_cell BK299.out 0).trans rfl
                have hfz50_0 := blk_frozen BK299.out 0
                go_wp2_with (first | ((with_reducible refine gate_dst (N := 91) rfl ?_); (try (refine gate_guard (by rfl) ?_; dsimp only)); refine Kd.N_lit k58 _ 58 ?hg (N' := 91) ?hd (xs := ([(⟨t304⟩ : S58), (⟨l1_0⟩ : S58)] : List (S58))) (inner := [.slice Ao21 t304.length co21, .slice A1_0 l1_0.length c1_0]) (ok := (fun k_ => (P1_0_ k_ ∨ w.heap.size ≤ k_) ∧ some k_ ≠ (.slice Ao47 t309.length co47 : Value).ownBlock ∧ k_ ≠ gb299 ∧ k_ ≠ gb308)) (okp := (fun k_ => (P1_0_ k_ ∨ w.heap.size ≤ k_) ∧ some k_ ≠ (.slice Ao47 t309.length co47 : Value).ownBlock ∧ k_ ≠ gb299 ∧ k_ ≠ gb308)) ?hr ?hp (fun _ hk => hk) ((show ∀ k_, wr.heap.size ≤ k_ → (fun k_ => (P1_0_ k_ ∨ w.heap.size ≤ k_) ∧ some k_ ≠ (.slice Ao47 t309.length co47 : Value).ownBlock ∧ k_ ≠ gb299 ∧ k_ ≠ gb308) k_ from fun k_ hk => ⟨(.inr (Nat.le_trans (below_size (by repeat (first | (with_reducible first|exact HB.out|apply zE|apply zB|apply zC | refine zJ ?_ GE299.out | refine zJ ?_ GE308.out) | exact HB.out))) hk)), Kd.fresh' (Kd.R_lt (by (with_reducible repeat (first | apply Kd.R_alloc | apply Kd.R_drewN | apply Kd.R_drew)); exact HO_12.out)) k_ hk, Kd.freshB (g := gb299) (o := .cells #[.slice A1_0 l1_0.length c1_0] 58 (0, 0)) (by (with_reducible repeat (first|refine zN ?_ _|refine zD ?_|refine zA ?_ _)); exact BK299.out) k_ hk, Kd.freshB (g := gb308) (o := .cells #[.slice Ao21 t304.length co21] 58 (0, 0)) (by (with_reducible repeat (first|refine zN ?_ _|refine zD ?_|refine zA ?_ _)); exact BK308.out) k_ hk⟩) _ (Nat.le_refl _)) (Below.refl _ _) (Nat.le_refl _) (by simp) ?_; (case hd => rfl); (case hg => rfl); (case hr => first | (go_simp; done) | (go_simp; rfl)); (case hp => exact (Reps.one (show Kd.FK k58 _ _ (⟨t304⟩ : S58) [.slice Ao21 t304.length co21] from (k58_mkF _ _ (⟨t304⟩ : S58) (Kd.V_reads' (Kd.V_mono (ok' := (fun k_ => (P1_0_ k_ ∨ w.heap.size ≤ k_) ∧ some k_ ≠ (.slice Ao47 t309.length co47 : Value).ownBlock ∧ k_ ≠ gb299 ∧ k_ ≠ gb308)) (HO_309000.out) (fun k_ hk => ⟨hk.1, ⟨hk.2.1, ⟨hk.2.2.1, hk.2.2.2⟩⟩⟩))).2.1 (Kd.V_F (Kd.V_mono (ok' := (fun k_ => (P1_0_ k_ ∨ w.heap.size ≤ k_) ∧ some k_ ≠ (.slice Ao47 t309.length co47 : Value).ownBlock ∧ k_ ≠ gb299 ∧ k_ ≠ gb308)) (HO_309000.out) (fun k_ hk => ⟨hk.1, ⟨hk.2.1, ⟨hk.2.2.1, hk.2.2.2⟩⟩⟩))))) (Reps.one (show Kd.FK k58 _ _ (⟨l1_0⟩ : S58) [.slice A1_0 l1_0.length c1_0] from (k58_mkF _ _ (⟨l1_0⟩ : S58) (Kd.V_reads' (Kd.V_mono (ok' := (fun k_ => (P1_0_ k_ ∨ w.heap.size ≤ k_) ∧ some k_ ≠ (.slice Ao47 t309.length co47 : Value).ownBlock ∧ k_ ≠ gb299 ∧ k_ ≠ gb308)) (HO_300000.out) (fun k_ hk => ⟨hk.1, ⟨hk.2.1, ⟨hk.2.2.1, hk.2.2.2⟩⟩⟩))).2.1 (Kd.V_F (Kd.V_mono (ok' := (fun k_ => (P1_0_ k_ ∨ w.heap.size ≤ k_) ∧ some k_ ≠ (.slice Ao47 t309.length co47 : Value).ownBlock ∧ k_ ≠ gb299 ∧ k_ ≠ gb308)) (HO_300000.out) (fun k_ hk => ⟨hk.1, ⟨hk.2.1, ⟨hk.2.2.1, hk.2.2.2⟩⟩⟩))))) (Reps.none _ _)))); intro v321 w51 ho52 hb hg_ hnew_; clear hg_ hnew_; (first | rw [← Ny320.out] at ho52 | (simp only [Int.reduceToNat] at ho52; rw [← Ny320.out] at ho52)); have n0_ := Aside0.mk (Kd.R_below (by (with_reducible repeat (first | apply Kd.R_alloc | apply Kd.R_drewN | apply Kd.R_drew)); exact HO_12.out) hb); have n1_ := Aside0.mk (Kd.V_elder' (by (with_reducible repeat (first | apply Kd.V_alloc | apply Kd.V_drewN | apply Kd.V_drew)); exact HO_300000.out) (Kd.N_base ho52) hb); have n2_ := Aside0.mk (Kd.V_elder' (by (with_reducible repeat (first | apply Kd.V_alloc | apply Kd.V_drewN | apply Kd.V_drew)); exact HO_309000.out) (Kd.N_base ho52) hb); have n3_ := Aside0.mk (Kd.N_lower ho52 (below_size (by repeat (first | (with_reducible first|exact HB.out|apply zE|apply zB|apply zC | refine zJ ?_ GE299.out | refine zJ ?_ GE308.out) | exact HB.out)))); have n4_ := Aside0.mk (blk_below (g := gb299) (o := .cells #[.slice A1_0 l1_0.length c1_0] 58 (0, 0)) (by (with_reducible repeat (first|refine zN ?_ _|refine zD ?_|refine zA ?_ _)); exact BK299.out) hb); have n5_ := Aside0.mk (blk_below (g := gb308) (o := .cells #[.slice Ao21 t304.length co21] 58 (0, 0)) (by (with_reducible repeat (first|refine zN ?_ _|refine zD ?_|refine zA ?_ _)); exact BK308.out) hb); have n6_ := Aside0.mk (below_step (by repeat (first | (with_reducible first|exact HB.out|apply zE|apply zB|apply zC | refine zJ ?_ GE299.out | refine zJ ?_ GE308.out) | exact HB.out)) hb); clear HO_12 HO_300000 HO_309000 BK299 BK308 HB; have HO_12 := n0_; have HO_300000 := n1_; have HO_309000 := n2_; have HO322 := n3_; have BK299 := n4_; have BK308 := n5_; have HB := n6_; clear n0_ n1_ n2_ n3_ n4_ n5_ n6_ hb ho52; obtain ⟨Ao53, co53, eo53⟩ := Kd.N_slice HO322.out; subst eo53))
                go_loopg [93] k2 (fun kq v93 w' => ∃ (x93_3 : Int), v93 = .int .i64 x93_3 ∧ Aside0 (flagstonelaw13_BucketSubjects.l1 kq a2 a3 a4 y320 (y320.length : Int) x93_3 = some r) ∧ Aside0 (kq ≤ k2) ∧ Aside0 (Kd.N k58 58 w' w.heap.size (fun k_ => (P1_0_ k_ ∨ w.heap.size ≤ k_) ∧ k_ ≠ gb299 ∧ k_ ≠ gb308) (.slice Ao53 y320.length co53) y320) ∧ Aside0 (Kd.V k85 85 w' w.heap.size (fun k_ => (P1_0_ k_ ∨ w.heap.size ≤ k_) ∧ some k_ ≠ ((.slice Ao53 y320.length co53) : Value).ownBlock ∧ k_ ≠ gb299 ∧ k_ ≠ gb308) (.slice A1_0 l1_0.length c1_0) l1_0) ∧ Aside0 (Kd.V k85 85 w' w.heap.size (fun k_ => (P1_0_ k_ ∨ w.heap.size ≤ k_) ∧ some k_ ≠ ((.slice Ao53 y320.length co53) : Value).ownBlock ∧ k_ ≠ gb299 ∧ k_ ≠ gb308) (.slice Ao21 t304.length co21) t304) ∧ Aside0 (w'.heap[gb299]? = some (.cells #[(.slice A1_0 l1_0.length c1_0)] 58 (0, 0))) ∧ Aside0 (w'.heap[gb308]? = some (.cells #[(.slice Ao21 t304.length co21)] 58 (0, 0))) ∧ Aside0 (Below w.heap.size w w'))
                case atStart => exact ⟨(0), (by first | rfl | (simp; done) | (simp [*]; done)), H', ⟨Nat.le_refl _⟩, ⟨by (with_reducible repeat (first | apply Kd.N_alloc | apply Kd.N_drewN | apply Kd.N_drew)); exact Kd.N_mono HO322.out (fun _ hk => ⟨hk.1, ⟨hk.2.2.1, hk.2.2.2⟩⟩)⟩, ⟨by (with_reducible repeat (first | apply Kd.V_alloc | apply Kd.V_drewN | apply Kd.V_drew)); exact Kd.V_mono HO_300000.out (fun _ hk => ⟨hk.1.1, ⟨hk.2, ⟨hk.1.2.2.1, hk.1.2.2.2⟩⟩⟩)⟩, ⟨by (with_reducible repeat (first | apply Kd.V_alloc | apply Kd.V_drewN | apply Kd.V_drew)); exact Kd.V_mono HO_309000.out (fun _ hk => ⟨hk.1.1, ⟨hk.2, ⟨hk.1.2.2.1, hk.1.2.2.2⟩⟩⟩)⟩, ⟨by (with_reducible repeat (first|refine zN ?_ _|refine zD ?_|refine zA ?_ _)); exact BK299.out⟩, ⟨by (with_reducible repeat (first|refine zN ?_ _|refine zD ?_|refine zA ?_ _)); exact BK308.out⟩, ⟨by repeat (first | (with_reducible first|exact HB.out|apply zE|apply zB|apply zC | refine zJ ?_ GE299.out | refine zJ ?_ GE308.out) | exact HB.out)⟩⟩
                case round =>
                  clear H'; (try clear c1); (try clear c2); (try clear p2); (try clear c3); (try clear p3); (try clear q3); (try clear hx3); (try clear c4); (try clear p6); (try clear c26); (try clear c26b0); (try clear c27); (try clear c30); (try clear c30b0); (try clear c30b1); (try clear p31); (try clear q31); (try clear hx31); (try clear c34); (try clear c35); (try clear c48); (try clear hcz49_0); (try clear hcz50_0); (try clear hfz49_0); (try clear hfz50_0); (try clear hx312_0); (try clear hx312_1); (try clear hx312_2); (try clear hx313_0); (try clear hx313_1); (try clear hx313_2); (try clear hx316_0); (try clear hx316_1); (try clear hx316_2); (try clear hx317_0); (try clear hx317_1); (try clear hx317_2); (try clear p312); (try clear p313); (try clear p316); (try clear p317); (try clear q312); (try clear q313); (try clear q316); (try clear q317)
                  obtain ⟨x93_3, rfl, HA, HK3, HO_91, HO_300000, HO_309000, BK299, BK308, HB⟩ := hrel
                  cases gk with
                  | zero => exact absurd HA.out (by simp [flagstonelaw13_BucketSubjects.l1])
                  | succ k3 =>
                    have H := HA.out; clear HA
                    simp only [flagstonelaw13_BucketSubjects.l1] at H
                    by_cases c54 : x93_3 < (y320.length : Int)
                    · rw [if_pos c54] at H
                      have c54b0 : decide (x93_3 < (y320.length : Int)) = true := decide_eq_true c54
                      clear c54
                      by_cases c55 : 0 ≤ x93_3
                      · rw [if_pos c55] at H
                        have c55b0 : decide (0 ≤ x93_3) = true := decide_eq_true c55
                        clear c55
                        by_cases c56 : x93_3 < (y320.length : Int)
                        · rw [if_pos c56] at H
                          have c56b0 : decide (x93_3 < (y320.length : Int)) = true := decide_eq_true c56
                          clear c56; replace H := Option.bind_eq_some_iff.mp H
                          obtain ⟨⟨t325, t326⟩, A570, H⟩ := H
                          replace H : ((flagstoneref13_Subject.f k3 ((rd_T58 y320 x93_3).f0) a2 a3 a4).bind fun bt327 => ((bucket_Subject.f k3 ((rd_T58 y320 x93_3).f0) (⟨#[117, 115, 101, 114]⟩ : ByteArray) (⟨#[107, 101, 121]⟩ : ByteArray) a4).bind fun bt329 => ((flagstoneref13_Subject.f k3 ((rd_T58 y320 x93_3).f0) (⟨#[117, 115, 101, 114]⟩ : ByteArray) (⟨#[107, 101, 121]⟩ : ByteArray) a4).bind fun bt331 => (if t325 = bt327.1 then (if (t326 != bt327.2) = true then (some false) else (if bt329.1 = bt331.1 then (if (bt329.2 != bt331.2) = true then (some false) else (flagstonelaw13_BucketSubjects.l1 k3 a2 a3 a4 y320 (y320.length : Int) (wrap64 (x93_3 + 1)))) else (some false))) else (some false))))) = some r := H
                          have A57 := Aside0.mk A570; clear A570; replace H := Option.bind_eq_some_iff.mp H
                          obtain ⟨⟨t327, t328⟩, A580, H⟩ := H
                          replace H : ((bucket_Subject.f k3 ((rd_T58 y320 x93_3).f0) (⟨#[117, 115, 101, 114]⟩ : ByteArray) (⟨#[107, 101, 121]⟩ : ByteArray) a4).bind fun bt329 => ((flagstoneref13_Subject.f k3 ((rd_T58 y320 x93_3).f0) (⟨#[117, 115, 101, 114]⟩ : ByteArray) (⟨#[107, 101, 121]⟩ : ByteArray) a4).bind fun bt331 => (if t325 = t327 then (if (t326 != t328) = true then (some false) else (if bt329.1 = bt331.1 then (if (bt329.2 != bt331.2) = true then (some false) else (flagstonelaw13_BucketSubjects.l1 k3 a2 a3 a4 y320 (y320.length : Int) (wrap64 (x93_3 + 1)))) else (some false))) else (some false)))) = some r := H
                          have A58 := Aside0.mk A580; clear A580; replace H := Option.bind_eq_some_iff.mp H
                          obtain ⟨⟨t329, t330⟩, A590, H⟩ := H
                          replace H : ((flagstoneref13_Subject.f k3 ((rd_T58 y320 x93_3).f0) (⟨#[117, 115, 101, 114]⟩ : ByteArray) (⟨#[107, 101, 121]⟩ : ByteArray) a4).bind fun bt331 => (if t325 = t327 then (if (t326 != t328) = true then (some false) else (if t329 = bt331.1 then (if (t330 != bt331.2) = true then (some false) else (flagstonelaw13_BucketSubjects.l1 k3 a2 a3 a4 y320 (y320.length : Int) (wrap64 (x93_3 + 1)))) else (some false))) else (some false))) = some r := H
                          have A59 := Aside0.mk A590; clear A590; replace H := Option.bind_eq_some_iff.mp H
                          obtain ⟨⟨t331, t332⟩, A600, H⟩ := H
                          replace H : (if t325 = t327 then (if (t326 != t328) = true then (some false) else (if t329 = t331 then (if (t330 != t332) = true then (some false) else (flagstonelaw13_BucketSubjects.l1 k3 a2 a3 a4 y320 (y320.length : Int) (wrap64 (x93_3 + 1)))) else (some false))) else (some false)) = some r := H
                          have A60 := Aside0.mk A600; clear A600
                          by_cases c61 : t325 = t327
                          · rw [if_pos c61] at H
                            have c61b0 : (t325 == t327) = true := beq_iff_eq.mpr c61
                            have c61b1 : (t325 != t327) = false := bne_eq_false_iff_eq.mpr c61
                            clear c61
                            by_cases c62 : (t326 != t328) = true
                            · rw [if_pos c62] at H
                              have c62b0 : (t326 != t328) = true := c62
                              (try (have c62b1 : decide (t326 = t328) = false := by simpa using c62))
                              (try (have c62b2 : (t326 == t328) = false := by simpa using c62))
                              (try (have c62b3 : ¬ (t326 = t328) := by simpa using c62))
                              clear c62
                              obtain rfl := Option.some.inj H
                              have p323 : 0 ≤ (x93_3 : Int) := of_decide_eq_true (by first | (with_reducible assumption) | assumption)
                              have q323 : x93_3 < (y320.length : Int) := of_decide_eq_true (by first | (with_reducible assumption) | assumption)
                              obtain ⟨ad323, A323_0, c323_0, e323, hx323_0, hl323_0, hi323_0⟩ := at_T58 (Kd.N_reads' HO_91.out).2.2 x93_3 p323 q323
                              cases e323
                              obtain ⟨ce323, hce323, hMe323, hcc323⟩ := Kd.N_get HO_91.out z58 x93_3 p323 (by first | exact q323 | exact of_decide_eq_true (by first | (with_reducible assumption) | assumption) | (have e_ := (Kd.N_reads' HO_91.out).1; omega))
                              obtain ⟨ua323_0, uc323_0, rfl, ul323_0, ge323_0⟩ := k58_openF hMe323
                              have hv323_0 := hcc323 0 _ rfl
                              rw [Nat.add_zero, show (k58).sz = 1 from rfl, Nat.mul_one] at hv323_0
                              replace hv323_0 := Option.some.inj (hv323_0.symm.trans hx323_0)
                              injection hv323_0 with hva_ hvn_ hvc_
                              rw [hva_] at ge323_0
                              rw [hvc_] at ul323_0
                              have HL323_0 := Aside0.mk (show Kd.V k85 85 _ w.heap.size _ _ ((rd_T58 y320 x93_3).f0) from Kd.V_mk ul323_0 ge323_0)
                              clear hva_ hvn_ hvc_ ge323_0 ul323_0 hcc323 hce323; have HR323_0 := Aside0.mk hi323_0; have HC323_0 := Aside0.mk hl323_0; clear hi323_0 hl323_0
                              replace p323 := eq_true p323
                              replace q323 := eq_true q323
                              go_wp2_with (first | ((with_reducible refine gate_dst (N := 19) rfl ?_); (try (refine gate_guard (by rfl) ?_; dsimp only)); refine box_event ?hg (N := 19) ?hd (cs := #[.slice none 0 0]) (t := 58) ?hr ?_; (case hd => rfl); (case hg => rfl); (case hr => first | (go_simp; done) | (go_simp; rfl)); intro gb324 hg w63 hbox hb; have n0_ := Aside0.mk (Kd.N_below (Kd.N_elderB (by (with_reducible repeat (first | apply Kd.N_alloc | apply Kd.N_drewN | apply Kd.N_drew)); exact HO_91.out) gb324 (Nat.le_of_eq hg.symm)) hb); have n1_ := Aside0.mk (Kd.V_below (Kd.V_elderB (by (with_reducible repeat (first | apply Kd.V_alloc | apply Kd.V_drewN | apply Kd.V_drew)); exact HO_300000.out) gb324 (Nat.le_of_eq hg.symm)) hb); have n2_ := Aside0.mk (Kd.V_below (Kd.V_elderB (by (with_reducible repeat (first | apply Kd.V_alloc | apply Kd.V_drewN | apply Kd.V_drew)); exact HO_309000.out) gb324 (Nat.le_of_eq hg.symm)) hb); have n3_ := Aside0.mk (Kd.V_below (Kd.V_elderB (by (with_reducible repeat (first | apply Kd.V_alloc | apply Kd.V_drewN | apply Kd.V_drew)); exact HL323_0.out) gb324 (Nat.le_of_eq hg.symm)) hb); have n4_ := Aside0.mk (blk_below (g := gb299) (o := .cells #[.slice A1_0 l1_0.length c1_0] 58 (0, 0)) (by (with_reducible repeat (first|refine zN ?_ _|refine zD ?_|refine zA ?_ _)); exact BK299.out) hb); have n5_ := Aside0.mk (blk_below (g := gb308) (o := .cells #[.slice Ao21 t304.length co21] 58 (0, 0)) (by (with_reducible repeat (first|refine zN ?_ _|refine zD ?_|refine zA ?_ _)); exact BK308.out) hb); have n6_ := Aside0.mk (Kd.C_below (by repeat (first | (with_reducible exact HR323_0.out) | (with_reducible refine Kd.C_alloc ?_ _) | (with_reducible refine Kd.C_drewN ?_ _) | (with_reducible refine Kd.C_drew ?_) | exact HR323_0.out)) hb); have n7_ := Aside0.mk (below_step (by repeat (first | (with_reducible first|exact HB.out|apply zE|apply zB|apply zC | refine zJ ?_ GE299.out | refine zJ ?_ GE308.out) | exact HB.out)) hb); have n8_ := Aside0.mk (hbox); have n9_ := Aside0.mk ((by rw [hg]; exact (below_size (by repeat (first | (with_reducible first|exact HB.out|apply zE|apply zB|apply zC | refine zJ ?_ GE299.out | refine zJ ?_ GE308.out) | exact HB.out))) : w.heap.size ≤ gb324)); have n10_ := Aside0.mk ((by rw [hg]; exact (below_size (by repeat (first | (with_reducible first|exact HB.out|apply zE|apply zB|apply zC | refine zJ ?_ GE299.out | refine zJ ?_ GE308.out) | exact HB.out))) : w.heap.size ≤ gb324)); have n11_ := Aside0.mk ((by rw [hg]; exact Nat.ne_of_lt (blk_lt (g := gb299) (o := .cells #[.slice A1_0 l1_0.length c1_0] 58 (0, 0)) (by (with_reducible repeat (first|refine zN ?_ _|refine zD ?_|refine zA ?_ _)); exact BK299.out)) : gb299 ≠ gb324)); have n12_ := Aside0.mk ((by rw [hg]; exact Nat.ne_of_gt (blk_lt (g := gb299) (o := .cells #[.slice A1_0 l1_0.length c1_0] 58 (0, 0)) (by (with_reducible repeat (first|refine zN ?_ _|refine zD ?_|refine zA ?_ _)); exact BK299.out)) : gb324 ≠ gb299)); have n13_ := Aside0.mk ((by rw [hg]; exact Nat.ne_of_lt (blk_lt (g := gb308) (o := .cells #[.slice Ao21 t304.length co21] 58 (0, 0)) (by (with_reducible repeat (first|refine zN ?_ _|refine zD ?_|refine zA ?_ _)); exact BK308.out)) : gb308 ≠ gb324)); have n14_ := Aside0.mk ((by rw [hg]; exact Nat.ne_of_gt (blk_lt (g := gb308) (o := .cells #[.slice Ao21 t304.length co21] 58 (0, 0)) (by (with_reducible repeat (first|refine zN ?_ _|refine zD ?_|refine zA ?_ _)); exact BK308.out)) : gb324 ≠ gb308)); clear HO_91 HO_300000 HO_309000 HL323_0 BK299 BK308 HR323_0 HB; have HO_91 := n0_; have HO_300000 := n1_; have HO_309000 := n2_; have HL323_0 := n3_; have BK299 := n4_; have BK308 := n5_; have HR323_0 := n6_; have HB := n7_; have BK324 := n8_; have GW324 := n9_; have GE324 := n10_; have NB299_324 := n11_; have NB324_299 := n12_; have NB308_324 := n13_; have NB324_308 := n14_; clear n0_ n1_ n2_ n3_ n4_ n5_ n6_ n7_ n8_ n9_ n10_ n11_ n12_ n13_ n14_ hb hbox hg; have hnb64 := NB324_299.out; have hnc64 := NB299_324.out; have hnb65 := NB324_308.out; have hnc65 := NB308_324.out; have hcz66_0 : w63.cell? ⟨gb324, 0, none⟩ = some (.slice none 0 0) := (blk_cell BK324.out 0).trans rfl; have hfz66_0 := blk_frozen BK324.out 0) | ((with_reducible refine gate_callee (f := 34) rfl ?_); refine goesL_ (some 102) rfl rfl Tryd.func34 (by kernel_rfl) rfl #[.agg #[.slice A323_0 ((rd_T58 y320 x93_3).f0).length c323_0], .string a2, .string a3, .string a4] rfl (by (try simp only [List.map_toArray, List.map_cons, List.map_nil]); first | done | rfl | (simp only [List.length_drop, List.length_take]; rfl)) ?_; (with_reducible refine (bucket_Subject.calls k3 _ _ ((rd_T58 y320 x93_3).f0) a2 a3 a4 t325 t326 _ ?side1 ?side2 ?side3 A57.out).mono ?_); (case side1 => repeat (first | exact ((Kd.V_reads' (by (with_reducible repeat (first | apply Kd.V_alloc | apply Kd.V_drewN | apply Kd.V_drew)); exact (Kd.V_mono (Kd.V_far (p := ⟨gb324, 0, none⟩) (Kd.V_mono HL323_0.out (fun k_ hk => (⟨hk, hk.2⟩ : _ ∧ k_ ≠ gb324))) (fun _ hk => hk.2) (.slice A323_0 ((rd_T58 y320 x93_3).f0).length c323_0)) (fun _ h_ => h_.1)))).2.2) | (with_reducible refine Kd.C_alloc ?_ _) | (with_reducible refine Kd.C_drewN ?_ _) | (with_reducible refine Kd.C_drew ?_))); (case side2 => exact HC323_0.out); (case side3 => exact GL.below HGL.out (by repeat (first | (with_reducible first|exact HB.out|apply zE|apply zB|apply zC | refine zJ ?_ GE299.out | refine zJ ?_ GE308.out | refine zJ ?_ GE324.out) | exact HB.out))); rintro e w67 ⟨rfl, hb⟩; refine ⟨_, rfl, ?_⟩; have n0_ := Aside0.mk (Kd.N_below (by (with_reducible repeat (first | apply Kd.N_alloc | apply Kd.N_drewN | apply Kd.N_drew)); exact (Kd.N_mono (Kd.N_far (p := ⟨gb324, 0, none⟩) (Kd.N_mono HO_91.out (fun k_ hk => (⟨hk, hk.2⟩ : _ ∧ k_ ≠ gb324))) (fun _ hk => hk.2) (.slice A323_0 ((rd_T58 y320 x93_3).f0).length c323_0)) (fun _ h_ => h_.1))) hb); have n1_ := Aside0.mk (Kd.V_below (by (with_reducible repeat (first | apply Kd.V_alloc | apply Kd.V_drewN | apply Kd.V_drew)); exact (Kd.V_mono (Kd.V_far (p := ⟨gb324, 0, none⟩) (Kd.V_mono HO_300000.out (fun k_ hk => (⟨hk, hk.2⟩ : _ ∧ k_ ≠ gb324))) (fun _ hk => hk.2) (.slice A323_0 ((rd_T58 y320 x93_3).f0).length c323_0)) (fun _ h_ => h_.1))) hb); have n2_ := Aside0.mk (Kd.V_below (by (with_reducible repeat (first | apply Kd.V_alloc | apply Kd.V_drewN | apply Kd.V_drew)); exact (Kd.V_mono (Kd.V_far (p := ⟨gb324, 0, none⟩) (Kd.V_mono HO_309000.out (fun k_ hk => (⟨hk, hk.2⟩ : _ ∧ k_ ≠ gb324))) (fun _ hk => hk.2) (.slice A323_0 ((rd_T58 y320 x93_3).f0).length c323_0)) (fun _ h_ => h_.1))) hb); have n3_ := Aside0.mk (Kd.V_below (by (with_reducible repeat (first | apply Kd.V_alloc | apply Kd.V_drewN | apply Kd.V_drew)); exact (Kd.V_mono (Kd.V_far (p := ⟨gb324, 0, none⟩) (Kd.V_mono HL323_0.out (fun k_ hk => (⟨hk, hk.2⟩ : _ ∧ k_ ≠ gb324))) (fun _ hk => hk.2) (.slice A323_0 ((rd_T58 y320 x93_3).f0).length c323_0)) (fun _ h_ => h_.1))) hb); have n4_ := Aside0.mk (blk_below (g := gb299) (o := .cells #[.slice A1_0 l1_0.length c1_0] 58 (0, 0)) (by (with_reducible repeat (first|refine zN ?_ _|refine zD ?_|refine zA ?_ _)); refine blk_far ?_ NB299_324.out _; (with_reducible repeat (first|refine zN ?_ _|refine zD ?_|refine zA ?_ _)); exact BK299.out) hb); have n5_ := Aside0.mk (blk_below (g := gb308) (o := .cells #[.slice Ao21 t304.length co21] 58 (0, 0)) (by (with_reducible repeat (first|refine zN ?_ _|refine zD ?_|refine zA ?_ _)); refine blk_far ?_ NB308_324.out _; (with_reducible repeat (first|refine zN ?_ _|refine zD ?_|refine zA ?_ _)); exact BK308.out) hb); have n6_ := Aside0.mk (Kd.C_below ((Kd.V_reads' (by (with_reducible repeat (first | apply Kd.V_alloc | apply Kd.V_drewN | apply Kd.V_drew)); exact (Kd.V_mono (Kd.V_far (p := ⟨gb324, 0, none⟩) (Kd.V_mono HL323_0.out (fun k_ hk => (⟨hk, hk.2⟩ : _ ∧ k_ ≠ gb324))) (fun _ hk => hk.2) (.slice A323_0 ((rd_T58 y320 x93_3).f0).length c323_0)) (fun _ h_ => h_.1)))).2.2) hb); have n7_ := Aside0.mk (blk_below (g := gb324) (o := .cells #[.slice A323_0 ((rd_T58 y320 x93_3).f0).length c323_0] 58 (0, 0)) (by (with_reducible repeat (first|refine zN ?_ _|refine zD ?_|refine zA ?_ _)); refine blk_put (cs := #[.slice none 0 0]) ?_ 0 _ rfl; (with_reducible repeat (first|refine zN ?_ _|refine zD ?_|refine zA ?_ _)); exact BK324.out) hb); have n8_ := Aside0.mk (below_step (by repeat (first | (with_reducible first|exact HB.out|apply zE|apply zB|apply zC | refine zJ ?_ GE299.out | refine zJ ?_ GE308.out | refine zJ ?_ GE324.out) | exact HB.out)) hb); clear HO_91 HO_300000 HO_309000 HL323_0 BK299 BK308 HR323_0 BK324 HB; have HO_91 := n0_; have HO_300000 := n1_; have HO_309000 := n2_; have HL323_0 := n3_; have BK299 := n4_; have BK308 := n5_; have HR323_0 := n6_; have BK324 := n7_; have HB := n8_; clear n0_ n1_ n2_ n3_ n4_ n5_ n6_ n7_ n8_; (try clear hb); (try clear hb2); (try clear hk); (try clear hi); (try clear hge); have hcz68_0 : w67.cell? ⟨gb324, 0, none⟩ = some (.slice A323_0 ((rd_T58 y320 x93_3).f0).length c323_0) := (blk_cell BK324.out 0).trans rfl; have hfz68_0 := blk_frozen BK324.out 0) | ((with_reducible refine gate_callee (f := 35) rfl ?_); refine goesL_ (some 110) rfl rfl Tryd.func35 (by kernel_rfl) rfl #[.agg #[.slice A323_0 ((rd_T58 y320 x93_3).f0).length c323_0], .string a2, .string a3, .string a4] rfl (by (try simp only [List.map_toArray, List.map_cons, List.map_nil]); first | done | rfl | (simp only [List.length_drop, List.length_take]; rfl)) ?_; (with_reducible refine (flagstoneref13_Subject.calls k3 _ _ ((rd_T58 y320 x93_3).f0) a2 a3 a4 t327 t328 _ ?side1 ?side2 A58.out).mono ?_); (case side1 => repeat (first | exact (by repeat (first | (with_reducible exact HR323_0.out) | (with_reducible refine Kd.C_alloc ?_ _) | (with_reducible refine Kd.C_drewN ?_ _) | (with_reducible refine Kd.C_drew ?_) | exact HR323_0.out)) | (with_reducible refine Kd.C_alloc ?_ _) | (with_reducible refine Kd.C_drewN ?_ _) | (with_reducible refine Kd.C_drew ?_))); (case side2 => exact HC323_0.out); rintro e w69 ⟨rfl, hb⟩; refine ⟨_, rfl, ?_⟩; have n0_ := Aside0.mk (Kd.N_below (by (with_reducible repeat (first | apply Kd.N_alloc | apply Kd.N_drewN | apply Kd.N_drew)); exact HO_91.out) hb); have n1_ := Aside0.mk (Kd.V_below (by (with_reducible repeat (first | apply Kd.V_alloc | apply Kd.V_drewN | apply Kd.V_drew)); exact HO_300000.out) hb); have n2_ := Aside0.mk (Kd.V_below (by (with_reducible repeat (first | apply Kd.V_alloc | apply Kd.V_drewN | apply Kd.V_drew)); exact HO_309000.out) hb); have n3_ := Aside0.mk (Kd.V_below (by (with_reducible repeat (first | apply Kd.V_alloc | apply Kd.V_drewN | apply Kd.V_drew)); exact HL323_0.out) hb); have n4_ := Aside0.mk (blk_below (g := gb299) (o := .cells #[.slice A1_0 l1_0.length c1_0] 58 (0, 0)) (by (with_reducible repeat (first|refine zN ?_ _|refine zD ?_|refine zA ?_ _)); exact BK299.out) hb); have n5_ := Aside0.mk (blk_below (g := gb308) (o := .cells #[.slice Ao21 t304.length co21] 58 (0, 0)) (by (with_reducible repeat (first|refine zN ?_ _|refine zD ?_|refine zA ?_ _)); exact BK308.out) hb); have n6_ := Aside0.mk (Kd.C_below (by repeat (first | (with_reducible exact HR323_0.out) | (with_reducible refine Kd.C_alloc ?_ _) | (with_reducible refine Kd.C_drewN ?_ _) | (with_reducible refine Kd.C_drew ?_) | exact HR323_0.out)) hb); have n7_ := Aside0.mk (blk_below (g := gb324) (o := .cells #[.slice A323_0 ((rd_T58 y320 x93_3).f0).length c323_0] 58 (0, 0)) (by (with_reducible repeat (first|refine zN ?_ _|refine zD ?_|refine zA ?_ _)); exact BK324.out) hb); have n8_ := Aside0.mk (below_step (by repeat (first | (with_reducible first|exact HB.out|apply zE|apply zB|apply zC | refine zJ ?_ GE299.out | refine zJ ?_ GE308.out | refine zJ ?_ GE324.out) | exact HB.out)) hb); clear HO_91 HO_300000 HO_309000 HL323_0 BK299 BK308 HR323_0 BK324 HB; have HO_91 := n0_; have HO_300000 := n1_; have HO_309000 := n2_; have HL323_0 := n3_; have BK299 := n4_; have BK308 := n5_; have HR323_0 := n6_; have BK324 := n7_; have HB := n8_; clear n0_ n1_ n2_ n3_ n4_ n5_ n6_ n7_ n8_; (try clear hb); (try clear hb2); (try clear hk); (try clear hi); (try clear hge); have hcz70_0 : w69.cell? ⟨gb324, 0, none⟩ = some (.slice A323_0 ((rd_T58 y320 x93_3).f0).length c323_0) := (blk_cell BK324.out 0).trans rfl; have hfz70_0 := blk_frozen BK324.out 0) | ((with_reducible refine gate_callee (f := 34) rfl ?_); refine goesL_ (some 116) rfl rfl Tryd.func34 (by kernel_rfl) rfl #[.agg #[.slice A323_0 ((rd_T58 y320 x93_3).f0).length c323_0], .string (⟨#[117, 115, 101, 114]⟩ : ByteArray), .string (⟨#[107, 101, 121]⟩ : ByteArray), .string a4] rfl (by (try simp only [List.map_toArray, List.map_cons, List.map_nil]); first | done | rfl | (simp only [List.length_drop, List.length_take]; rfl)) ?_; (with_reducible refine (bucket_Subject.calls k3 _ _ ((rd_T58 y320 x93_3).f0) (⟨#[117, 115, 101, 114]⟩ : ByteArray) (⟨#[107, 101, 121]⟩ : ByteArray) a4 t329 t330 _ ?side1 ?side2 ?side3 A59.out).mono ?_); (case side1 => repeat (first | exact (by repeat (first | (with_reducible exact HR323_0.out) | (with_reducible refine Kd.C_alloc ?_ _) | (with_reducible refine Kd.C_drewN ?_ _) | (with_reducible refine Kd.C_drew ?_) | exact HR323_0.out)) | (with_reducible refine Kd.C_alloc ?_ _) | (with_reducible refine Kd.C_drewN ?_ _) | (with_reducible refine Kd.C_drew ?_))); (case side2 => exact HC323_0.out); (case side3 => exact GL.below HGL.out (by repeat (first | (with_reducible first|exact HB.out|apply zE|apply zB|apply zC | refine zJ ?_ GE299.out | refine zJ ?_ GE308.out | refine zJ ?_ GE324.out) | exact HB.out))); rintro e w71 ⟨rfl, hb⟩; refine ⟨_, rfl, ?_⟩; have n0_ := Aside0.mk (Kd.N_below (by (with_reducible repeat (first | apply Kd.N_alloc | apply Kd.N_drewN | apply Kd.N_drew)); exact HO_91.out) hb); have n1_ := Aside0.mk (Kd.V_below (by (with_reducible repeat (first | apply Kd.V_alloc | apply Kd.V_drewN | apply Kd.V_drew)); exact HO_300000.out) hb); have n2_ := Aside0.mk (Kd.V_below (by (with_reducible repeat (first | apply Kd.V_alloc | apply Kd.V_drewN | apply Kd.V_drew)); exact HO_309000.out) hb); have n3_ := Aside0.mk (Kd.V_below (by (with_reducible repeat (first | apply Kd.V_alloc | apply Kd.V_drewN | apply Kd.V_drew)); exact HL323_0.out) hb); have n4_ := Aside0.mk (blk_below (g := gb299) (o := .cells #[.slice A1_0 l1_0.length c1_0] 58 (0, 0)) (by (with_reducible repeat (first|refine zN ?_ _|refine zD ?_|refine zA ?_ _)); exact BK299.out) hb); have n5_ := Aside0.mk (blk_below (g := gb308) (o := .cells #[.slice Ao21 t304.length co21] 58 (0, 0)) (by (with_reducible repeat (first|refine zN ?_ _|refine zD ?_|refine zA ?_ _)); exact BK308.out) hb); have n6_ := Aside0.mk (Kd.C_below (by repeat (first | (with_reducible exact HR323_0.out) | (with_reducible refine Kd.C_alloc ?_ _) | (with_reducible refine Kd.C_drewN ?_ _) | (with_reducible refine Kd.C_drew ?_) | exact HR323_0.out)) hb); have n7_ := Aside0.mk (blk_below (g := gb324) (o := .cells #[.slice A323_0 ((rd_T58 y320 x93_3).f0).length c323_0] 58 (0, 0)) (by (with_reducible repeat (first|refine zN ?_ _|refine zD ?_|refine zA ?_ _)); exact BK324.out) hb); have n8_ := Aside0.mk (below_step (by repeat (first | (with_reducible first|exact HB.out|apply zE|apply zB|apply zC | refine zJ ?_ GE299.out | refine zJ ?_ GE308.out | refine zJ ?_ GE324.out) | exact HB.out)) hb); clear HO_91 HO_300000 HO_309000 HL323_0 BK299 BK308 HR323_0 BK324 HB; have HO_91 := n0_; have HO_300000 := n1_; have HO_309000 := n2_; have HL323_0 := n3_; have BK299 := n4_; have BK308 := n5_; have HR323_0 := n6_; have BK324 := n7_; have HB := n8_; clear n0_ n1_ n2_ n3_ n4_ n5_ n6_ n7_ n8_; (try clear hb); (try clear hb2); (try clear hk); (try clear hi); (try clear hge); have hcz72_0 : w71.cell? ⟨gb324, 0, none⟩ = some (.slice A323_0 ((rd_T58 y320 x93_3).f0).length c323_0) := (blk_cell BK324.out 0).trans rfl; have hfz72_0 := blk_frozen BK324.out 0) | ((with_reducible refine gate_callee (f := 35) rfl ?_); refine goesL_ (some 122) rfl rfl Tryd.func35 (by kernel_rfl) rfl #[.agg #[.slice A323_0 ((rd_T58 y320 x93_3).f0).length c323_0], .string (⟨#[117, 115, 101, 114]⟩ : ByteArray), .string (⟨#[107, 101, 121]⟩ : ByteArray), .string a4] rfl (by (try simp only [List.map_toArray, List.map_cons, List.map_nil]); first | done | rfl | (simp only [List.length_drop, List.length_take]; rfl)) ?_; (with_reducible refine (flagstoneref13_Subject.calls k3 _ _ ((rd_T58 y320 x93_3).f0) (⟨#[117, 115, 101, 114]⟩ : ByteArray) (⟨#[107, 101, 121]⟩ : ByteArray) a4 t331 t332 _ ?side1 ?side2 A60.out).mono ?_); (case side1 => repeat (first | exact (by repeat (first | (with_reducible exact HR323_0.out) | (with_reducible refine Kd.C_alloc ?_ _) | (with_reducible refine Kd.C_drewN ?_ _) | (with_reducible refine Kd.C_drew ?_) | exact HR323_0.out)) | (with_reducible refine Kd.C_alloc ?_ _) | (with_reducible refine Kd.C_drewN ?_ _) | (with_reducible refine Kd.C_drew ?_))); (case side2 => exact HC323_0.out); rintro e w73 ⟨rfl, hb⟩; refine ⟨_, rfl, ?_⟩; have n0_ := Aside0.mk (Kd.N_below (by (with_reducible repeat (first | apply Kd.N_alloc | apply Kd.N_drewN | apply Kd.N_drew)); exact HO_91.out) hb); have n1_ := Aside0.mk (Kd.V_below (by (with_reducible repeat (first | apply Kd.V_alloc | apply Kd.V_drewN | apply Kd.V_drew)); exact HO_300000.out) hb); have n2_ := Aside0.mk (Kd.V_below (by (with_reducible repeat (first | apply Kd.V_alloc | apply Kd.V_drewN | apply Kd.V_drew)); exact HO_309000.out) hb); have n3_ := Aside0.mk (Kd.V_below (by (with_reducible repeat (first | apply Kd.V_alloc | apply Kd.V_drewN | apply Kd.V_drew)); exact HL323_0.out) hb); have n4_ := Aside0.mk (blk_below (g := gb299) (o := .cells #[.slice A1_0 l1_0.length c1_0] 58 (0, 0)) (by (with_reducible repeat (first|refine zN ?_ _|refine zD ?_|refine zA ?_ _)); exact BK299.out) hb); have n5_ := Aside0.mk (blk_below (g := gb308) (o := .cells #[.slice Ao21 t304.length co21] 58 (0, 0)) (by (with_reducible repeat (first|refine zN ?_ _|refine zD ?_|refine zA ?_ _)); exact BK308.out) hb); have n6_ := Aside0.mk (Kd.C_below (by repeat (first | (with_reducible exact HR323_0.out) | (with_reducible refine Kd.C_alloc ?_ _) | (with_reducible refine Kd.C_drewN ?_ _) | (with_reducible refine Kd.C_drew ?_) | exact HR323_0.out)) hb); have n7_ := Aside0.mk (blk_below (g := gb324) (o := .cells #[.slice A323_0 ((rd_T58 y320 x93_3).f0).length c323_0] 58 (0, 0)) (by (with_reducible repeat (first|refine zN ?_ _|refine zD ?_|refine zA ?_ _)); exact BK324.out) hb); have n8_ := Aside0.mk (below_step (by repeat (first | (with_reducible first|exact HB.out|apply zE|apply zB|apply zC | refine zJ ?_ GE299.out | refine zJ ?_ GE308.out | refine zJ ?_ GE324.out) | exact HB.out)) hb); clear HO_91 HO_300000 HO_309000 HL323_0 BK299 BK308 HR323_0 BK324 HB; have HO_91 := n0_; have HO_300000 := n1_; have HO_309000 := n2_; have HL323_0 := n3_; have BK299 := n4_; have BK308 := n5_; have HR323_0 := n6_; have BK324 := n7_; have HB := n8_; clear n0_ n1_ n2_ n3_ n4_ n5_ n6_ n7_ n8_; (try clear hb); (try clear hb2); (try clear hk); (try clear hi); (try clear hge)))
                              go_ret
                              exact ⟨by first | rfl | (simp [errW_none, errW_some] <;> rfl) | (simp [*, errW_none, errW_some] <;> rfl), by repeat (first | (with_reducible first|exact HB.out|apply zE|apply zB|apply zC | refine zJ ?_ GE299.out | refine zJ ?_ GE308.out | refine zJ ?_ GE324.out) | exact HB.out)⟩
                            · rw [if_neg c62] at H
                              have c62b0 : (t326 != t328) = false := by simpa using c62
                              (try (have c62b1 : decide (t326 = t328) = true := by simpa using c62))
                              (try (have c62b2 : (t326 == t328) = true := by simpa using c62))
                              clear c62
                              by_cases c74 : t329 = t331
                              · rw [if_pos c74] at H
                                have c74b0 : (t329 == t331) = true := beq_iff_eq.mpr c74
                                have c74b1 : (t329 != t331) = false := bne_eq_false_iff_eq.mpr c74
                                clear c74
                                by_cases c75 : (t330 != t332) = true
                                · rw [if_pos c75] at H
                                  have c75b0 : (t330 != t332) = true := c75
                                  (try (have c75b1 : decide (t330 = t332) = false := by simpa using c75))
                                  (try (have c75b2 : (t330 == t332) = false := by simpa using c75))
                                  (try (have c75b3 : ¬ (t330 = t332) := by simpa using c75))
                                  clear c75
                                  obtain rfl := Option.some.inj H
                                  have p323 : 0 ≤ (x93_3 : Int) := of_decide_eq_true (by first | (with_reducible assumption) | assumption)
                                  have q323 : x93_3 < (y320.length : Int) := of_decide_eq_true (by first | (with_reducible assumption) | assumption)
                                  obtain ⟨ad323, A323_0, c323_0, e323, hx323_0, hl323_0, hi323_0⟩ := at_T58 (Kd.N_reads' HO_91.out).2.2 x93_3 p323 q323
                                  cases e323
                                  obtain ⟨ce323, hce323, hMe323, hcc323⟩ := Kd.N_get HO_91.out z58 x93_3 p323 (by first | exact q323 | exact of_decide_eq_true (by first | (with_reducible assumption) | assumption) | (have e_ := (Kd.N_reads' HO_91.out).1; omega))
                                  obtain ⟨ua323_0, uc323_0, rfl, ul323_0, ge323_0⟩ := k58_openF hMe323
                                  have hv323_0 := hcc323 0 _ rfl
                                  rw [Nat.add_zero, show (k58).sz = 1 from rfl, Nat.mul_one] at hv323_0
                                  replace hv323_0 := Option.some.inj (hv323_0.symm.trans hx323_0)
                                  injection hv323_0 with hva_ hvn_ hvc_
                                  rw [hva_] at ge323_0
                                  rw [hvc_] at ul323_0
                                  have HL323_0 := Aside0.mk (show Kd.V k85 85 _ w.heap.size _ _ ((rd_T58 y320 x93_3).f0) from Kd.V_mk ul323_0 ge323_0)
                                  clear hva_ hvn_ hvc_ ge323_0 ul323_0 hcc323 hce323; have HR323_0 := Aside0.mk hi323_0; have HC323_0 := Aside0.mk hl323_0; clear hi323_0 hl323_0
                                  replace p323 := eq_true p323
                                  replace q323 := eq_true q323
                                  go_wp2_with (first | ((with_reducible refine gate_dst (N := 19) rfl ?_); (try (refine gate_guard (by rfl) ?_; dsimp only)); refine box_event ?hg (N := 19) ?hd (cs := #[.slice none 0 0]) (t := 58) ?hr ?_; (case hd => rfl); (case hg => rfl); (case hr => first | (go_simp; done) | (go_simp; rfl)); intro gb324 hg w76 hbox hb; have n0_ := Aside0.mk (Kd.N_below (Kd.N_elderB (by (with_reducible repeat (first | apply Kd.N_alloc | apply Kd.N_drewN | apply Kd.N_drew)); exact HO_91.out) gb324 (Nat.le_of_eq hg.symm)) hb); have n1_ := Aside0.mk (Kd.V_below (Kd.V_elderB (by (with_reducible repeat (first | apply Kd.V_alloc | apply Kd.V_drewN | apply Kd.V_drew)); exact HO_300000.out) gb324 (Nat.le_of_eq hg.symm)) hb); have n2_ := Aside0.mk (Kd.V_below (Kd.V_elderB (by (with_reducible repeat (first | apply Kd.V_alloc | apply Kd.V_drewN | apply Kd.V_drew)); exact HO_309000.out) gb324 (Nat.le_of_eq hg.symm)) hb); have n3_ := Aside0.mk (Kd.V_below (Kd.V_elderB (by (with_reducible repeat (first | apply Kd.V_alloc | apply Kd.V_drewN | apply Kd.V_drew)); exact HL323_0.out) gb324 (Nat.le_of_eq hg.symm)) hb); have n4_ := Aside0.mk (blk_below (g := gb299) (o := .cells #[.slice A1_0 l1_0.length c1_0] 58 (0, 0)) (by (with_reducible repeat (first|refine zN ?_ _|refine zD ?_|refine zA ?_ _)); exact BK299.out) hb); have n5_ := Aside0.mk (blk_below (g := gb308) (o := .cells #[.slice Ao21 t304.length co21] 58 (0, 0)) (by (with_reducible repeat (first|refine zN ?_ _|refine zD ?_|refine zA ?_ _)); exact BK308.out) hb); have n6_ := Aside0.mk (Kd.C_below (by repeat (first | (with_reducible exact HR323_0.out) | (with_reducible refine Kd.C_alloc ?_ _) | (with_reducible refine Kd.C_drewN ?_ _) | (with_reducible refine Kd.C_drew ?_) | exact HR323_0.out)) hb); have n7_ := Aside0.mk (below_step (by repeat (first | (with_reducible first|exact HB.out|apply zE|apply zB|apply zC | refine zJ ?_ GE299.out | refine zJ ?_ GE308.out) | exact HB.out)) hb); have n8_ := Aside0.mk (hbox); have n9_ := Aside0.mk ((by rw [hg]; exact (below_size (by repeat (first | (with_reducible first|exact HB.out|apply zE|apply zB|apply zC | refine zJ ?_ GE299.out | refine zJ ?_ GE308.out) | exact HB.out))) : w.heap.size ≤ gb324)); have n10_ := Aside0.mk ((by rw [hg]; exact (below_size (by repeat (first | (with_reducible first|exact HB.out|apply zE|apply zB|apply zC | refine zJ ?_ GE299.out | refine zJ ?_ GE308.out) | exact HB.out))) : w.heap.size ≤ gb324)); have n11_ := Aside0.mk ((by rw [hg]; exact Nat.ne_of_lt (blk_lt (g := gb299) (o := .cells #[.slice A1_0 l1_0.length c1_0] 58 (0, 0)) (by (with_reducible repeat (first|refine zN ?_ _|refine zD ?_|refine zA ?_ _)); exact BK299.out)) : gb299 ≠ gb324)); have n12_ := Aside0.mk ((by rw [hg]; exact Nat.ne_of_gt (blk_lt (g := gb299) (o := .cells #[.slice A1_0 l1_0.length c1_0] 58 (0, 0)) (by (with_reducible repeat (first|refine zN ?_ _|refine zD ?_|refine zA ?_ _)); exact BK299.out)) : gb324 ≠ gb299)); have n13_ := Aside0.mk ((by rw [hg]; exact Nat.ne_of_lt (blk_lt (g := gb308) (o := .cells #[.slice Ao21 t304.length co21] 58 (0, 0)) (by (with_reducible repeat (first|refine zN ?_ _|refine zD ?_|refine zA ?_ _)); exact BK308.out)) : gb308 ≠ gb324)); have n14_ := Aside0.mk ((by rw [hg]; exact Nat.ne_of_gt (blk_lt (g := gb308) (o := .cells #[.slice Ao21 t304.length co21] 58 (0, 0)) (by (with_reducible repeat (first|refine zN ?_ _|refine zD ?_|refine zA ?_ _)); exact BK308.out)) : gb324 ≠ gb308)); clear HO_91 HO_300000 HO_309000 HL323_0 BK299 BK308 HR323_0 HB; have HO_91 := n0_; have HO_300000 := n1_; have HO_309000 := n2_; have HL323_0 := n3_; have BK299 := n4_; have BK308 := n5_; have HR323_0 := n6_; have HB := n7_; have BK324 := n8_; have GW324 := n9_; have GE324 := n10_; have NB299_324 := n11_; have NB324_299 := n12_; have NB308_324 := n13_; have NB324_308 := n14_; clear n0_ n1_ n2_ n3_ n4_ n5_ n6_ n7_ n8_ n9_ n10_ n11_ n12_ n13_ n14_ hb hbox hg; have hnb77 := NB324_299.out; have hnc77 := NB299_324.out; have hnb78 := NB324_308.out; have hnc78 := NB308_324.out; have hcz79_0 : w76.cell? ⟨gb324, 0, none⟩ = some (.slice none 0 0) := (blk_cell BK324.out 0).trans rfl; have hfz79_0 := blk_frozen BK324.out 0) | ((with_reducible refine gate_callee (f := 34) rfl ?_); refine goesL_ (some 102) rfl rfl Tryd.func34 (by kernel_rfl) rfl #[.agg #[.slice A323_0 ((rd_T58 y320 x93_3).f0).length c323_0], .string a2, .string a3, .string a4] rfl (by (try simp only [List.map_toArray, List.map_cons, List.map_nil]); first | done | rfl | (simp only [List.length_drop, List.length_take]; rfl)) ?_; (with_reducible refine (bucket_Subject.calls k3 _ _ ((rd_T58 y320 x93_3).f0) a2 a3 a4 t325 t326 _ ?side1 ?side2 ?side3 A57.out).mono ?_); (case side1 => repeat (first | exact ((Kd.V_reads' (by (with_reducible repeat (first | apply Kd.V_alloc | apply Kd.V_drewN | apply Kd.V_drew)); exact (Kd.V_mono (Kd.V_far (p := ⟨gb324, 0, none⟩) (Kd.V_mono HL323_0.out (fun k_ hk => (⟨hk, hk.2⟩ : _ ∧ k_ ≠ gb324))) (fun _ hk => hk.2) (.slice A323_0 ((rd_T58 y320 x93_3).f0).length c323_0)) (fun _ h_ => h_.1)))).2.2) | (with_reducible refine Kd.C_alloc ?_ _) | (with_reducible refine Kd.C_drewN ?_ _) | (with_reducible refine Kd.C_drew ?_))); (case side2 => exact HC323_0.out); (case side3 => exact GL.below HGL.out (by repeat (first | (with_reducible first|exact HB.out|apply zE|apply zB|apply zC | refine zJ ?_ GE299.out | refine zJ ?_ GE308.out | refine zJ ?_ GE324.out) | exact HB.out))); rintro e w80 ⟨rfl, hb⟩; refine ⟨_, rfl, ?_⟩; have n0_ := Aside0.mk (Kd.N_below (by (with_reducible repeat (first | apply Kd.N_alloc | apply Kd.N_drewN | apply Kd.N_drew)); exact (Kd.N_mono (Kd.N_far (p := ⟨gb324, 0, none⟩) (Kd.N_mono HO_91.out (fun k_ hk => (⟨hk, hk.2⟩ : _ ∧ k_ ≠ gb324))) (fun _ hk => hk.2) (.slice A323_0 ((rd_T58 y320 x93_3).f0).length c323_0)) (fun _ h_ => h_.1))) hb); have n1_ := Aside0.mk (Kd.V_below (by (with_reducible repeat (first | apply Kd.V_alloc | apply Kd.V_drewN | apply Kd.V_drew)); exact (Kd.V_mono (Kd.V_far (p := ⟨gb324, 0, none⟩) (Kd.V_mono HO_300000.out (fun k_ hk => (⟨hk, hk.2⟩ : _ ∧ k_ ≠ gb324))) (fun _ hk => hk.2) (.slice A323_0 ((rd_T58 y320 x93_3).f0).length c323_0)) (fun _ h_ => h_.1))) hb); have n2_ := Aside0.mk (Kd.V_below (by (with_reducible repeat (first | apply Kd.V_alloc | apply Kd.V_drewN | apply Kd.V_drew)); exact (Kd.V_mono (Kd.V_far (p := ⟨gb324, 0, none⟩) (Kd.V_mono HO_309000.out (fun k_ hk => (⟨hk, hk.2⟩ : _ ∧ k_ ≠ gb324))) (fun _ hk => hk.2) (.slice A323_0 ((rd_T58 y320 x93_3).f0).length c323_0)) (fun _ h_ => h_.1))) hb); have n3_ := Aside0.mk (Kd.V_below (by (with_reducible repeat (first | apply Kd.V_alloc | apply Kd.V_drewN | apply Kd.V_drew)); exact (Kd.V_mono (Kd.V_far (p := ⟨gb324, 0, none⟩) (Kd.V_mono HL323_0.out (fun k_ hk => (⟨hk, hk.2⟩ : _ ∧ k_ ≠ gb324))) (fun _ hk => hk.2) (.slice A323_0 ((rd_T58 y320 x93_3).f0).length c323_0)) (fun _ h_ => h_.1))) hb); have n4_ := Aside0.mk (blk_below (g := gb299) (o := .cells #[.slice A1_0 l1_0.length c1_0] 58 (0, 0)) (by (with_reducible repeat (first|refine zN ?_ _|refine zD ?_|refine zA ?_ _)); refine blk_far ?_ NB299_324.out _; (with_reducible repeat (first|refine zN ?_ _|refine zD ?_|refine zA ?_ _)); exact BK299.out) hb); have n5_ := Aside0.mk (blk_below (g := gb308) (o := .cells #[.slice Ao21 t304.length co21] 58 (0, 0)) (by (with_reducible repeat (first|refine zN ?_ _|refine zD ?_|refine zA ?_ _)); refine blk_far ?_ NB308_324.out _; (with_reducible repeat (first|refine zN ?_ _|refine zD ?_|refine zA ?_ _)); exact BK308.out) hb); have n6_ := Aside0.mk (Kd.C_below ((Kd.V_reads' (by (with_reducible repeat (first | apply Kd.V_alloc | apply Kd.V_drewN | apply Kd.V_drew)); exact (Kd.V_mono (Kd.V_far (p := ⟨gb324, 0, none⟩) (Kd.V_mono HL323_0.out (fun k_ hk => (⟨hk, hk.2⟩ : _ ∧ k_ ≠ gb324))) (fun _ hk => hk.2) (.slice A323_0 ((rd_T58 y320 x93_3).f0).length c323_0)) (fun _ h_ => h_.1)))).2.2) hb); have n7_ := Aside0.mk (blk_below (g := gb324) (o := .cells #[.slice A323_0 ((rd_T58 y320 x93_3).f0).length c323_0] 58 (0, 0)) (by (with_reducible repeat (first|refine zN ?_ _|refine zD ?_|refine zA ?_ _)); refine blk_put (cs := #[.slice none 0 0]) ?_ 0 _ rfl; (with_reducible repeat (first|refine zN ?_ _|refine zD ?_|refine zA ?_ _)); exact BK324.out) hb); have n8_ := Aside0.mk (below_step (by repeat (first | (with_reducible first|exact HB.out|apply zE|apply zB|apply zC | refine zJ ?_ GE299.out | refine zJ ?_ GE308.out | refine zJ ?_ GE324.out) | exact HB.out)) hb); clear HO_91 HO_300000 HO_309000 HL323_0 BK299 BK308 HR323_0 BK324 HB; have HO_91 := n0_; have HO_300000 := n1_; have HO_309000 := n2_; have HL323_0 := n3_; have BK299 := n4_; have BK308 := n5_; have HR323_0 := n6_; have BK324 := n7_; have HB := n8_; clear n0_ n1_ n2_ n3_ n4_ n5_ n6_ n7_ n8_; (try clear hb); (try clear hb2); (try clear hk); (try clear hi); (try clear hge); have hcz81_0 : w80.cell? ⟨gb324, 0, none⟩ = some (.slice A323_0 ((rd_T58 y320 x93_3).f0).length c323_0) := (blk_cell BK324.out 0).trans rfl; have hfz81_0 := blk_frozen BK324.out 0) | ((with_reducible refine gate_callee (f := 35) rfl ?_); refine goesL_ (some 110) rfl rfl Tryd.func35 (by kernel_rfl) rfl #[.agg #[.slice A323_0 ((rd_T58 y320 x93_3).f0).length c323_0], .string a2, .string a3, .string a4] rfl (by (try simp only [List.map_toArray, List.map_cons, List.map_nil]); first | done | rfl | (simp only [List.length_drop, List.length_take]; rfl)) ?_; (with_reducible refine (flagstoneref13_Subject.calls k3 _ _ ((rd_T58 y320 x93_3).f0) a2 a3 a4 t327 t328 _ ?side1 ?side2 A58.out).mono ?_); (case side1 => repeat (first | exact (by repeat (first | (with_reducible exact HR323_0.out) | (with_reducible refine Kd.C_alloc ?_ _) | (with_reducible refine Kd.C_drewN ?_ _) | (with_reducible refine Kd.C_drew ?_) | exact HR323_0.out)) | (with_reducible refine Kd.C_alloc ?_ _) | (with_reducible refine Kd.C_drewN ?_ _) | (with_reducible refine Kd.C_drew ?_))); (case side2 => exact HC323_0.out); rintro e w82 ⟨rfl, hb⟩; refine ⟨_, rfl, ?_⟩; have n0_ := Aside0.mk (Kd.N_below (by (with_reducible repeat (first | apply Kd.N_alloc | apply Kd.N_drewN | apply Kd.N_drew)); exact HO_91.out) hb); have n1_ := Aside0.mk (Kd.V_below (by (with_reducible repeat (first | apply Kd.V_alloc | apply Kd.V_drewN | apply Kd.V_drew)); exact HO_300000.out) hb); have n2_ := Aside0.mk (Kd.V_below (by (with_reducible repeat (first | apply Kd.V_alloc | apply Kd.V_drewN | apply Kd.V_drew)); exact HO_309000.out) hb); have n3_ := Aside0.mk (Kd.V_below (by (with_reducible repeat (first | apply Kd.V_alloc | apply Kd.V_drewN | apply Kd.V_drew)); exact HL323_0.out) hb); have n4_ := Aside0.mk (blk_below (g := gb299) (o := .cells #[.slice A1_0 l1_0.length c1_0] 58 (0, 0)) (by (with_reducible repeat (first|refine zN ?_ _|refine zD ?_|refine zA ?_ _)); exact BK299.out) hb); have n5_ := Aside0.mk (blk_below (g := gb308) (o := .cells #[.slice Ao21 t304.length co21] 58 (0, 0)) (by (with_reducible repeat (first|refine zN ?_ _|refine zD ?_|refine zA ?_ _)); exact BK308.out) hb); have n6_ := Aside0.mk (Kd.C_below (by repeat (first | (with_reducible exact HR323_0.out) | (with_reducible refine Kd.C_alloc ?_ _) | (with_reducible refine Kd.C_drewN ?_ _) | (with_reducible refine Kd.C_drew ?_) | exact HR323_0.out)) hb); have n7_ := Aside0.mk (blk_below (g := gb324) (o := .cells #[.slice A323_0 ((rd_T58 y320 x93_3).f0).length c323_0] 58 (0, 0)) (by (with_reducible repeat (first|refine zN ?_ _|refine zD ?_|refine zA ?_ _)); exact BK324.out) hb); have n8_ := Aside0.mk (below_step (by repeat (first | (with_reducible first|exact HB.out|apply zE|apply zB|apply zC | refine zJ ?_ GE299.out | refine zJ ?_ GE308.out | refine zJ ?_ GE324.out) | exact HB.out)) hb); clear HO_91 HO_300000 HO_309000 HL323_0 BK299 BK308 HR323_0 BK324 HB; have HO_91 := n0_; have HO_300000 := n1_; have HO_309000 := n2_; have HL323_0 := n3_; have BK299 := n4_; have BK308 := n5_; have HR323_0 := n6_; have BK324 := n7_; have HB := n8_; clear n0_ n1_ n2_ n3_ n4_ n5_ n6_ n7_ n8_; (try clear hb); (try clear hb2); (try clear hk); (try clear hi); (try clear hge); have hcz83_0 : w82.cell? ⟨gb324, 0, none⟩ = some (.slice A323_0 ((rd_T58 y320 x93_3).f0).length c323_0) := (blk_cell BK324.out 0).trans rfl; have hfz83_0 := blk_frozen BK324.out 0) | ((with_reducible refine gate_callee (f := 34) rfl ?_); refine goesL_ (some 116) rfl rfl Tryd.func34 (by kernel_rfl) rfl #[.agg #[.slice A323_0 ((rd_T58 y320 x93_3).f0).length c323_0], .string (⟨#[117, 115, 101, 114]⟩ : ByteArray), .string (⟨#[107, 101, 121]⟩ : ByteArray), .string a4] rfl (by (try simp only [List.map_toArray, List.map_cons, List.map_nil]); first | done | rfl | (simp only [List.length_drop, List.length_take]; rfl)) ?_; (with_reducible refine (bucket_Subject.calls k3 _ _ ((rd_T58 y320 x93_3).f0) (⟨#[117, 115, 101, 114]⟩ : ByteArray) (⟨#[107, 101, 121]⟩ : ByteArray) a4 t329 t330 _ ?side1 ?side2 ?side3 A59.out).mono ?_); (case side1 => repeat (first | exact (by repeat (first | (with_reducible exact HR323_0.out) | (with_reducible refine Kd.C_alloc ?_ _) | (with_reducible refine Kd.C_drewN ?_ _) | (with_reducible refine Kd.C_drew ?_) | exact HR323_0.out)) | (with_reducible refine Kd.C_alloc ?_ _) | (with_reducible refine Kd.C_drewN ?_ _) | (with_reducible refine Kd.C_drew ?_))); (case side2 => exact HC323_0.out); (case side3 => exact GL.below HGL.out (by repeat (first | (with_reducible first|exact HB.out|apply zE|apply zB|apply zC | refine zJ ?_ GE299.out | refine zJ ?_ GE308.out | refine zJ ?_ GE324.out) | exact HB.out))); rintro e w84 ⟨rfl, hb⟩; refine ⟨_, rfl, ?_⟩; have n0_ := Aside0.mk (Kd.N_below (by (with_reducible repeat (first | apply Kd.N_alloc | apply Kd.N_drewN | apply Kd.N_drew)); exact HO_91.out) hb); have n1_ := Aside0.mk (Kd.V_below (by (with_reducible repeat (first | apply Kd.V_alloc | apply Kd.V_drewN | apply Kd.V_drew)); exact HO_300000.out) hb); have n2_ := Aside0.mk (Kd.V_below (by (with_reducible repeat (first | apply Kd.V_alloc | apply Kd.V_drewN | apply Kd.V_drew)); exact HO_309000.out) hb); have n3_ := Aside0.mk (Kd.V_below (by (with_reducible repeat (first | apply Kd.V_alloc | apply Kd.V_drewN | apply Kd.V_drew)); exact HL323_0.out) hb); have n4_ := Aside0.mk (blk_below (g := gb299) (o := .cells #[.slice A1_0 l1_0.length c1_0] 58 (0, 0)) (by (with_reducible repeat (first|refine zN ?_ _|refine zD ?_|refine zA ?_ _)); exact BK299.out) hb); have n5_ := Aside0.mk (blk_below (g := gb308) (o := .cells #[.slice Ao21 t304.length co21] 58 (0, 0)) (by (with_reducible repeat (first|refine zN ?_ _|refine zD ?_|refine zA ?_ _)); exact BK308.out) hb); have n6_ := Aside0.mk (Kd.C_below (by repeat (first | (with_reducible exact HR323_0.out) | (with_reducible refine Kd.C_alloc ?_ _) | (with_reducible refine Kd.C_drewN ?_ _) | (with_reducible refine Kd.C_drew ?_) | exact HR323_0.out)) hb); have n7_ := Aside0.mk (blk_below (g := gb324) (o := .cells #[.slice A323_0 ((rd_T58 y320 x93_3).f0).length c323_0] 58 (0, 0)) (by (with_reducible repeat (first|refine zN ?_ _|refine zD ?_|refine zA ?_ _)); exact BK324.out) hb); have n8_ := Aside0.mk (below_step (by repeat (first | (with_reducible first|exact HB.out|apply zE|apply zB|apply zC | refine zJ ?_ GE299.out | refine zJ ?_ GE308.out | refine zJ ?_ GE324.out) | exact HB.out)) hb); clear HO_91 HO_300000 HO_309000 HL323_0 BK299 BK308 HR323_0 BK324 HB; have HO_91 := n0_; have HO_300000 := n1_; have HO_309000 := n2_; have HL323_0 := n3_; have BK299 := n4_; have BK308 := n5_; have HR323_0 := n6_; have BK324 := n7_; have HB := n8_; clear n0_ n1_ n2_ n3_ n4_ n5_ n6_ n7_ n8_; (try clear hb); (try clear hb2); (try clear hk); (try clear hi); (try clear hge); have hcz85_0 : w84.cell? ⟨gb324, 0, none⟩ = some (.slice A323_0 ((rd_T58 y320 x93_3).f0).length c323_0) := (blk_cell BK324.out 0).trans rfl; have hfz85_0 := blk_frozen BK324.out 0) | ((with_reducible refine gate_callee (f := 35) rfl ?_); refine goesL_ (some 122) rfl rfl Tryd.func35 (by kernel_rfl) rfl #[.agg #[.slice A323_0 ((rd_T58 y320 x93_3).f0).length c323_0], .string (⟨#[117, 115, 101, 114]⟩ : ByteArray), .string (⟨#[107, 101, 121]⟩ : ByteArray), .string a4] rfl (by (try simp only [List.map_toArray, List.map_cons, List.map_nil]); first | done | rfl | (simp only [List.length_drop, List.length_take]; rfl)) ?_; (with_reducible refine (flagstoneref13_Subject.calls k3 _ _ ((rd_T58 y320 x93_3).f0) (⟨#[117, 115, 101, 114]⟩ : ByteArray) (⟨#[107, 101, 121]⟩ : ByteArray) a4 t331 t332 _ ?side1 ?side2 A60.out).mono ?_); (case side1 => repeat (first | exact (by repeat (first | (with_reducible exact HR323_0.out) | (with_reducible refine Kd.C_alloc ?_ _) | (with_reducible refine Kd.C_drewN ?_ _) | (with_reducible refine Kd.C_drew ?_) | exact HR323_0.out)) | (with_reducible refine Kd.C_alloc ?_ _) | (with_reducible refine Kd.C_drewN ?_ _) | (with_reducible refine Kd.C_drew ?_))); (case side2 => exact HC323_0.out); rintro e w86 ⟨rfl, hb⟩; refine ⟨_, rfl, ?_⟩; have n0_ := Aside0.mk (Kd.N_below (by (with_reducible repeat (first | apply Kd.N_alloc | apply Kd.N_drewN | apply Kd.N_drew)); exact HO_91.out) hb); have n1_ := Aside0.mk (Kd.V_below (by (with_reducible repeat (first | apply Kd.V_alloc | apply Kd.V_drewN | apply Kd.V_drew)); exact HO_300000.out) hb); have n2_ := Aside0.mk (Kd.V_below (by (with_reducible repeat (first | apply Kd.V_alloc | apply Kd.V_drewN | apply Kd.V_drew)); exact HO_309000.out) hb); have n3_ := Aside0.mk (Kd.V_below (by (with_reducible repeat (first | apply Kd.V_alloc | apply Kd.V_drewN | apply Kd.V_drew)); exact HL323_0.out) hb); have n4_ := Aside0.mk (blk_below (g := gb299) (o := .cells #[.slice A1_0 l1_0.length c1_0] 58 (0, 0)) (by (with_reducible repeat (first|refine zN ?_ _|refine zD ?_|refine zA ?_ _)); exact BK299.out) hb); have n5_ := Aside0.mk (blk_below (g := gb308) (o := .cells #[.slice Ao21 t304.length co21] 58 (0, 0)) (by (with_reducible repeat (first|refine zN ?_ _|refine zD ?_|refine zA ?_ _)); exact BK308.out) hb); have n6_ := Aside0.mk (Kd.C_below (by repeat (first | (with_reducible exact HR323_0.out) | (with_reducible refine Kd.C_alloc ?_ _) | (with_reducible refine Kd.C_drewN ?_ _) | (with_reducible refine Kd.C_drew ?_) | exact HR323_0.out)) hb); have n7_ := Aside0.mk (blk_below (g := gb324) (o := .cells #[.slice A323_0 ((rd_T58 y320 x93_3).f0).length c323_0] 58 (0, 0)) (by (with_reducible repeat (first|refine zN ?_ _|refine zD ?_|refine zA ?_ _)); exact BK324.out) hb); have n8_ := Aside0.mk (below_step (by repeat (first | (with_reducible first|exact HB.out|apply zE|apply zB|apply zC | refine zJ ?_ GE299.out | refine zJ ?_ GE308.out | refine zJ ?_ GE324.out) | exact HB.out)) hb); clear HO_91 HO_300000 HO_309000 HL323_0 BK299 BK308 HR323_0 BK324 HB; have HO_91 := n0_; have HO_300000 := n1_; have HO_309000 := n2_; have HL323_0 := n3_; have BK299 := n4_; have BK308 := n5_; have HR323_0 := n6_; have BK324 := n7_; have HB := n8_; clear n0_ n1_ n2_ n3_ n4_ n5_ n6_ n7_ n8_; (try clear hb); (try clear hb2); (try clear hk); (try clear hi); (try clear hge)))
                                  go_ret
                                  exact ⟨by first | rfl | (simp [errW_none, errW_some] <;> rfl) | (simp [*, errW_none, errW_some] <;> rfl), by repeat (first | (with_reducible first|exact HB.out|apply zE|apply zB|apply zC | refine zJ ?_ GE299.out | refine zJ ?_ GE308.out | refine zJ ?_ GE324.out) | exact HB.out)⟩
                                · rw [if_neg c75] at H
                                  have c75b0 : (t330 != t332) = false := by simpa using c75
                                  (try (have c75b1 : decide (t330 = t332) = true := by simpa using c75))
                                  (try (have c75b2 : (t330 == t332) = true := by simpa using c75))
                                  clear c75; have H' := Aside0.mk H; clear H
                                  have p323 : 0 ≤ (x93_3 : Int) := of_decide_eq_true (by first | (with_reducible assumption) | assumption)
                                  have q323 : x93_3 < (y320.length : Int) := of_decide_eq_true (by first | (with_reducible assumption) | assumption)
                                  obtain ⟨ad323, A323_0, c323_0, e323, hx323_0, hl323_0, hi323_0⟩ := at_T58 (Kd.N_reads' HO_91.out).2.2 x93_3 p323 q323
                                  cases e323
                                  obtain ⟨ce323, hce323, hMe323, hcc323⟩ := Kd.N_get HO_91.out z58 x93_3 p323 (by first | exact q323 | exact of_decide_eq_true (by first | (with_reducible assumption) | assumption) | (have e_ := (Kd.N_reads' HO_91.out).1; omega))
                                  obtain ⟨ua323_0, uc323_0, rfl, ul323_0, ge323_0⟩ := k58_openF hMe323
                                  have hv323_0 := hcc323 0 _ rfl
                                  rw [Nat.add_zero, show (k58).sz = 1 from rfl, Nat.mul_one] at hv323_0
                                  replace hv323_0 := Option.some.inj (hv323_0.symm.trans hx323_0)
                                  injection hv323_0 with hva_ hvn_ hvc_
                                  rw [hva_] at ge323_0
                                  rw [hvc_] at ul323_0
                                  have HL323_0 := Aside0.mk (show Kd.V k85 85 _ w.heap.size _ _ ((rd_T58 y320 x93_3).f0) from Kd.V_mk ul323_0 ge323_0)
                                  clear hva_ hvn_ hvc_ ge323_0 ul323_0 hcc323 hce323; have HR323_0 := Aside0.mk hi323_0; have HC323_0 := Aside0.mk hl323_0; clear hi323_0 hl323_0
                                  replace p323 := eq_true p323
                                  replace q323 := eq_true q323
                                  go_wp2_with (first | ((with_reducible refine gate_dst (N := 19) rfl ?_); (try (refine gate_guard (by rfl) ?_; dsimp only)); refine box_event ?hg (N := 19) ?hd (cs := #[.slice none 0 0]) (t := 58) ?hr ?_; (case hd => rfl); (case hg => rfl); (case hr => first | (go_simp; done) | (go_simp; rfl)); intro gb324 hg w87 hbox hb; have n0_ := Aside0.mk (Kd.N_below (Kd.N_elderB (by (with_reducible repeat (first | apply Kd.N_alloc | apply Kd.N_drewN | apply Kd.N_drew)); exact HO_91.out) gb324 (Nat.le_of_eq hg.symm)) hb); have n1_ := Aside0.mk (Kd.V_below (Kd.V_elderB (by (with_reducible repeat (first | apply Kd.V_alloc | apply Kd.V_drewN | apply Kd.V_drew)); exact HO_300000.out) gb324 (Nat.le_of_eq hg.symm)) hb); have n2_ := Aside0.mk (Kd.V_below (Kd.V_elderB (by (with_reducible repeat (first | apply Kd.V_alloc | apply Kd.V_drewN | apply Kd.V_drew)); exact HO_309000.out) gb324 (Nat.le_of_eq hg.symm)) hb); have n3_ := Aside0.mk (Kd.V_below (Kd.V_elderB (by (with_reducible repeat (first | apply Kd.V_alloc | apply Kd.V_drewN | apply Kd.V_drew)); exact HL323_0.out) gb324 (Nat.le_of_eq hg.symm)) hb); have n4_ := Aside0.mk (blk_below (g := gb299) (o := .cells #[.slice A1_0 l1_0.length c1_0] 58 (0, 0)) (by (with_reducible repeat (first|refine zN ?_ _|refine zD ?_|refine zA ?_ _)); exact BK299.out) hb); have n5_ := Aside0.mk (blk_below (g := gb308) (o := .cells #[.slice Ao21 t304.length co21] 58 (0, 0)) (by (with_reducible repeat (first|refine zN ?_ _|refine zD ?_|refine zA ?_ _)); exact BK308.out) hb); have n6_ := Aside0.mk (Kd.C_below (by repeat (first | (with_reducible exact HR323_0.out) | (with_reducible refine Kd.C_alloc ?_ _) | (with_reducible refine Kd.C_drewN ?_ _) | (with_reducible refine Kd.C_drew ?_) | exact HR323_0.out)) hb); have n7_ := Aside0.mk (below_step (by repeat (first | (with_reducible first|exact HB.out|apply zE|apply zB|apply zC | refine zJ ?_ GE299.out | refine zJ ?_ GE308.out) | exact HB.out)) hb); have n8_ := Aside0.mk (hbox); have n9_ := Aside0.mk ((by rw [hg]; exact (below_size (by repeat (first | (with_reducible first|exact HB.out|apply zE|apply zB|apply zC | refine zJ ?_ GE299.out | refine zJ ?_ GE308.out) | exact HB.out))) : w.heap.size ≤ gb324)); have n10_ := Aside0.mk ((by rw [hg]; exact (below_size (by repeat (first | (with_reducible first|exact HB.out|apply zE|apply zB|apply zC | refine zJ ?_ GE299.out | refine zJ ?_ GE308.out) | exact HB.out))) : w.heap.size ≤ gb324)); have n11_ := Aside0.mk ((by rw [hg]; exact Nat.ne_of_lt (blk_lt (g := gb299) (o := .cells #[.slice A1_0 l1_0.length c1_0] 58 (0, 0)) (by (with_reducible repeat (first|refine zN ?_ _|refine zD ?_|refine zA ?_ _)); exact BK299.out)) : gb299 ≠ gb324)); have n12_ := Aside0.mk ((by rw [hg]; exact Nat.ne_of_gt (blk_lt (g := gb299) (o := .cells #[.slice A1_0 l1_0.length c1_0] 58 (0, 0)) (by (with_reducible repeat (first|refine zN ?_ _|refine zD ?_|refine zA ?_ _)); exact BK299.out)) : gb324 ≠ gb299)); have n13_ := Aside0.mk ((by rw [hg]; exact Nat.ne_of_lt (blk_lt (g := gb308) (o := .cells #[.slice Ao21 t304.length co21] 58 (0, 0)) (by (with_reducible repeat (first|refine zN ?_ _|refine zD ?_|refine zA ?_ _)); exact BK308.out)) : gb308 ≠ gb324)); have n14_ := Aside0.mk ((by rw [hg]; exact Nat.ne_of_gt (blk_lt (g := gb308) (o := .cells #[.slice Ao21 t304.length co21] 58 (0, 0)) (by (with_reducible repeat (first|refine zN ?_ _|refine zD ?_|refine zA ?_ _)); exact BK308.out)) : gb324 ≠ gb308)); clear HO_91 HO_300000 HO_309000 HL323_0 BK299 BK308 HR323_0 HB; have HO_91 := n0_; have HO_300000 := n1_; have HO_309000 := n2_; have HL323_0 := n3_; have BK299 := n4_; have BK308 := n5_; have HR323_0 := n6_; have HB := n7_; have BK324 := n8_; have GW324 := n9_; have GE324 := n10_; have NB299_324 := n11_; have NB324_299 := n12_; have NB308_324 := n13_; have NB324_308 := n14_; clear n0_ n1_ n2_ n3_ n4_ n5_ n6_ n7_ n8_ n9_ n10_ n11_ n12_ n13_ n14_ hb hbox hg; have hnb88 := NB324_299.out; have hnc88 := NB299_324.out; have hnb89 := NB324_308.out; have hnc89 := NB308_324.out; have hcz90_0 : w87.cell? ⟨gb324, 0, none⟩ = some (.slice none 0 0) := (blk_cell BK324.out 0).trans rfl; have hfz90_0 := blk_frozen BK324.out 0) | ((with_reducible refine gate_callee (f := 34) rfl ?_); refine goesL_ (some 102) rfl rfl Tryd.func34 (by kernel_rfl) rfl #[.agg #[.slice A323_0 ((rd_T58 y320 x93_3).f0).length c323_0], .string a2, .string a3, .string a4] rfl (by (try simp only [List.map_toArray, List.map_cons, List.map_nil]); first | done | rfl | (simp only [List.length_drop, List.length_take]; rfl)) ?_; (with_reducible refine (bucket_Subject.calls k3 _ _ ((rd_T58 y320 x93_3).f0) a2 a3 a4 t325 t326 _ ?side1 ?side2 ?side3 A57.out).mono ?_); (case side1 => repeat (first | exact ((Kd.V_reads' (by (with_reducible repeat (first | apply Kd.V_alloc | apply Kd.V_drewN | apply Kd.V_drew)); exact (Kd.V_mono (Kd.V_far (p := ⟨gb324, 0, none⟩) (Kd.V_mono HL323_0.out (fun k_ hk => (⟨hk, hk.2⟩ : _ ∧ k_ ≠ gb324))) (fun _ hk => hk.2) (.slice A323_0 ((rd_T58 y320 x93_3).f0).length c323_0)) (fun _ h_ => h_.1)))).2.2) | (with_reducible refine Kd.C_alloc ?_ _) | (with_reducible refine Kd.C_drewN ?_ _) | (with_reducible refine Kd.C_drew ?_))); (case side2 => exact HC323_0.out); (case side3 => exact GL.below HGL.out (by repeat (first | (with_reducible first|exact HB.out|apply zE|apply zB|apply zC | refine zJ ?_ GE299.out | refine zJ ?_ GE308.out | refine zJ ?_ GE324.out) | exact HB.out))); rintro e w91 ⟨rfl, hb⟩; refine ⟨_, rfl, ?_⟩; have n0_ := Aside0.mk (Kd.N_below (by (with_reducible repeat (first | apply Kd.N_alloc | apply Kd.N_drewN | apply Kd.N_drew)); exact (Kd.N_mono (Kd.N_far (p := ⟨gb324, 0, none⟩) (Kd.N_mono HO_91.out (fun k_ hk => (⟨hk, hk.2⟩ : _ ∧ k_ ≠ gb324))) (fun _ hk => hk.2) (.slice A323_0 ((rd_T58 y320 x93_3).f0).length c323_0)) (fun _ h_ => h_.1))) hb); have n1_ := Aside0.mk (Kd.V_below (by (with_reducible repeat (first | apply Kd.V_alloc | apply Kd.V_drewN | apply Kd.V_drew)); exact (Kd.V_mono (Kd.V_far (p := ⟨gb324, 0, none⟩) (Kd.V_mono HO_300000.out (fun k_ hk => (⟨hk, hk.2⟩ : _ ∧ k_ ≠ gb324))) (fun _ hk => hk.2) (.slice A323_0 ((rd_T58 y320 x93_3).f0).length c323_0)) (fun _ h_ => h_.1))) hb); have n2_ := Aside0.mk (Kd.V_below (by (with_reducible repeat (first | apply Kd.V_alloc | apply Kd.V_drewN | apply Kd.V_drew)); exact (Kd.V_mono (Kd.V_far (p := ⟨gb324, 0, none⟩) (Kd.V_mono HO_309000.out (fun k_ hk => (⟨hk, hk.2⟩ : _ ∧ k_ ≠ gb324))) (fun _ hk => hk.2) (.slice A323_0 ((rd_T58 y320 x93_3).f0).length c323_0)) (fun _ h_ => h_.1))) hb); have n3_ := Aside0.mk (Kd.V_below (by (with_reducible repeat (first | apply Kd.V_alloc | apply Kd.V_drewN | apply Kd.V_drew)); exact (Kd.V_mono (Kd.V_far (p := ⟨gb324, 0, none⟩) (Kd.V_mono HL323_0.out (fun k_ hk => (⟨hk, hk.2⟩ : _ ∧ k_ ≠ gb324))) (fun _ hk => hk.2) (.slice A323_0 ((rd_T58 y320 x93_3).f0).length c323_0)) (fun _ h_ => h_.1))) hb); have n4_ := Aside0.mk (blk_below (g := gb299) (o := .cells #[.slice A1_0 l1_0.length c1_0] 58 (0, 0)) (by (with_reducible repeat (first|refine zN ?_ _|refine zD ?_|refine zA ?_ _)); refine blk_far ?_ NB299_324.out _; (with_reducible repeat (first|refine zN ?_ _|refine zD ?_|refine zA ?_ _)); exact BK299.out) hb); have n5_ := Aside0.mk (blk_below (g := gb308) (o := .cells #[.slice Ao21 t304.length co21] 58 (0, 0)) (by (with_reducible repeat (first|refine zN ?_ _|refine zD ?_|refine zA ?_ _)); refine blk_far ?_ NB308_324.out _; (with_reducible repeat (first|refine zN ?_ _|refine zD ?_|refine zA ?_ _)); exact BK308.out) hb); have n6_ := Aside0.mk (Kd.C_below ((Kd.V_reads' (by (with_reducible repeat (first | apply Kd.V_alloc | apply Kd.V_drewN | apply Kd.V_drew)); exact (Kd.V_mono (Kd.V_far (p := ⟨gb324, 0, none⟩) (Kd.V_mono HL323_0.out (fun k_ hk => (⟨hk, hk.2⟩ : _ ∧ k_ ≠ gb324))) (fun _ hk => hk.2) (.slice A323_0 ((rd_T58 y320 x93_3).f0).length c323_0)) (fun _ h_ => h_.1)))).2.2) hb); have n7_ := Aside0.mk (blk_below (g := gb324) (o := .cells #[.slice A323_0 ((rd_T58 y320 x93_3).f0).length c323_0] 58 (0, 0)) (by (with_reducible repeat (first|refine zN ?_ _|refine zD ?_|refine zA ?_ _)); refine blk_put (cs := #[.slice none 0 0]) ?_ 0 _ rfl; (with_reducible repeat (first|refine zN ?_ _|refine zD ?_|refine zA ?_ _)); exact BK324.out) hb); have n8_ := Aside0.mk (below_step (by repeat (first | (with_reducible first|exact HB.out|apply zE|apply zB|apply zC | refine zJ ?_ GE299.out | refine zJ ?_ GE308.out | refine zJ ?_ GE324.out) | exact HB.out)) hb); clear HO_91 HO_300000 HO_309000 HL323_0 BK299 BK308 HR323_0 BK324 HB; have HO_91 := n0_; have HO_300000 := n1_; have HO_309000 := n2_; have HL323_0 := n3_; have BK299 := n4_; have BK308 := n5_; have HR323_0 := n6_; have BK324 := n7_; have HB := n8_; clear n0_ n1_ n2_ n3_ n4_ n5_ n6_ n7_ n8_; (try clear hb); (try clear hb2); (try clear hk); (try clear hi); (try clear hge); have hcz92_0 : w91.cell? ⟨gb324, 0, none⟩ = some (.slice A323_0 ((rd_T58 y320 x93_3).f0).length c323_0) := (blk_cell BK324.out 0).trans rfl; have hfz92_0 := blk_frozen BK324.out 0) | ((with_reducible refine gate_callee (f := 35) rfl ?_); refine goesL_ (some 110) rfl rfl Tryd.func35 (by kernel_rfl) rfl #[.agg #[.slice A323_0 ((rd_T58 y320 x93_3).f0).length c323_0], .string a2, .string a3, .string a4] rfl (by (try simp only [List.map_toArray, List.map_cons, List.map_nil]); first | done | rfl | (simp only [List.length_drop, List.length_take]; rfl)) ?_; (with_reducible refine (flagstoneref13_Subject.calls k3 _ _ ((rd_T58 y320 x93_3).f0) a2 a3 a4 t327 t328 _ ?side1 ?side2 A58.out).mono ?_); (case side1 => repeat (first | exact (by repeat (first | (with_reducible exact HR323_0.out) | (with_reducible refine Kd.C_alloc ?_ _) | (with_reducible refine Kd.C_drewN ?_ _) | (with_reducible refine Kd.C_drew ?_) | exact HR323_0.out)) | (with_reducible refine Kd.C_alloc ?_ _) | (with_reducible refine Kd.C_drewN ?_ _) | (with_reducible refine Kd.C_drew ?_))); (case side2 => exact HC323_0.out); rintro e w93 ⟨rfl, hb⟩; refine ⟨_, rfl, ?_⟩; have n0_ := Aside0.mk (Kd.N_below (by (with_reducible repeat (first | apply Kd.N_alloc | apply Kd.N_drewN | apply Kd.N_drew)); exact HO_91.out) hb); have n1_ := Aside0.mk (Kd.V_below (by (with_reducible repeat (first | apply Kd.V_alloc | apply Kd.V_drewN | apply Kd.V_drew)); exact HO_300000.out) hb); have n2_ := Aside0.mk (Kd.V_below (by (with_reducible repeat (first | apply Kd.V_alloc | apply Kd.V_drewN | apply Kd.V_drew)); exact HO_309000.out) hb); have n3_ := Aside0.mk (Kd.V_below (by (with_reducible repeat (first | apply Kd.V_alloc | apply Kd.V_drewN | apply Kd.V_drew)); exact HL323_0.out) hb); have n4_ := Aside0.mk (blk_below (g := gb299) (o := .cells #[.slice A1_0 l1_0.length c1_0] 58 (0, 0)) (by (with_reducible repeat (first|refine zN ?_ _|refine zD ?_|refine zA ?_ _)); exact BK299.out) hb); have n5_ := Aside0.mk (blk_below (g := gb308) (o := .cells #[.slice Ao21 t304.length co21] 58 (0, 0)) (by (with_reducible repeat (first|refine zN ?_ _|refine zD ?_|refine zA ?_ _)); exact BK308.out) hb); have n6_ := Aside0.mk (Kd.C_below (by repeat (first | (with_reducible exact HR323_0.out) | (with_reducible refine Kd.C_alloc ?_ _) | (with_reducible refine Kd.C_drewN ?_ _) | (with_reducible refine Kd.C_drew ?_) | exact HR323_0.out)) hb); have n7_ := Aside0.mk (blk_below (g := gb324) (o := .cells #[.slice A323_0 ((rd_T58 y320 x93_3).f0).length c323_0] 58 (0, 0)) (by (with_reducible repeat (first|refine zN ?_ _|refine zD ?_|refine zA ?_ _)); exact BK324.out) hb); have n8_ := Aside0.mk (below_step (by repeat (first | (with_reducible first|exact HB.out|apply zE|apply zB|apply zC | refine zJ ?_ GE299.out | refine zJ ?_ GE308.out | refine zJ ?_ GE324.out) | exact HB.out)) hb); clear HO_91 HO_300000 HO_309000 HL323_0 BK299 BK308 HR323_0 BK324 HB; have HO_91 := n0_; have HO_300000 := n1_; have HO_309000 := n2_; have HL323_0 := n3_; have BK299 := n4_; have BK308 := n5_; have HR323_0 := n6_; have BK324 := n7_; have HB := n8_; clear n0_ n1_ n2_ n3_ n4_ n5_ n6_ n7_ n8_; (try clear hb); (try clear hb2); (try clear hk); (try clear hi); (try clear hge); have hcz94_0 : w93.cell? ⟨gb324, 0, none⟩ = some (.slice A323_0 ((rd_T58 y320 x93_3).f0).length c323_0) := (blk_cell BK324.out 0).trans rfl; have hfz94_0 := blk_frozen BK324.out 0) | ((with_reducible refine gate_callee (f := 34) rfl ?_); refine goesL_ (some 116) rfl rfl Tryd.func34 (by kernel_rfl) rfl #[.agg #[.slice A323_0 ((rd_T58 y320 x93_3).f0).length c323_0], .string (⟨#[117, 115, 101, 114]⟩ : ByteArray), .string (⟨#[107, 101, 121]⟩ : ByteArray), .string a4] rfl (by (try simp only [List.map_toArray, List.map_cons, List.map_nil]); first | done | rfl | (simp only [List.length_drop, List.length_take]; rfl)) ?_; (with_reducible refine (bucket_Subject.calls k3 _ _ ((rd_T58 y320 x93_3).f0) (⟨#[117, 115, 101, 114]⟩ : ByteArray) (⟨#[107, 101, 121]⟩ : ByteArray) a4 t329 t330 _ ?side1 ?side2 ?side3 A59.out).mono ?_); (case side1 => repeat (first | exact (by repeat (first | (with_reducible exact HR323_0.out) | (with_reducible refine Kd.C_alloc ?_ _) | (with_reducible refine Kd.C_drewN ?_ _) | (with_reducible refine Kd.C_drew ?_) | exact HR323_0.out)) | (with_reducible refine Kd.C_alloc ?_ _) | (with_reducible refine Kd.C_drewN ?_ _) | (with_reducible refine Kd.C_drew ?_))); (case side2 => exact HC323_0.out); (case side3 => exact GL.below HGL.out (by repeat (first | (with_reducible first|exact HB.out|apply zE|apply zB|apply zC | refine zJ ?_ GE299.out | refine zJ ?_ GE308.out | refine zJ ?_ GE324.out) | exact HB.out))); rintro e w95 ⟨rfl, hb⟩; refine ⟨_, rfl, ?_⟩; have n0_ := Aside0.mk (Kd.N_below (by (with_reducible repeat (first | apply Kd.N_alloc | apply Kd.N_drewN | apply Kd.N_drew)); exact HO_91.out) hb); have n1_ := Aside0.mk (Kd.V_below (by (with_reducible repeat (first | apply Kd.V_alloc | apply Kd.V_drewN | apply Kd.V_drew)); exact HO_300000.out) hb); have n2_ := Aside0.mk (Kd.V_below (by (with_reducible repeat (first | apply Kd.V_alloc | apply Kd.V_drewN | apply Kd.V_drew)); exact HO_309000.out) hb); have n3_ := Aside0.mk (Kd.V_below (by (with_reducible repeat (first | apply Kd.V_alloc | apply Kd.V_drewN | apply Kd.V_drew)); exact HL323_0.out) hb); have n4_ := Aside0.mk (blk_below (g := gb299) (o := .cells #[.slice A1_0 l1_0.length c1_0] 58 (0, 0)) (by (with_reducible repeat (first|refine zN ?_ _|refine zD ?_|refine zA ?_ _)); exact BK299.out) hb); have n5_ := Aside0.mk (blk_below (g := gb308) (o := .cells #[.slice Ao21 t304.length co21] 58 (0, 0)) (by (with_reducible repeat (first|refine zN ?_ _|refine zD ?_|refine zA ?_ _)); exact BK308.out) hb); have n6_ := Aside0.mk (Kd.C_below (by repeat (first | (with_reducible exact HR323_0.out) | (with_reducible refine Kd.C_alloc ?_ _) | (with_reducible refine Kd.C_drewN ?_ _) | (with_reducible refine Kd.C_drew ?_) | exact HR323_0.out)) hb); have n7_ := Aside0.mk (blk_below (g := gb324) (o := .cells #[.slice A323_0 ((rd_T58 y320 x93_3).f0).length c323_0] 58 (0, 0)) (by (with_reducible repeat (first|refine zN ?_ _|refine zD ?_|refine zA ?_ _)); exact BK324.out) hb); have n8_ := Aside0.mk (below_step (by repeat (first | (with_reducible first|exact HB.out|apply zE|apply zB|apply zC | refine zJ ?_ GE299.out | refine zJ ?_ GE308.out | refine zJ ?_ GE324.out) | exact HB.out)) hb); clear HO_91 HO_300000 HO_309000 HL323_0 BK299 BK308 HR323_0 BK324 HB; have HO_91 := n0_; have HO_300000 := n1_; have HO_309000 := n2_; have HL323_0 := n3_; have BK299 := n4_; have BK308 := n5_; have HR323_0 := n6_; have BK324 := n7_; have HB := n8_; clear n0_ n1_ n2_ n3_ n4_ n5_ n6_ n7_ n8_; (try clear hb); (try clear hb2); (try clear hk); (try clear hi); (try clear hge); have hcz96_0 : w95.cell? ⟨gb324, 0, none⟩ = some (.slice A323_0 ((rd_T58 y320 x93_3).f0).length c323_0) := (blk_cell BK324.out 0).trans rfl; have hfz96_0 := blk_frozen BK324.out 0) | ((with_reducible refine gate_callee (f := 35) rfl ?_); refine goesL_ (some 122) rfl rfl Tryd.func35 (by kernel_rfl) rfl #[.agg #[.slice A323_0 ((rd_T58 y320 x93_3).f0).length c323_0], .string (⟨#[117, 115, 101, 114]⟩ : ByteArray), .string (⟨#[107, 101, 121]⟩ : ByteArray), .string a4] rfl (by (try simp only [List.map_toArray, List.map_cons, List.map_nil]); first | done | rfl | (simp only [List.length_drop, List.length_take]; rfl)) ?_; (with_reducible refine (flagstoneref13_Subject.calls k3 _ _ ((rd_T58 y320 x93_3).f0) (⟨#[117, 115, 101, 114]⟩ : ByteArray) (⟨#[107, 101, 121]⟩ : ByteArray) a4 t331 t332 _ ?side1 ?side2 A60.out).mono ?_); (case side1 => repeat (first | exact (by repeat (first | (with_reducible exact HR323_0.out) | (with_reducible refine Kd.C_alloc ?_ _) | (with_reducible refine Kd.C_drewN ?_ _) | (with_reducible refine Kd.C_drew ?_) | exact HR323_0.out)) | (with_reducible refine Kd.C_alloc ?_ _) | (with_reducible refine Kd.C_drewN ?_ _) | (with_reducible refine Kd.C_drew ?_))); (case side2 => exact HC323_0.out); rintro e w97 ⟨rfl, hb⟩; refine ⟨_, rfl, ?_⟩; have n0_ := Aside0.mk (Kd.N_below (by (with_reducible repeat (first | apply Kd.N_alloc | apply Kd.N_drewN | apply Kd.N_drew)); exact HO_91.out) hb); have n1_ := Aside0.mk (Kd.V_below (by (with_reducible repeat (first | apply Kd.V_alloc | apply Kd.V_drewN | apply Kd.V_drew)); exact HO_300000.out) hb); have n2_ := Aside0.mk (Kd.V_below (by (with_reducible repeat (first | apply Kd.V_alloc | apply Kd.V_drewN | apply Kd.V_drew)); exact HO_309000.out) hb); have n3_ := Aside0.mk (Kd.V_below (by (with_reducible repeat (first | apply Kd.V_alloc | apply Kd.V_drewN | apply Kd.V_drew)); exact HL323_0.out) hb); have n4_ := Aside0.mk (blk_below (g := gb299) (o := .cells #[.slice A1_0 l1_0.length c1_0] 58 (0, 0)) (by (with_reducible repeat (first|refine zN ?_ _|refine zD ?_|refine zA ?_ _)); exact BK299.out) hb); have n5_ := Aside0.mk (blk_below (g := gb308) (o := .cells #[.slice Ao21 t304.length co21] 58 (0, 0)) (by (with_reducible repeat (first|refine zN ?_ _|refine zD ?_|refine zA ?_ _)); exact BK308.out) hb); have n6_ := Aside0.mk (Kd.C_below (by repeat (first | (with_reducible exact HR323_0.out) | (with_reducible refine Kd.C_alloc ?_ _) | (with_reducible refine Kd.C_drewN ?_ _) | (with_reducible refine Kd.C_drew ?_) | exact HR323_0.out)) hb); have n7_ := Aside0.mk (blk_below (g := gb324) (o := .cells #[.slice A323_0 ((rd_T58 y320 x93_3).f0).length c323_0] 58 (0, 0)) (by (with_reducible repeat (first|refine zN ?_ _|refine zD ?_|refine zA ?_ _)); exact BK324.out) hb); have n8_ := Aside0.mk (below_step (by repeat (first | (with_reducible first|exact HB.out|apply zE|apply zB|apply zC | refine zJ ?_ GE299.out | refine zJ ?_ GE308.out | refine zJ ?_ GE324.out) | exact HB.out)) hb); clear HO_91 HO_300000 HO_309000 HL323_0 BK299 BK308 HR323_0 BK324 HB; have HO_91 := n0_; have HO_300000 := n1_; have HO_309000 := n2_; have HL323_0 := n3_; have BK299 := n4_; have BK308 := n5_; have HR323_0 := n6_; have BK324 := n7_; have HB := n8_; clear n0_ n1_ n2_ n3_ n4_ n5_ n6_ n7_ n8_; (try clear hb); (try clear hb2); (try clear hk); (try clear hi); (try clear hge)))
                                  go_roundg k3
                                  case measure => have := HJ7.out; have := HK2.out; have := HK3.out; omega
                                  case rel => exact ⟨(wrap64 (x93_3 + 1)), (by first | rfl | (simp; done) | (simp [*]; done)), H', ⟨by have := HJ7.out; have := HK2.out; have := HK3.out; omega⟩, ⟨by (with_reducible repeat (first | apply Kd.N_alloc | apply Kd.N_drewN | apply Kd.N_drew)); exact Kd.N_mono HO_91.out (fun _ hk => ⟨hk.1.1, ⟨hk.1.2.1, hk.1.2.2⟩⟩)⟩, ⟨by (with_reducible repeat (first | apply Kd.V_alloc | apply Kd.V_drewN | apply Kd.V_drew)); exact Kd.V_mono HO_300000.out (fun _ hk => ⟨hk.1.1, ⟨hk.1.2.1, ⟨hk.1.2.2.1, hk.1.2.2.2⟩⟩⟩)⟩, ⟨by (with_reducible repeat (first | apply Kd.V_alloc | apply Kd.V_drewN | apply Kd.V_drew)); exact Kd.V_mono HO_309000.out (fun _ hk => ⟨hk.1.1, ⟨hk.1.2.1, ⟨hk.1.2.2.1, hk.1.2.2.2⟩⟩⟩)⟩, ⟨by (with_reducible repeat (first|refine zN ?_ _|refine zD ?_|refine zA ?_ _)); exact BK299.out⟩, ⟨by (with_reducible repeat (first|refine zN ?_ _|refine zD ?_|refine zA ?_ _)); exact BK308.out⟩, ⟨by repeat (first | (with_reducible first|exact HB.out|apply zE|apply zB|apply zC | refine zJ ?_ GE299.out | refine zJ ?_ GE308.out | refine zJ ?_ GE324.out) | exact HB.out)⟩⟩
                              · rw [if_neg c74] at H
                                have c74b0 : (t329 == t331) = false := beq_eq_false_iff_ne.mpr c74
                                have c74b1 : (t329 != t331) = true := bne_iff_ne.mpr c74
                                obtain rfl := Option.some.inj H
                                have p323 : 0 ≤ (x93_3 : Int) := of_decide_eq_true (by first | (with_reducible assumption) | assumption)
                                have q323 : x93_3 < (y320.length : Int) := of_decide_eq_true (by first | (with_reducible assumption) | assumption)
                                obtain ⟨ad323, A323_0, c323_0, e323, hx323_0, hl323_0, hi323_0⟩ := at_T58 (Kd.N_reads' HO_91.out).2.2 x93_3 p323 q323
                                cases e323
                                obtain ⟨ce323, hce323, hMe323, hcc323⟩ := Kd.N_get HO_91.out z58 x93_3 p323 (by first | exact q323 | exact of_decide_eq_true (by first | (with_reducible assumption) | assumption) | (have e_ := (Kd.N_reads' HO_91.out).1; omega))
                                obtain ⟨ua323_0, uc323_0, rfl, ul323_0, ge323_0⟩ := k58_openF hMe323
                                have hv323_0 := hcc323 0 _ rfl
                                rw [Nat.add_zero, show (k58).sz = 1 from rfl, Nat.mul_one] at hv323_0
                                replace hv323_0 := Option.some.inj (hv323_0.symm.trans hx323_0)
                                injection hv323_0 with hva_ hvn_ hvc_
                                rw [hva_] at ge323_0
                                rw [hvc_] at ul323_0
                                have HL323_0 := Aside0.mk (show Kd.V k85 85 _ w.heap.size _ _ ((rd_T58 y320 x93_3).f0) from Kd.V_mk ul323_0 ge323_0)
                                clear hva_ hvn_ hvc_ ge323_0 ul323_0 hcc323 hce323; have HR323_0 := Aside0.mk hi323_0; have HC323_0 := Aside0.mk hl323_0; clear hi323_0 hl323_0
                                replace p323 := eq_true p323
                                replace q323 := eq_true q323
                                go_wp2_with (first | ((with_reducible refine gate_dst (N := 19) rfl ?_); (try (refine gate_guard (by rfl) ?_; dsimp only)); refine box_event ?hg (N := 19) ?hd (cs := #[.slice none 0 0]) (t := 58) ?hr ?_; (case hd => rfl); (case hg => rfl); (case hr => first | (go_simp; done) | (go_simp; rfl)); intro gb324 hg w98 hbox hb; have n0_ := Aside0.mk (Kd.N_below (Kd.N_elderB (by (with_reducible repeat (first | apply Kd.N_alloc | apply Kd.N_drewN | apply Kd.N_drew)); exact HO_91.out) gb324 (Nat.le_of_eq hg.symm)) hb); have n1_ := Aside0.mk (Kd.V_below (Kd.V_elderB (by (with_reducible repeat (first | apply Kd.V_alloc | apply Kd.V_drewN | apply Kd.V_drew)); exact HO_300000.out) gb324 (Nat.le_of_eq hg.symm)) hb); have n2_ := Aside0.mk (Kd.V_below (Kd.V_elderB (by (with_reducible repeat (first | apply Kd.V_alloc | apply Kd.V_drewN | apply Kd.V_drew)); exact HO_309000.out) gb324 (Nat.le_of_eq hg.symm)) hb); have n3_ := Aside0.mk (Kd.V_below (Kd.V_elderB (by (with_reducible repeat (first | apply Kd.V_alloc | apply Kd.V_drewN | apply Kd.V_drew)); exact HL323_0.out) gb324 (Nat.le_of_eq hg.symm)) hb); have n4_ := Aside0.mk (blk_below (g := gb299) (o := .cells #[.slice A1_0 l1_0.length c1_0] 58 (0, 0)) (by (with_reducible repeat (first|refine zN ?_ _|refine zD ?_|refine zA ?_ _)); exact BK299.out) hb); have n5_ := Aside0.mk (blk_below (g := gb308) (o := .cells #[.slice Ao21 t304.length co21] 58 (0, 0)) (by (with_reducible repeat (first|refine zN ?_ _|refine zD ?_|refine zA ?_ _)); exact BK308.out) hb); have n6_ := Aside0.mk (Kd.C_below (by repeat (first | (with_reducible exact HR323_0.out) | (with_reducible refine Kd.C_alloc ?_ _) | (with_reducible refine Kd.C_drewN ?_ _) | (with_reducible refine Kd.C_drew ?_) | exact HR323_0.out)) hb); have n7_ := Aside0.mk (below_step (by repeat (first | (with_reducible first|exact HB.out|apply zE|apply zB|apply zC | refine zJ ?_ GE299.out | refine zJ ?_ GE308.out) | exact HB.out)) hb); have n8_ := Aside0.mk (hbox); have n9_ := Aside0.mk ((by rw [hg]; exact (below_size (by repeat (first | (with_reducible first|exact HB.out|apply zE|apply zB|apply zC | refine zJ ?_ GE299.out | refine zJ ?_ GE308.out) | exact HB.out))) : w.heap.size ≤ gb324)); have n10_ := Aside0.mk ((by rw [hg]; exact (below_size (by repeat (first | (with_reducible first|exact HB.out|apply zE|apply zB|apply zC | refine zJ ?_ GE299.out | refine zJ ?_ GE308.out) | exact HB.out))) : w.heap.size ≤ gb324)); have n11_ := Aside0.mk ((by rw [hg]; exact Nat.ne_of_lt (blk_lt (g := gb299) (o := .cells #[.slice A1_0 l1_0.length c1_0] 58 (0, 0)) (by (with_reducible repeat (first|refine zN ?_ _|refine zD ?_|refine zA ?_ _)); exact BK299.out)) : gb299 ≠ gb324)); have n12_ := Aside0.mk ((by rw [hg]; exact Nat.ne_of_gt (blk_lt (g := gb299) (o := .cells #[.slice A1_0 l1_0.length c1_0] 58 (0, 0)) (by (with_reducible repeat (first|refine zN ?_ _|refine zD ?_|refine zA ?_ _)); exact BK299.out)) : gb324 ≠ gb299)); have n13_ := Aside0.mk ((by rw [hg]; exact Nat.ne_of_lt (blk_lt (g := gb308) (o := .cells #[.slice Ao21 t304.length co21] 58 (0, 0)) (by (with_reducible repeat (first|refine zN ?_ _|refine zD ?_|refine zA ?_ _)); exact BK308.out)) : gb308 ≠ gb324)); have n14_ := Aside0.mk ((by rw [hg]; exact Nat.ne_of_gt (blk_lt (g := gb308) (o := .cells #[.slice Ao21 t304.length co21] 58 (0, 0)) (by (with_reducible repeat (first|refine zN ?_ _|refine zD ?_|refine zA ?_ _)); exact BK308.out)) : gb324 ≠ gb308)); clear HO_91 HO_300000 HO_309000 HL323_0 BK299 BK308 HR323_0 HB; have HO_91 := n0_; have HO_300000 := n1_; have HO_309000 := n2_; have HL323_0 := n3_; have BK299 := n4_; have BK308 := n5_; have HR323_0 := n6_; have HB := n7_; have BK324 := n8_; have GW324 := n9_; have GE324 := n10_; have NB299_324 := n11_; have NB324_299 := n12_; have NB308_324 := n13_; have NB324_308 := n14_; clear n0_ n1_ n2_ n3_ n4_ n5_ n6_ n7_ n8_ n9_ n10_ n11_ n12_ n13_ n14_ hb hbox hg; have hnb99 := NB324_299.out; have hnc99 := NB299_324.out; have hnb100 := NB324_308.out; have hnc100 := NB308_324.out; have hcz101_0 : w98.cell? ⟨gb324, 0, none⟩ = some (.slice none 0 0) := (blk_cell BK324.out 0).trans rfl; have hfz101_0 := blk_frozen BK324.out 0) | ((with_reducible refine gate_callee (f := 34) rfl ?_); refine goesL_ (some 102) rfl rfl Tryd.func34 (by kernel_rfl) rfl #[.agg #[.slice A323_0 ((rd_T58 y320 x93_3).f0).length c323_0], .string a2, .string a3, .string a4] rfl (by (try simp only [List.map_toArray, List.map_cons, List.map_nil]); first | done | rfl | (simp only [List.length_drop, List.length_take]; rfl)) ?_; (with_reducible refine (bucket_Subject.calls k3 _ _ ((rd_T58 y320 x93_3).f0) a2 a3 a4 t325 t326 _ ?side1 ?side2 ?side3 A57.out).mono ?_); (case side1 => repeat (first | exact ((Kd.V_reads' (by (with_reducible repeat (first | apply Kd.V_alloc | apply Kd.V_drewN | apply Kd.V_drew)); exact (Kd.V_mono (Kd.V_far (p := ⟨gb324, 0, none⟩) (Kd.V_mono HL323_0.out (fun k_ hk => (⟨hk, hk.2⟩ : _ ∧ k_ ≠ gb324))) (fun _ hk => hk.2) (.slice A323_0 ((rd_T58 y320 x93_3).f0).length c323_0)) (fun _ h_ => h_.1)))).2.2) | (with_reducible refine Kd.C_alloc ?_ _) | (with_reducible refine Kd.C_drewN ?_ _) | (with_reducible refine Kd.C_drew ?_))); (case side2 => exact HC323_0.out); (case side3 => exact GL.below HGL.out (by repeat (first | (with_reducible first|exact HB.out|apply zE|apply zB|apply zC | refine zJ ?_ GE299.out | refine zJ ?_ GE308.out | refine zJ ?_ GE324.out) | exact HB.out))); rintro e w102 ⟨rfl, hb⟩; refine ⟨_, rfl, ?_⟩; have n0_ := Aside0.mk (Kd.N_below (by (with_reducible repeat (first | apply Kd.N_alloc | apply Kd.N_drewN | apply Kd.N_drew)); exact (Kd.N_mono (Kd.N_far (p := ⟨gb324, 0, none⟩) (Kd.N_mono HO_91.out (fun k_ hk => (⟨hk, hk.2⟩ : _ ∧ k_ ≠ gb324))) (fun _ hk => hk.2) (.slice A323_0 ((rd_T58 y320 x93_3).f0).length c323_0)) (fun _ h_ => h_.1))) hb); have n1_ := Aside0.mk (Kd.V_below (by (with_reducible repeat (first | apply Kd.V_alloc | apply Kd.V_drewN | apply Kd.V_drew)); exact (Kd.V_mono (Kd.V_far (p := ⟨gb324, 0, none⟩) (Kd.V_mono HO_300000.out (fun k_ hk => (⟨hk, hk.2⟩ : _ ∧ k_ ≠ gb324))) (fun _ hk => hk.2) (.slice A323_0 ((rd_T58 y320 x93_3).f0).length c323_0)) (fun _ h_ => h_.1))) hb); have n2_ := Aside0.mk (Kd.V_below (by (with_reducible repeat (first | apply Kd.V_alloc | apply Kd.V_drewN | apply Kd.V_drew)); exact (Kd.V_mono (Kd.V_far (p := ⟨gb324, 0, none⟩) (Kd.V_mono HO_309000.out (fun k_ hk => (⟨hk, hk.2⟩ : _ ∧ k_ ≠ gb324))) (fun _ hk => hk.2) (.slice A323_0 ((rd_T58 y320 x93_3).f0).length c323_0)) (fun _ h_ => h_.1))) hb); have n3_ := Aside0.mk (Kd.V_below (by (with_reducible repeat (first | apply Kd.V_alloc | apply Kd.V_drewN | apply Kd.V_drew)); exact (Kd.V_mono (Kd.V_far (p := ⟨gb324, 0, none⟩) (Kd.V_mono HL323_0.out (fun k_ hk => (⟨hk, hk.2⟩ : _ ∧ k_ ≠ gb324))) (fun _ hk => hk.2) (.slice A323_0 ((rd_T58 y320 x93_3).f0).length c323_0)) (fun _ h_ => h_.1))) hb); have n4_ := Aside0.mk (blk_below (g := gb299) (o := .cells #[.slice A1_0 l1_0.length c1_0] 58 (0, 0)) (by (with_reducible repeat (first|refine zN ?_ _|refine zD ?_|refine zA ?_ _)); refine blk_far ?_ NB299_324.out _; (with_reducible repeat (first|refine zN ?_ _|refine zD ?_|refine zA ?_ _)); exact BK299.out) hb); have n5_ := Aside0.mk (blk_below (g := gb308) (o := .cells #[.slice Ao21 t304.length co21] 58 (0, 0)) (by (with_reducible repeat (first|refine zN ?_ _|refine zD ?_|refine zA ?_ _)); refine blk_far ?_ NB308_324.out _; (with_reducible repeat (first|refine zN ?_ _|refine zD ?_|refine zA ?_ _)); exact BK308.out) hb); have n6_ := Aside0.mk (Kd.C_below ((Kd.V_reads' (by (with_reducible repeat (first | apply Kd.V_alloc | apply Kd.V_drewN | apply Kd.V_drew)); exact (Kd.V_mono (Kd.V_far (p := ⟨gb324, 0, none⟩) (Kd.V_mono HL323_0.out (fun k_ hk => (⟨hk, hk.2⟩ : _ ∧ k_ ≠ gb324))) (fun _ hk => hk.2) (.slice A323_0 ((rd_T58 y320 x93_3).f0).length c323_0)) (fun _ h_ => h_.1)))).2.2) hb); have n7_ := Aside0.mk (blk_below (g := gb324) (o := .cells #[.slice A323_0 ((rd_T58 y320 x93_3).f0).length c323_0] 58 (0, 0)) (by (with_reducible repeat (first|refine zN ?_ _|refine zD ?_|refine zA ?_ _)); refine blk_put (cs := #[.slice none 0 0]) ?_ 0 _ rfl; (with_reducible repeat (first|refine zN ?_ _|refine zD ?_|refine zA ?_ _)); exact BK324.out) hb); have n8_ := Aside0.mk (below_step (by repeat (first | (with_reducible first|exact HB.out|apply zE|apply zB|apply zC | refine zJ ?_ GE299.out | refine zJ ?_ GE308.out | refine zJ ?_ GE324.out) | exact HB.out)) hb); clear HO_91 HO_300000 HO_309000 HL323_0 BK299 BK308 HR323_0 BK324 HB; have HO_91 := n0_; have HO_300000 := n1_; have HO_309000 := n2_; have HL323_0 := n3_; have BK299 := n4_; have BK308 := n5_; have HR323_0 := n6_; have BK324 := n7_; have HB := n8_; clear n0_ n1_ n2_ n3_ n4_ n5_ n6_ n7_ n8_; (try clear hb); (try clear hb2); (try clear hk); (try clear hi); (try clear hge); have hcz103_0 : w102.cell? ⟨gb324, 0, none⟩ = some (.slice A323_0 ((rd_T58 y320 x93_3).f0).length c323_0) := (blk_cell BK324.out 0).trans rfl; have hfz103_0 := blk_frozen BK324.out 0) | ((with_reducible refine gate_callee (f := 35) rfl ?_); refine goesL_ (some 110) rfl rfl Tryd.func35 (by kernel_rfl) rfl #[.agg #[.slice A323_0 ((rd_T58 y320 x93_3).f0).length c323_0], .string a2, .string a3, .string a4] rfl (by (try simp only [List.map_toArray, List.map_cons, List.map_nil]); first | done | rfl | (simp only [List.length_drop, List.length_take]; rfl)) ?_; (with_reducible refine (flagstoneref13_Subject.calls k3 _ _ ((rd_T58 y320 x93_3).f0) a2 a3 a4 t327 t328 _ ?side1 ?side2 A58.out).mono ?_); (case side1 => repeat (first | exact (by repeat (first | (with_reducible exact HR323_0.out) | (with_reducible refine Kd.C_alloc ?_ _) | (with_reducible refine Kd.C_drewN ?_ _) | (with_reducible refine Kd.C_drew ?_) | exact HR323_0.out)) | (with_reducible refine Kd.C_alloc ?_ _) | (with_reducible refine Kd.C_drewN ?_ _) | (with_reducible refine Kd.C_drew ?_))); (case side2 => exact HC323_0.out); rintro e w104 ⟨rfl, hb⟩; refine ⟨_, rfl, ?_⟩; have n0_ := Aside0.mk (Kd.N_below (by (with_reducible repeat (first | apply Kd.N_alloc | apply Kd.N_drewN | apply Kd.N_drew)); exact HO_91.out) hb); have n1_ := Aside0.mk (Kd.V_below (by (with_reducible repeat (first | apply Kd.V_alloc | apply Kd.V_drewN | apply Kd.V_drew)); exact HO_300000.out) hb); have n2_ := Aside0.mk (Kd.V_below (by (with_reducible repeat (first | apply Kd.V_alloc | apply Kd.V_drewN | apply Kd.V_drew)); exact HO_309000.out) hb); have n3_ := Aside0.mk (Kd.V_below (by (with_reducible repeat (first | apply Kd.V_alloc | apply Kd.V_drewN | apply Kd.V_drew)); exact HL323_0.out) hb); have n4_ := Aside0.mk (blk_below (g := gb299) (o := .cells #[.slice A1_0 l1_0.length c1_0] 58 (0, 0)) (by (with_reducible repeat (first|refine zN ?_ _|refine zD ?_|refine zA ?_ _)); exact BK299.out) hb); have n5_ := Aside0.mk (blk_below (g := gb308) (o := .cells #[.slice Ao21 t304.length co21] 58 (0, 0)) (by (with_reducible repeat (first|refine zN ?_ _|refine zD ?_|refine zA ?_ _)); exact BK308.out) hb); have n6_ := Aside0.mk (Kd.C_below (by repeat (first | (with_reducible exact HR323_0.out) | (with_reducible refine Kd.C_alloc ?_ _) | (with_reducible refine Kd.C_drewN ?_ _) | (with_reducible refine Kd.C_drew ?_) | exact HR323_0.out)) hb); have n7_ := Aside0.mk (blk_below (g := gb324) (o := .cells #[.slice A323_0 ((rd_T58 y320 x93_3).f0).length c323_0] 58 (0, 0)) (by (with_reducible repeat (first|refine zN ?_ _|refine zD ?_|refine zA ?_ _)); exact BK324.out) hb); have n8_ := Aside0.mk (below_step (by repeat (first | (with_reducible first|exact HB.out|apply zE|apply zB|apply zC | refine zJ ?_ GE299.out | refine zJ ?_ GE308.out | refine zJ ?_ GE324.out) | exact HB.out)) hb); clear HO_91 HO_300000 HO_309000 HL323_0 BK299 BK308 HR323_0 BK324 HB; have HO_91 := n0_; have HO_300000 := n1_; have HO_309000 := n2_; have HL323_0 := n3_; have BK299 := n4_; have BK308 := n5_; have HR323_0 := n6_; have BK324 := n7_; have HB := n8_; clear n0_ n1_ n2_ n3_ n4_ n5_ n6_ n7_ n8_; (try clear hb); (try clear hb2); (try clear hk); (try clear hi); (try clear hge); have hcz105_0 : w104.cell? ⟨gb324, 0, none⟩ = some (.slice A323_0 ((rd_T58 y320 x93_3).f0).length c323_0) := (blk_cell BK324.out 0).trans rfl; have hfz105_0 := blk_frozen BK324.out 0) | ((with_reducible refine gate_callee (f := 34) rfl ?_); refine goesL_ (some 116) rfl rfl Tryd.func34 (by kernel_rfl) rfl #[.agg #[.slice A323_0 ((rd_T58 y320 x93_3).f0).length c323_0], .string (⟨#[117, 115, 101, 114]⟩ : ByteArray), .string (⟨#[107, 101, 121]⟩ : ByteArray), .string a4] rfl (by (try simp only [List.map_toArray, List.map_cons, List.map_nil]); first | done | rfl | (simp only [List.length_drop, List.length_take]; rfl)) ?_; (with_reducible refine (bucket_Subject.calls k3 _ _ ((rd_T58 y320 x93_3).f0) (⟨#[117, 115, 101, 114]⟩ : ByteArray) (⟨#[107, 101, 121]⟩ : ByteArray) a4 t329 t330 _ ?side1 ?side2 ?side3 A59.out).mono ?_); (case side1 => repeat (first | exact (by repeat (first | (with_reducible exact HR323_0.out) | (with_reducible refine Kd.C_alloc ?_ _) | (with_reducible refine Kd.C_drewN ?_ _) | (with_reducible refine Kd.C_drew ?_) | exact HR323_0.out)) | (with_reducible refine Kd.C_alloc ?_ _) | (with_reducible refine Kd.C_drewN ?_ _) | (with_reducible refine Kd.C_drew ?_))); (case side2 => exact HC323_0.out); (case side3 => exact GL.below HGL.out (by repeat (first | (with_reducible first|exact HB.out|apply zE|apply zB|apply zC | refine zJ ?_ GE299.out | refine zJ ?_ GE308.out | refine zJ ?_ GE324.out) | exact HB.out))); rintro e w106 ⟨rfl, hb⟩; refine ⟨_, rfl, ?_⟩; have n0_ := Aside0.mk (Kd.N_below (by (with_reducible repeat (first | apply Kd.N_alloc | apply Kd.N_drewN | apply Kd.N_drew)); exact HO_91.out) hb); have n1_ := Aside0.mk (Kd.V_below (by (with_reducible repeat (first | apply Kd.V_alloc | apply Kd.V_drewN | apply Kd.V_drew)); exact HO_300000.out) hb); have n2_ := Aside0.mk (Kd.V_below (by (with_reducible repeat (first | apply Kd.V_alloc | apply Kd.V_drewN | apply Kd.V_drew)); exact HO_309000.out) hb); have n3_ := Aside0.mk (Kd.V_below (by (with_reducible repeat (first | apply Kd.V_alloc | apply Kd.V_drewN | apply Kd.V_drew)); exact HL323_0.out) hb); have n4_ := Aside0.mk (blk_below (g := gb299) (o := .cells #[.slice A1_0 l1_0.length c1_0] 58 (0, 0)) (by (with_reducible repeat (first|refine zN ?_ _|refine zD ?_|refine zA ?_ _)); exact BK299.out) hb); have n5_ := Aside0.mk (blk_below (g := gb308) (o := .cells #[.slice Ao21 t304.length co21] 58 (0, 0)) (by (with_reducible repeat (first|refine zN ?_ _|refine zD ?_|refine zA ?_ _)); exact BK308.out) hb); have n6_ := Aside0.mk (Kd.C_below (by repeat (first | (with_reducible exact HR323_0.out) | (with_reducible refine Kd.C_alloc ?_ _) | (with_reducible refine Kd.C_drewN ?_ _) | (with_reducible refine Kd.C_drew ?_) | exact HR323_0.out)) hb); have n7_ := Aside0.mk (blk_below (g := gb324) (o := .cells #[.slice A323_0 ((rd_T58 y320 x93_3).f0).length c323_0] 58 (0, 0)) (by (with_reducible repeat (first|refine zN ?_ _|refine zD ?_|refine zA ?_ _)); exact BK324.out) hb); have n8_ := Aside0.mk (below_step (by repeat (first | (with_reducible first|exact HB.out|apply zE|apply zB|apply zC | refine zJ ?_ GE299.out | refine zJ ?_ GE308.out | refine zJ ?_ GE324.out) | exact HB.out)) hb); clear HO_91 HO_300000 HO_309000 HL323_0 BK299 BK308 HR323_0 BK324 HB; have HO_91 := n0_; have HO_300000 := n1_; have HO_309000 := n2_; have HL323_0 := n3_; have BK299 := n4_; have BK308 := n5_; have HR323_0 := n6_; have BK324 := n7_; have HB := n8_; clear n0_ n1_ n2_ n3_ n4_ n5_ n6_ n7_ n8_; (try clear hb); (try clear hb2); (try clear hk); (try clear hi); (try clear hge); have hcz107_0 : w106.cell? ⟨gb324, 0, none⟩ = some (.slice A323_0 ((rd_T58 y320 x93_3).f0).length c323_0) := (blk_cell BK324.out 0).trans rfl; have hfz107_0 := blk_frozen BK324.out 0) | ((with_reducible refine gate_callee (f := 35) rfl ?_); refine goesL_ (some 122) rfl rfl Tryd.func35 (by kernel_rfl) rfl #[.agg #[.slice A323_0 ((rd_T58 y320 x93_3).f0).length c323_0], .string (⟨#[117, 115, 101, 114]⟩ : ByteArray), .string (⟨#[107, 101, 121]⟩ : ByteArray), .string a4] rfl (by (try simp only [List.map_toArray, List.map_cons, List.map_nil]); first | done | rfl | (simp only [List.length_drop, List.length_take]; rfl)) ?_; (with_reducible refine (flagstoneref13_Subject.calls k3 _ _ ((rd_T58 y320 x93_3).f0) (⟨#[117, 115, 101, 114]⟩ : ByteArray) (⟨#[107, 101, 121]⟩ : ByteArray) a4 t331 t332 _ ?side1 ?side2 A60.out).mono ?_); (case side1 => repeat (first | exact (by repeat (first | (with_reducible exact HR323_0.out) | (with_reducible refine Kd.C_alloc ?_ _) | (with_reducible refine Kd.C_drewN ?_ _) | (with_reducible refine Kd.C_drew ?_) | exact HR323_0.out)) | (with_reducible refine Kd.C_alloc ?_ _) | (with_reducible refine Kd.C_drewN ?_ _) | (with_reducible refine Kd.C_drew ?_))); (case side2 => exact HC323_0.out); rintro e w108 ⟨rfl, hb⟩; refine ⟨_, rfl, ?_⟩; have n0_ := Aside0.mk (Kd.N_below (by (with_reducible repeat (first | apply Kd.N_alloc | apply Kd.N_drewN | apply Kd.N_drew)); exact HO_91.out) hb); have n1_ := Aside0.mk (Kd.V_below (by (with_reducible repeat (first | apply Kd.V_alloc | apply Kd.V_drewN | apply Kd.V_drew)); exact HO_300000.out) hb); have n2_ := Aside0.mk (Kd.V_below (by (with_reducible repeat (first | apply Kd.V_alloc | apply Kd.V_drewN | apply Kd.V_drew)); exact HO_309000.out) hb); have n3_ := Aside0.mk (Kd.V_below (by (with_reducible repeat (first | apply Kd.V_alloc | apply Kd.V_drewN | apply Kd.V_drew)); exact HL323_0.out) hb); have n4_ := Aside0.mk (blk_below (g := gb299) (o := .cells #[.slice A1_0 l1_0.length c1_0] 58 (0, 0)) (by (with_reducible repeat (first|refine zN ?_ _|refine zD ?_|refine zA ?_ _)); exact BK299.out) hb); have n5_ := Aside0.mk (blk_below (g := gb308) (o := .cells #[.slice Ao21 t304.length co21] 58 (0, 0)) (by (with_reducible repeat (first|refine zN ?_ _|refine zD ?_|refine zA ?_ _)); exact BK308.out) hb); have n6_ := Aside0.mk (Kd.C_below (by repeat (first | (with_reducible exact HR323_0.out) | (with_reducible refine Kd.C_alloc ?_ _) | (with_reducible refine Kd.C_drewN ?_ _) | (with_reducible refine Kd.C_drew ?_) | exact HR323_0.out)) hb); have n7_ := Aside0.mk (blk_below (g := gb324) (o := .cells #[.slice A323_0 ((rd_T58 y320 x93_3).f0).length c323_0] 58 (0, 0)) (by (with_reducible repeat (first|refine zN ?_ _|refine zD ?_|refine zA ?_ _)); exact BK324.out) hb); have n8_ := Aside0.mk (below_step (by repeat (first | (with_reducible first|exact HB.out|apply zE|apply zB|apply zC | refine zJ ?_ GE299.out | refine zJ ?_ GE308.out | refine zJ ?_ GE324.out) | exact HB.out)) hb); clear HO_91 HO_300000 HO_309000 HL323_0 BK299 BK308 HR323_0 BK324 HB; have HO_91 := n0_; have HO_300000 := n1_; have HO_309000 := n2_; have HL323_0 := n3_; have BK299 := n4_; have BK308 := n5_; have HR323_0 := n6_; have BK324 := n7_; have HB := n8_; clear n0_ n1_ n2_ n3_ n4_ n5_ n6_ n7_ n8_; (try clear hb); (try clear hb2); (try clear hk); (try clear hi); (try clear hge)))
                                go_ret
                                exact ⟨by first | rfl | (simp [errW_none, errW_some] <;> rfl) | (simp [*, errW_none, errW_some] <;> rfl), by repeat (first | (with_reducible first|exact HB.out|apply zE|apply zB|apply zC | refine zJ ?_ GE299.out | refine zJ ?_ GE308.out | refine zJ ?_ GE324.out) | exact HB.out)⟩
                          · rw [if_neg c61] at H
                            have c61b0 : (t325 == t327) = false := beq_eq_false_iff_ne.mpr c61
                            have c61b1 : (t325 != t327) = true := bne_iff_ne.mpr c61
                            obtain rfl := Option.some.inj H
                            have p323 : 0 ≤ (x93_3 : Int) := of_decide_eq_true (by first | (with_reducible assumption) | assumption)
                            have q323 : x93_3 < (y320.length : Int) := of_decide_eq_true (by first | (with_reducible assumption) | assumption)
                            obtain ⟨ad323, A323_0, c323_0, e323, hx323_0, hl323_0, hi323_0⟩ := at_T58 (Kd.N_reads' HO_91.out).2.2 x93_3 p323 q323
                            cases e323
                            obtain ⟨ce323, hce323, hMe323, hcc323⟩ := Kd.N_get HO_91.out z58 x93_3 p323 (by first | exact q323 | exact of_decide_eq_true (by first | (with_reducible assumption) | assumption) | (have e_ := (Kd.N_reads' HO_91.out).1; omega))
                            obtain ⟨ua323_0, uc323_0, rfl, ul323_0, ge323_0⟩ := k58_openF hMe323
                            have hv323_0 := hcc323 0 _ rfl
                            rw [Nat.add_zero, show (k58).sz = 1 from rfl, Nat.mul_one] at hv323_0
                            replace hv323_0 := Option.some.inj (hv323_0.symm.trans hx323_0)
                            injection hv323_0 with hva_ hvn_ hvc_
                            rw [hva_] at ge323_0
                            rw [hvc_] at ul323_0
                            have HL323_0 := Aside0.mk (show Kd.V k85 85 _ w.heap.size _ _ ((rd_T58 y320 x93_3).f0) from Kd.V_mk ul323_0 ge323_0)
                            clear hva_ hvn_ hvc_ ge323_0 ul323_0 hcc323 hce323; have HR323_0 := Aside0.mk hi323_0; have HC323_0 := Aside0.mk hl323_0; clear hi323_0 hl323_0
                            replace p323 := eq_true p323
                            replace q323 := eq_true q323
                            go_wp2_with (first | ((with_reducible refine gate_dst (N := 19) rfl ?_); (try (refine gate_guard (by rfl) ?_; dsimp only)); refine box_event ?hg (N := 19) ?hd (cs := #[.slice none 0 0]) (t := 58) ?hr ?_; (case hd => rfl); (case hg => rfl); (case hr => first | (go_simp; done) | (go_simp; rfl)); intro gb324 hg w109 hbox hb; have n0_ := Aside0.mk (Kd.N_below (Kd.N_elderB (by (with_reducible repeat (first | apply Kd.N_alloc | apply Kd.N_drewN | apply Kd.N_drew)); exact HO_91.out) gb324 (Nat.le_of_eq hg.symm)) hb); have n1_ := Aside0.mk (Kd.V_below (Kd.V_elderB (by (with_reducible repeat (first | apply Kd.V_alloc | apply Kd.V_drewN | apply Kd.V_drew)); exact HO_300000.out) gb324 (Nat.le_of_eq hg.symm)) hb); have n2_ := Aside0.mk (Kd.V_below (Kd.V_elderB (by (with_reducible repeat (first | apply Kd.V_alloc | apply Kd.V_drewN | apply Kd.V_drew)); exact HO_309000.out) gb324 (Nat.le_of_eq hg.symm)) hb); have n3_ := Aside0.mk (Kd.V_below (Kd.V_elderB (by (with_reducible repeat (first | apply Kd.V_alloc | apply Kd.V_drewN | apply Kd.V_drew)); exact HL323_0.out) gb324 (Nat.le_of_eq hg.symm)) hb); have n4_ := Aside0.mk (blk_below (g := gb299) (o := .cells #[.slice A1_0 l1_0.length c1_0] 58 (0, 0)) (by (with_reducible repeat (first|refine zN ?_ _|refine zD ?_|refine zA ?_ _)); exact BK299.out) hb); have n5_ := Aside0.mk (blk_below (g := gb308) (o := .cells #[.slice Ao21 t304.length co21] 58 (0, 0)) (by (with_reducible repeat (first|refine zN ?_ _|refine zD ?_|refine zA ?_ _)); exact BK308.out) hb); have n6_ := Aside0.mk (Kd.C_below (by repeat (first | (with_reducible exact HR323_0.out) | (with_reducible refine Kd.C_alloc ?_ _) | (with_reducible refine Kd.C_drewN ?_ _) | (with_reducible refine Kd.C_drew ?_) | exact HR323_0.out)) hb); have n7_ := Aside0.mk (below_step (by repeat (first | (with_reducible first|exact HB.out|apply zE|apply zB|apply zC | refine zJ ?_ GE299.out | refine zJ ?_ GE308.out) | exact HB.out)) hb); have n8_ := Aside0.mk (hbox); have n9_ := Aside0.mk ((by rw [hg]; exact (below_size (by repeat (first | (with_reducible first|exact HB.out|apply zE|apply zB|apply zC | refine zJ ?_ GE299.out | refine zJ ?_ GE308.out) | exact HB.out))) : w.heap.size ≤ gb324)); have n10_ := Aside0.mk ((by rw [hg]; exact (below_size (by repeat (first | (with_reducible first|exact HB.out|apply zE|apply zB|apply zC | refine zJ ?_ GE299.out | refine zJ ?_ GE308.out) | exact HB.out))) : w.heap.size ≤ gb324)); have n11_ := Aside0.mk ((by rw [hg]; exact Nat.ne_of_lt (blk_lt (g := gb299) (o := .cells #[.slice A1_0 l1_0.length c1_0] 58 (0, 0)) (by (with_reducible repeat (first|refine zN ?_ _|refine zD ?_|refine zA ?_ _)); exact BK299.out)) : gb299 ≠ gb324)); have n12_ := Aside0.mk ((by rw [hg]; exact Nat.ne_of_gt (blk_lt (g := gb299) (o := .cells #[.slice A1_0 l1_0.length c1_0] 58 (0, 0)) (by (with_reducible repeat (first|refine zN ?_ _|refine zD ?_|refine zA ?_ _)); exact BK299.out)) : gb324 ≠ gb299)); have n13_ := Aside0.mk ((by rw [hg]; exact Nat.ne_of_lt (blk_lt (g := gb308) (o := .cells #[.slice Ao21 t304.length co21] 58 (0, 0)) (by (with_reducible repeat (first|refine zN ?_ _|refine zD ?_|refine zA ?_ _)); exact BK308.out)) : gb308 ≠ gb324)); have n14_ := Aside0.mk ((by rw [hg]; exact Nat.ne_of_gt (blk_lt (g := gb308) (o := .cells #[.slice Ao21 t304.length co21] 58 (0, 0)) (by (with_reducible repeat (first|refine zN ?_ _|refine zD ?_|refine zA ?_ _)); exact BK308.out)) : gb324 ≠ gb308)); clear HO_91 HO_300000 HO_309000 HL323_0 BK299 BK308 HR323_0 HB; have HO_91 := n0_; have HO_300000 := n1_; have HO_309000 := n2_; have HL323_0 := n3_; have BK299 := n4_; have BK308 := n5_; have HR323_0 := n6_; have HB := n7_; have BK324 := n8_; have GW324 := n9_; have GE324 := n10_; have NB299_324 := n11_; have NB324_299 := n12_; have NB308_324 := n13_; have NB324_308 := n14_; clear n0_ n1_ n2_ n3_ n4_ n5_ n6_ n7_ n8_ n9_ n10_ n11_ n12_ n13_ n14_ hb hbox hg; have hnb110 := NB324_299.out; have hnc110 := NB299_324.out; have hnb111 := NB324_308.out; have hnc111 := NB308_324.out; have hcz112_0 : w109.cell? ⟨gb324, 0, none⟩ = some (.slice none 0 0) := (blk_cell BK324.out 0).trans rfl; have hfz112_0 := blk_frozen BK324.out 0) | ((with_reducible refine gate_callee (f := 34) rfl ?_); refine goesL_ (some 102) rfl rfl Tryd.func34 (by kernel_rfl) rfl #[.agg #[.slice A323_0 ((rd_T58 y320 x93_3).f0).length c323_0], .string a2, .string a3, .string a4] rfl (by (try simp only [List.map_toArray, List.map_cons, List.map_nil]); first | done | rfl | (simp only [List.length_drop, List.length_take]; rfl)) ?_; (with_reducible refine (bucket_Subject.calls k3 _ _ ((rd_T58 y320 x93_3).f0) a2 a3 a4 t325 t326 _ ?side1 ?side2 ?side3 A57.out).mono ?_); (case side1 => repeat (first | exact ((Kd.V_reads' (by (with_reducible repeat (first | apply Kd.V_alloc | apply Kd.V_drewN | apply Kd.V_drew)); exact (Kd.V_mono (Kd.V_far (p := ⟨gb324, 0, none⟩) (Kd.V_mono HL323_0.out (fun k_ hk => (⟨hk, hk.2⟩ : _ ∧ k_ ≠ gb324))) (fun _ hk => hk.2) (.slice A323_0 ((rd_T58 y320 x93_3).f0).length c323_0)) (fun _ h_ => h_.1)))).2.2) | (with_reducible refine Kd.C_alloc ?_ _) | (with_reducible refine Kd.C_drewN ?_ _) | (with_reducible refine Kd.C_drew ?_))); (case side2 => exact HC323_0.out); (case side3 => exact GL.below HGL.out (by repeat (first | (with_reducible first|exact HB.out|apply zE|apply zB|apply zC | refine zJ ?_ GE299.out | refine zJ ?_ GE308.out | refine zJ ?_ GE324.out) | exact HB.out))); rintro e w113 ⟨rfl, hb⟩; refine ⟨_, rfl, ?_⟩; have n0_ := Aside0.mk (Kd.N_below (by (with_reducible repeat (first | apply Kd.N_alloc | apply Kd.N_drewN | apply Kd.N_drew)); exact (Kd.N_mono (Kd.N_far (p := ⟨gb324, 0, none⟩) (Kd.N_mono HO_91.out (fun k_ hk => (⟨hk, hk.2⟩ : _ ∧ k_ ≠ gb324))) (fun _ hk => hk.2) (.slice A323_0 ((rd_T58 y320 x93_3).f0).length c323_0)) (fun _ h_ => h_.1))) hb); have n1_ := Aside0.mk (Kd.V_below (by (with_reducible repeat (first | apply Kd.V_alloc | apply Kd.V_drewN | apply Kd.V_drew)); exact (Kd.V_mono (Kd.V_far (p := ⟨gb324, 0, none⟩) (Kd.V_mono HO_300000.out (fun k_ hk => (⟨hk, hk.2⟩ : _ ∧ k_ ≠ gb324))) (fun _ hk => hk.2) (.slice A323_0 ((rd_T58 y320 x93_3).f0).length c323_0)) (fun _ h_ => h_.1))) hb); have n2_ := Aside0.mk (Kd.V_below (by (with_reducible repeat (first | apply Kd.V_alloc | apply Kd.V_drewN | apply Kd.V_drew)); exact (Kd.V_mono (Kd.V_far (p := ⟨gb324, 0, none⟩) (Kd.V_mono HO_309000.out (fun k_ hk => (⟨hk, hk.2⟩ : _ ∧ k_ ≠ gb324))) (fun _ hk => hk.2) (.slice A323_0 ((rd_T58 y320 x93_3).f0).length c323_0)) (fun _ h_ => h_.1))) hb); have n3_ := Aside0.mk (Kd.V_below (by (with_reducible repeat (first | apply Kd.V_alloc | apply Kd.V_drewN | apply Kd.V_drew)); exact (Kd.V_mono (Kd.V_far (p := ⟨gb324, 0, none⟩) (Kd.V_mono HL323_0.out (fun k_ hk => (⟨hk, hk.2⟩ : _ ∧ k_ ≠ gb324))) (fun _ hk => hk.2) (.slice A323_0 ((rd_T58 y320 x93_3).f0).length c323_0)) (fun _ h_ => h_.1))) hb); have n4_ := Aside0.mk (blk_below (g := gb299) (o := .cells #[.slice A1_0 l1_0.length c1_0] 58 (0, 0)) (by (with_reducible repeat (first|refine zN ?_ _|refine zD ?_|refine zA ?_ _)); refine blk_far ?_ NB299_324.out _; (with_reducible repeat (first|refine zN ?_ _|refine zD ?_|refine zA ?_ _)); exact BK299.out) hb); have n5_ := Aside0.mk (blk_below (g := gb308) (o := .cells #[.slice Ao21 t304.length co21] 58 (0, 0)) (by (with_reducible repeat (first|refine zN ?_ _|refine zD ?_|refine zA ?_ _)); refine blk_far ?_ NB308_324.out _; (with_reducible repeat (first|refine zN ?_ _|refine zD ?_|refine zA ?_ _)); exact BK308.out) hb); have n6_ := Aside0.mk (Kd.C_below ((Kd.V_reads' (by (with_reducible repeat (first | apply Kd.V_alloc | apply Kd.V_drewN | apply Kd.V_drew)); exact (Kd.V_mono (Kd.V_far (p := ⟨gb324, 0, none⟩) (Kd.V_mono HL323_0.out (fun k_ hk => (⟨hk, hk.2⟩ : _ ∧ k_ ≠ gb324))) (fun _ hk => hk.2) (.slice A323_0 ((rd_T58 y320 x93_3).f0).length c323_0)) (fun _ h_ => h_.1)))).2.2) hb); have n7_ := Aside0.mk (blk_below (g := gb324) (o := .cells #[.slice A323_0 ((rd_T58 y320 x93_3).f0).length c323_0] 58 (0, 0)) (by (with_reducible repeat (first|refine zN ?_ _|refine zD ?_|refine zA ?_ _)); refine blk_put (cs := #[.slice none 0 0]) ?_ 0 _ rfl; (with_reducible repeat (first|refine zN ?_ _|refine zD ?_|refine zA ?_ _)); exact BK324.out) hb); have n8_ := Aside0.mk (below_step (by repeat (first | (with_reducible first|exact HB.out|apply zE|apply zB|apply zC | refine zJ ?_ GE299.out | refine zJ ?_ GE308.out | refine zJ ?_ GE324.out) | exact HB.out)) hb); clear HO_91 HO_300000 HO_309000 HL323_0 BK299 BK308 HR323_0 BK324 HB; have HO_91 := n0_; have HO_300000 := n1_; have HO_309000 := n2_; have HL323_0 := n3_; have BK299 := n4_; have BK308 := n5_; have HR323_0 := n6_; have BK324 := n7_; have HB := n8_; clear n0_ n1_ n2_ n3_ n4_ n5_ n6_ n7_ n8_; (try clear hb); (try clear hb2); (try clear hk); (try clear hi); (try clear hge); have hcz114_0 : w113.cell? ⟨gb324, 0, none⟩ = some (.slice A323_0 ((rd_T58 y320 x93_3).f0).length c323_0) := (blk_cell BK324.out 0).trans rfl; have hfz114_0 := blk_frozen BK324.out 0) | ((with_reducible refine gate_callee (f := 35) rfl ?_); refine goesL_ (some 110) rfl rfl Tryd.func35 (by kernel_rfl) rfl #[.agg #[.slice A323_0 ((rd_T58 y320 x93_3).f0).length c323_0], .string a2, .string a3, .string a4] rfl (by (try simp only [List.map_toArray, List.map_cons, List.map_nil]); first | done | rfl | (simp only [List.length_drop, List.length_take]; rfl)) ?_; (with_reducible refine (flagstoneref13_Subject.calls k3 _ _ ((rd_T58 y320 x93_3).f0) a2 a3 a4 t327 t328 _ ?side1 ?side2 A58.out).mono ?_); (case side1 => repeat (first | exact (by repeat (first | (with_reducible exact HR323_0.out) | (with_reducible refine Kd.C_alloc ?_ _) | (with_reducible refine Kd.C_drewN ?_ _) | (with_reducible refine Kd.C_drew ?_) | exact HR323_0.out)) | (with_reducible refine Kd.C_alloc ?_ _) | (with_reducible refine Kd.C_drewN ?_ _) | (with_reducible refine Kd.C_drew ?_))); (case side2 => exact HC323_0.out); rintro e w115 ⟨rfl, hb⟩; refine ⟨_, rfl, ?_⟩; have n0_ := Aside0.mk (Kd.N_below (by (with_reducible repeat (first | apply Kd.N_alloc | apply Kd.N_drewN | apply Kd.N_drew)); exact HO_91.out) hb); have n1_ := Aside0.mk (Kd.V_below (by (with_reducible repeat (first | apply Kd.V_alloc | apply Kd.V_drewN | apply Kd.V_drew)); exact HO_300000.out) hb); have n2_ := Aside0.mk (Kd.V_below (by (with_reducible repeat (first | apply Kd.V_alloc | apply Kd.V_drewN | apply Kd.V_drew)); exact HO_309000.out) hb); have n3_ := Aside0.mk (Kd.V_below (by (with_reducible repeat (first | apply Kd.V_alloc | apply Kd.V_drewN | apply Kd.V_drew)); exact HL323_0.out) hb); have n4_ := Aside0.mk (blk_below (g := gb299) (o := .cells #[.slice A1_0 l1_0.length c1_0] 58 (0, 0)) (by (with_reducible repeat (first|refine zN ?_ _|refine zD ?_|refine zA ?_ _)); exact BK299.out) hb); have n5_ := Aside0.mk (blk_below (g := gb308) (o := .cells #[.slice Ao21 t304.length co21] 58 (0, 0)) (by (with_reducible repeat (first|refine zN ?_ _|refine zD ?_|refine zA ?_ _)); exact BK308.out) hb); have n6_ := Aside0.mk (Kd.C_below (by repeat (first | (with_reducible exact HR323_0.out) | (with_reducible refine Kd.C_alloc ?_ _) | (with_reducible refine Kd.C_drewN ?_ _) | (with_reducible refine Kd.C_drew ?_) | exact HR323_0.out)) hb); have n7_ := Aside0.mk (blk_below (g := gb324) (o := .cells #[.slice A323_0 ((rd_T58 y320 x93_3).f0).length c323_0] 58 (0, 0)) (by (with_reducible repeat (first|refine zN ?_ _|refine zD ?_|refine zA ?_ _)); exact BK324.out) hb); have n8_ := Aside0.mk (below_step (by repeat (first | (with_reducible first|exact HB.out|apply zE|apply zB|apply zC | refine zJ ?_ GE299.out | refine zJ ?_ GE308.out | refine zJ ?_ GE324.out) | exact HB.out)) hb); clear HO_91 HO_300000 HO_309000 HL323_0 BK299 BK308 HR323_0 BK324 HB; have HO_91 := n0_; have HO_300000 := n1_; have HO_309000 := n2_; have HL323_0 := n3_; have BK299 := n4_; have BK308 := n5_; have HR323_0 := n6_; have BK324 := n7_; have HB := n8_; clear n0_ n1_ n2_ n3_ n4_ n5_ n6_ n7_ n8_; (try clear hb); (try clear hb2); (try clear hk); (try clear hi); (try clear hge); have hcz116_0 : w115.cell? ⟨gb324, 0, none⟩ = some (.slice A323_0 ((rd_T58 y320 x93_3).f0).length c323_0) := (blk_cell BK324.out 0).trans rfl; have hfz116_0 := blk_frozen BK324.out 0) | ((with_reducible refine gate_callee (f := 34) rfl ?_); refine goesL_ (some 116) rfl rfl Tryd.func34 (by kernel_rfl) rfl #[.agg #[.slice A323_0 ((rd_T58 y320 x93_3).f0).length c323_0], .string (⟨#[117, 115, 101, 114]⟩ : ByteArray), .string (⟨#[107, 101, 121]⟩ : ByteArray), .string a4] rfl (by (try simp only [List.map_toArray, List.map_cons, List.map_nil]); first | done | rfl | (simp only [List.length_drop, List.length_take]; rfl)) ?_; (with_reducible refine (bucket_Subject.calls k3 _ _ ((rd_T58 y320 x93_3).f0) (⟨#[117, 115, 101, 114]⟩ : ByteArray) (⟨#[107, 101, 121]⟩ : ByteArray) a4 t329 t330 _ ?side1 ?side2 ?side3 A59.out).mono ?_); (case side1 => repeat (first | exact (by repeat (first | (with_reducible exact HR323_0.out) | (with_reducible refine Kd.C_alloc ?_ _) | (with_reducible refine Kd.C_drewN ?_ _) | (with_reducible refine Kd.C_drew ?_) | exact HR323_0.out)) | (with_reducible refine Kd.C_alloc ?_ _) | (with_reducible refine Kd.C_drewN ?_ _) | (with_reducible refine Kd.C_drew ?_))); (case side2 => exact HC323_0.out); (case side3 => exact GL.below HGL.out (by repeat (first | (with_reducible first|exact HB.out|apply zE|apply zB|apply zC | refine zJ ?_ GE299.out | refine zJ ?_ GE308.out | refine zJ ?_ GE324.out) | exact HB.out))); rintro e w117 ⟨rfl, hb⟩; refine ⟨_, rfl, ?_⟩; have n0_ := Aside0.mk (Kd.N_below (by (with_reducible repeat (first | apply Kd.N_alloc | apply Kd.N_drewN | apply Kd.N_drew)); exact HO_91.out) hb); have n1_ := Aside0.mk (Kd.V_below (by (with_reducible repeat (first | apply Kd.V_alloc | apply Kd.V_drewN | apply Kd.V_drew)); exact HO_300000.out) hb); have n2_ := Aside0.mk (Kd.V_below (by (with_reducible repeat (first | apply Kd.V_alloc | apply Kd.V_drewN | apply Kd.V_drew)); exact HO_309000.out) hb); have n3_ := Aside0.mk (Kd.V_below (by (with_reducible repeat (first | apply Kd.V_alloc | apply Kd.V_drewN | apply Kd.V_drew)); exact HL323_0.out) hb); have n4_ := Aside0.mk (blk_below (g := gb299) (o := .cells #[.slice A1_0 l1_0.length c1_0] 58 (0, 0)) (by (with_reducible repeat (first|refine zN ?_ _|refine zD ?_|refine zA ?_ _)); exact BK299.out) hb); have n5_ := Aside0.mk (blk_below (g := gb308) (o := .cells #[.slice Ao21 t304.length co21] 58 (0, 0)) (by (with_reducible repeat (first|refine zN ?_ _|refine zD ?_|refine zA ?_ _)); exact BK308.out) hb); have n6_ := Aside0.mk (Kd.C_below (by repeat (first | (with_reducible exact HR323_0.out) | (with_reducible refine Kd.C_alloc ?_ _) | (with_reducible refine Kd.C_drewN ?_ _) | (with_reducible refine Kd.C_drew ?_) | exact HR323_0.out)) hb); have n7_ := Aside0.mk (blk_below (g := gb324) (o := .cells #[.slice A323_0 ((rd_T58 y320 x93_3).f0).length c323_0] 58 (0, 0)) (by (with_reducible repeat (first|refine zN ?_ _|refine zD ?_|refine zA ?_ _)); exact BK324.out) hb); have n8_ := Aside0.mk (below_step (by repeat (first | (with_reducible first|exact HB.out|apply zE|apply zB|apply zC | refine zJ ?_ GE299.out | refine zJ ?_ GE308.out | refine zJ ?_ GE324.out) | exact HB.out)) hb); clear HO_91 HO_300000 HO_309000 HL323_0 BK299 BK308 HR323_0 BK324 HB; have HO_91 := n0_; have HO_300000 := n1_; have HO_309000 := n2_; have HL323_0 := n3_; have BK299 := n4_; have BK308 := n5_; have HR323_0 := n6_; have BK324 := n7_; have HB := n8_; clear n0_ n1_ n2_ n3_ n4_ n5_ n6_ n7_ n8_; (try clear hb); (try clear hb2); (try clear hk); (try clear hi); (try clear hge); have hcz118_0 : w117.cell? ⟨gb324, 0, none⟩ = some (.slice A323_0 ((rd_T58 y320 x93_3).f0).length c323_0) := (blk_cell BK324.out 0).trans rfl; have hfz118_0 := blk_frozen BK324.out 0) | ((with_reducible refine gate_callee (f := 35) rfl ?_); refine goesL_ (some 122) rfl rfl Tryd.func35 (by kernel_rfl) rfl #[.agg #[.slice A323_0 ((rd_T58 y320 x93_3).f0).length c323_0], .string (⟨#[117, 115, 101, 114]⟩ : ByteArray), .string (⟨#[107, 101, 121]⟩ : ByteArray), .string a4] rfl (by (try simp only [List.map_toArray, List.map_cons, List.map_nil]); first | done | rfl | (simp only [List.length_drop, List.length_take]; rfl)) ?_; (with_reducible refine (flagstoneref13_Subject.calls k3 _ _ ((rd_T58 y320 x93_3).f0) (⟨#[117, 115, 101, 114]⟩ : ByteArray) (⟨#[107, 101, 121]⟩ : ByteArray) a4 t331 t332 _ ?side1 ?side2 A60.out).mono ?_); (case side1 => repeat (first | exact (by repeat (first | (with_reducible exact HR323_0.out) | (with_reducible refine Kd.C_alloc ?_ _) | (with_reducible refine Kd.C_drewN ?_ _) | (with_reducible refine Kd.C_drew ?_) | exact HR323_0.out)) | (with_reducible refine Kd.C_alloc ?_ _) | (with_reducible refine Kd.C_drewN ?_ _) | (with_reducible refine Kd.C_drew ?_))); (case side2 => exact HC323_0.out); rintro e w119 ⟨rfl, hb⟩; refine ⟨_, rfl, ?_⟩; have n0_ := Aside0.mk (Kd.N_below (by (with_reducible repeat (first | apply Kd.N_alloc | apply Kd.N_drewN | apply Kd.N_drew)); exact HO_91.out) hb); have n1_ := Aside0.mk (Kd.V_below (by (with_reducible repeat (first | apply Kd.V_alloc | apply Kd.V_drewN | apply Kd.V_drew)); exact HO_300000.out) hb); have n2_ := Aside0.mk (Kd.V_below (by (with_reducible repeat (first | apply Kd.V_alloc | apply Kd.V_drewN | apply Kd.V_drew)); exact HO_309000.out) hb); have n3_ := Aside0.mk (Kd.V_below (by (with_reducible repeat (first | apply Kd.V_alloc | apply Kd.V_drewN | apply Kd.V_drew)); exact HL323_0.out) hb); have n4_ := Aside0.mk (blk_below (g := gb299) (o := .cells #[.slice A1_0 l1_0.length c1_0] 58 (0, 0)) (by (with_reducible repeat (first|refine zN ?_ _|refine zD ?_|refine zA ?_ _)); exact BK299.out) hb); have n5_ := Aside0.mk (blk_below (g := gb308) (o := .cells #[.slice Ao21 t304.length co21] 58 (0, 0)) (by (with_reducible repeat (first|refine zN ?_ _|refine zD ?_|refine zA ?_ _)); exact BK308.out) hb); have n6_ := Aside0.mk (Kd.C_below (by repeat (first | (with_reducible exact HR323_0.out) | (with_reducible refine Kd.C_alloc ?_ _) | (with_reducible refine Kd.C_drewN ?_ _) | (with_reducible refine Kd.C_drew ?_) | exact HR323_0.out)) hb); have n7_ := Aside0.mk (blk_below (g := gb324) (o := .cells #[.slice A323_0 ((rd_T58 y320 x93_3).f0).length c323_0] 58 (0, 0)) (by (with_reducible repeat (first|refine zN ?_ _|refine zD ?_|refine zA ?_ _)); exact BK324.out) hb); have n8_ := Aside0.mk (below_step (by repeat (first | (with_reducible first|exact HB.out|apply zE|apply zB|apply zC | refine zJ ?_ GE299.out | refine zJ ?_ GE308.out | refine zJ ?_ GE324.out) | exact HB.out)) hb); clear HO_91 HO_300000 HO_309000 HL323_0 BK299 BK308 HR323_0 BK324 HB; have HO_91 := n0_; have HO_300000 := n1_; have HO_309000 := n2_; have HL323_0 := n3_; have BK299 := n4_; have BK308 := n5_; have HR323_0 := n6_; have BK324 := n7_; have HB := n8_; clear n0_ n1_ n2_ n3_ n4_ n5_ n6_ n7_ n8_; (try clear hb); (try clear hb2); (try clear hk); (try clear hi); (try clear hge)))
                            go_ret
                            exact ⟨by first | rfl | (simp [errW_none, errW_some] <;> rfl) | (simp [*, errW_none, errW_some] <;> rfl), by repeat (first | (with_reducible first|exact HB.out|apply zE|apply zB|apply zC | refine zJ ?_ GE299.out | refine zJ ?_ GE308.out | refine zJ ?_ GE324.out) | exact HB.out)⟩
                        · rw [if_neg c56] at H
                          exact absurd H (by simp)
                      · rw [if_neg c55] at H
                        exact absurd H (by simp)
                    · rw [if_neg c54] at H
                      have c54b0 : decide (x93_3 < (y320.length : Int)) = false := decide_eq_false c54
                      clear c54
                      obtain rfl := Option.some.inj H
                      go_wp2
                      go_ret
                      exact ⟨by first | rfl | (simp [errW_none, errW_some] <;> rfl) | (simp [*, errW_none, errW_some] <;> rfl), by repeat (first | (with_reducible first|exact HB.out|apply zE|apply zB|apply zC | refine zJ ?_ GE299.out | refine zJ ?_ GE308.out) | exact HB.out)⟩
  · replace c7 := Bool.eq_false_iff.mpr c7
    subst c7
    have H1 : (some false) = some r := by rw [if_neg (show ¬ (false = true) by decide)] at H; exact H
    clear H; have H := H1; clear H1
    obtain rfl := Option.some.inj H
    go_enter Tryd.func9, Tryd.ntmps9
    go_wp2_with (first | ((with_reducible refine gate_dst (N := 6) rfl ?_); (try (refine gate_guard (by rfl) ?_; dsimp only)); refine box_event ?hg (N := 6) ?hd (cs := #[.slice A1_0 l1_0.length c1_0]) (t := 58) ?hr ?_; (case hd => rfl); (case hg => rfl); (case hr => first | (go_simp; done) | (go_simp; rfl)); intro gb299 hg w120 hbox hb; have n0_ := Aside0.mk (Kd.V_below (Kd.V_elderB (by (with_reducible repeat (first | apply Kd.V_alloc | apply Kd.V_drewN | apply Kd.V_drew)); exact HO1_0.out) gb299 (Nat.le_of_eq hg.symm)) hb); have n1_ := Aside0.mk (below_step (by repeat (first | (with_reducible first|exact HB.out|apply zE|apply zB|apply zC) | exact HB.out)) hb); have n2_ := Aside0.mk (hbox); have n3_ := Aside0.mk ((by rw [hg]; exact (below_size (by repeat (first | (with_reducible first|exact HB.out|apply zE|apply zB|apply zC) | exact HB.out))) : w.heap.size ≤ gb299)); have n4_ := Aside0.mk ((by rw [hg]; exact (below_size (by repeat (first | (with_reducible first|exact HB.out|apply zE|apply zB|apply zC) | exact HB.out))) : w.heap.size ≤ gb299)); clear HO1_0 HB; have HO1_0 := n0_; have HB := n1_; have BK299 := n2_; have GW299 := n3_; have GE299 := n4_; clear n0_ n1_ n2_ n3_ n4_ hb hbox hg) | ((with_reducible refine gate_callee (f := 10) rfl ?_); refine goesL_ (some 28) rfl rfl Tryd.func10 (by kernel_rfl) rfl #[] rfl (by (try simp only [List.map_toArray, List.map_cons, List.map_nil]); first | done | rfl | (simp only [List.length_drop, List.length_take]; rfl)) ?_; (with_reducible refine (flagstonelaw13_awake.calls  false _ ?side1 A6.out).mono ?_); (case side1 => exact GL.below HGL.out (by repeat (first | (with_reducible first|exact HB.out|apply zE|apply zB|apply zC | refine zJ ?_ GE299.out) | exact HB.out))); rintro e w121 ⟨rfl, hb⟩; refine ⟨_, rfl, ?_⟩; have n0_ := Aside0.mk (Kd.V_below (by (with_reducible repeat (first | apply Kd.V_alloc | apply Kd.V_drewN | apply Kd.V_drew)); exact HO1_0.out) hb); have n1_ := Aside0.mk (blk_below (g := gb299) (o := .cells #[.slice A1_0 l1_0.length c1_0] 58 (0, 0)) (by (with_reducible repeat (first|refine zN ?_ _|refine zD ?_|refine zA ?_ _)); exact BK299.out) hb); have n2_ := Aside0.mk (below_step (by repeat (first | (with_reducible first|exact HB.out|apply zE|apply zB|apply zC | refine zJ ?_ GE299.out) | exact HB.out)) hb); clear HO1_0 BK299 HB; have HO1_0 := n0_; have BK299 := n1_; have HB := n2_; clear n0_ n1_ n2_; (try clear hb); (try clear hb2); (try clear hk); (try clear hi); (try clear hge)))
    go_ret
    exact ⟨by first | rfl | (simp [errW_none, errW_some] <;> rfl) | (simp [*, errW_none, errW_some] <;> rfl), by repeat (first | (with_reducible first|exact HB.out|apply zE|apply zB|apply zC | refine zJ ?_ GE299.out) | exact HB.out)⟩

end Go.Proofs.YtefglphdiimhnaaDoor.Q
