-- printed by wip/hp.py (the session's driver of the print, with hand-proved contracts)
import Derived.Test.YtefglphdiimhnaaDoorQ0
namespace Go.Proofs.YtefglphdiimhnaaDoor.Q
open Go.RowKit Go.Proofs.YtefglphdiimhnaaDoorW.PrintWords Go.Proofs.YtefglphdiimhnaaDoorW.PrintLast Go.Proofs.YtefglphdiimhnaaDoorW.PrintMore
attribute [local go_sem] max2_int min2_int max_two min_two max_three min_three max_four min_four   -- for this text's walks alone
set_option linter.unusedVariables false
set_option linter.unusedSimpArgs false

/-! ### flagstoneref13_All: function 43 -/
mutual
def flagstoneref13_All.l0 : Nat → List (S69) → List Int → Int → Option (List Int)
  | 0, _, _, _ => none
  | k + 1, x0, x3, x4 => if x4 ≥ 0 then (if 0 ≤ x4 then (if x4 < (x0.length : Int) then (flagstoneref13_All.l1 k x0 x3 x4 (mx ((rd_T69 x0 x4).f0) 0)) else (none)) else (none)) else (some x3)
def flagstoneref13_All.l1 : Nat → List (S69) → List Int → Int → Int → Option (List Int)
  | 0, _, _, _, _ => none
  | k + 1, x0, x3, x4, x5 => if 0 ≤ x4 then (if x4 < (x0.length : Int) then (if x5 < (mn ((rd_T69 x0 x4).f1) 10000) then (if 0 ≤ x5 then (if x5 < (x3.length : Int) then (flagstoneref13_All.l1 k x0 (x3.set (x5 : Int).toNat ((rd_T69 x0 x4).f2)) x4 (wrap64 (x5 + 1))) else (none)) else (none)) else (flagstoneref13_All.l0 k x0 x3 (wrap64 (x4 - 1)))) else (none)) else (none)
end
def flagstoneref13_All.f (k : Nat) (l0 : List (S69)) : Option (List Int) := if 10000 ≤ 35184372088832 then (flagstoneref13_All.l0 k l0 (List.replicate 10000 0) (wrap64 ((l0.length : Int) - 1))) else (none)
theorem flagstoneref13_All.mono_l : ∀ k, (∀ y0 y1 y2, LeO (flagstoneref13_All.l0 k y0 y1 y2) (flagstoneref13_All.l0 (k + 1) y0 y1 y2)) ∧ (∀ y0 y1 y2 y3, LeO (flagstoneref13_All.l1 k y0 y1 y2 y3) (flagstoneref13_All.l1 (k + 1) y0 y1 y2 y3))
  | 0 => ⟨fun _ _ _ r h => by simp [flagstoneref13_All.l0] at h, fun _ _ _ _ r h => by simp [flagstoneref13_All.l1] at h⟩
  | k + 1 => by
    obtain ⟨ih0, ih1⟩ := flagstoneref13_All.mono_l k
    refine ⟨?_, ?_⟩
    · intro y0 y1 y2
      unfold flagstoneref13_All.l0
      repeat' first
      | (with_reducible exact ih0 _ _ _)
      | (with_reducible exact ih1 _ _ _ _)
      | (with_reducible exact LeO.refl _)
      | (with_reducible exact LeO.none _)
      | (with_reducible refine LeO.ite ?_ ?_)
      | (with_reducible refine LeO.bind ?_ (fun _ => ?_))
      | exact ih0 _ _ _
      | exact ih1 _ _ _ _
      | exact LeO.none _
      | refine LeO.ite ?_ ?_
      | refine LeO.bind ?_ (fun _ => ?_)
    · intro y0 y1 y2 y3
      unfold flagstoneref13_All.l1
      repeat' first
      | (with_reducible exact ih0 _ _ _)
      | (with_reducible exact ih1 _ _ _ _)
      | (with_reducible exact LeO.refl _)
      | (with_reducible exact LeO.none _)
      | (with_reducible refine LeO.ite ?_ ?_)
      | (with_reducible refine LeO.bind ?_ (fun _ => ?_))
      | exact ih0 _ _ _
      | exact ih1 _ _ _ _
      | exact LeO.none _
      | refine LeO.ite ?_ ?_
      | refine LeO.bind ?_ (fun _ => ?_)
theorem flagstoneref13_All.mono : ∀ a0 k, LeO (flagstoneref13_All.f k a0) (flagstoneref13_All.f (k + 1) a0) := by
  intro a0 k
  obtain ⟨ih0, ih1⟩ := flagstoneref13_All.mono_l k
  unfold flagstoneref13_All.f
  repeat' first
      | (with_reducible exact ih0 _ _ _)
      | (with_reducible exact ih1 _ _ _ _)
      | (with_reducible exact LeO.refl _)
      | (with_reducible exact LeO.none _)
      | (with_reducible refine LeO.ite ?_ ?_)
      | (with_reducible refine LeO.bind ?_ (fun _ => ?_))
      | exact ih0 _ _ _
      | exact ih1 _ _ _ _
      | exact LeO.none _
      | refine LeO.ite ?_ ?_
      | refine LeO.bind ?_ (fun _ => ?_)
set_option maxHeartbeats 8000000 in
set_option maxRecDepth 100000 in
theorem flagstoneref13_All.calls (k : Nat) (A0 : Option Addr) (c0 : Nat) (l0 : List (S69)) (r : List Int) (w : World) (hr0 : Kd.C k69 w A0 l0.length l0) (hc0 : l0.length ≤ c0) (h : flagstoneref13_All.f k l0 = some r) :
    Calls Tryd.prog 43 #[.slice A0 l0.length c0] w fun e w' => ∃ v0_ : Value, e = .returned (v0_) ∧ Kd.R (Kd.int .i64) 3 w' w.heap.size (fun _ => True) v0_ r ∧ Below w.heap.size w w' := by
  have HR0 := Aside0.mk hr0
  have HC0 := Aside0.mk hc0
  clear hr0 hc0
  have HB := Aside0.mk (Below.refl w.heap.size w)
  have H : (if 10000 ≤ 35184372088832 then (flagstoneref13_All.l0 k l0 (List.replicate 10000 0) (wrap64 ((l0.length : Int) - 1))) else (none)) = some r := h
  clear h
  by_cases c2 : 10000 ≤ 35184372088832
  · rw [if_pos c2] at H
    have c2b0 := eq_true c2
    have c2b1 : decide (10000 ≤ 35184372088832) = true := decide_eq_true c2
    clear c2
    obtain ⟨y204, hy204⟩ : ∃ y_ : List Int, y_ = (List.replicate 10000 0) := ⟨_, rfl⟩
    replace H : (flagstoneref13_All.l0 k l0 y204 (wrap64 ((l0.length : Int) - 1))) = some r := by first | (rw [hy204]; with_reducible exact H) | (have H2_ := (Option.bind_some _ _).symm.trans H; rw [hy204]; with_reducible exact H2_) | (have H2_ := (Option.bind_some _ _).symm.trans H; with_reducible exact H2_) | with_reducible exact H | (rw [hy204]; exact H) | exact H
    have Ny204 := Aside0.mk hy204
    clear hy204
    have H' := Aside0.mk H
    clear H
    go_enter Tryd.func43, Tryd.ntmps43
    go_wp2_with (first | ((with_reducible refine gate_dst (N := 6) rfl ?_); refine Kd.R_make (Kd.int .i64) _ 3 rfl (N := 6) rfl 23 _ _ rfl 10000 rfl rfl Tryd.underlying23 (.int .i64 0) 8 info3 rfl (by decide) (by omega) 0 (ok := fun _ => True) (okp := fun _ => True) rfl (fun _ hk => hk) trivial (by omega) (by omega) (Below.refl _ _) (Nat.le_refl _) ?_; intro v205 w3 ho4 hb hg_ hnew_; clear hg_ hnew_; (first | rw [← Ny204.out] at ho4 | (simp only [Int.reduceToNat] at ho4; rw [← Ny204.out] at ho4)); have n0_ := Aside0.mk (Kd.R_lower ho4 (below_size (by repeat (first | (with_reducible first | exact HB.out | apply below_alloc | apply pw_below_drewN | apply below_drew1) | exact HB.out)))); have n1_ := Aside0.mk (below_step (by repeat (first | (with_reducible first | exact HB.out | apply below_alloc | apply pw_below_drewN | apply below_drew1) | exact HB.out)) hb); clear HB; have HO206 := n0_; have HB := n1_; clear n0_ n1_; clear hb ho4))
    go_loopg [4] k (fun kq v4 w' => ∃ (x3_1 : List Int) (x4_1 : Int), v4 = .int .i64 x4_1 ∧ Aside0 (flagstoneref13_All.l0 kq l0 x3_1 x4_1 = some r) ∧ Aside0 (kq ≤ k) ∧ Aside0 (Kd.R (Kd.int .i64) 3 w' w.heap.size (fun _ => True) v205 x3_1) ∧ Aside0 (Below w.heap.size w w'))
    case atStart => exact ⟨(y204), (wrap64 ((l0.length : Int) - 1)), (by first | rfl | (simp; done) | (simp [*]; done)), H', ⟨Nat.le_refl _⟩, ⟨by (with_reducible repeat (first | apply Kd.R_alloc | apply Kd.R_drewN | apply Kd.R_drew)); exact HO206.out⟩, ⟨by repeat (first | (with_reducible first | exact HB.out | apply below_alloc | apply pw_below_drewN | apply below_drew1) | exact HB.out)⟩⟩
    case round =>
      clear H'
      try clear c2
      try clear c2b0
      try clear c2b1
      try clear p2
      try clear c4
      obtain ⟨x3_1, x4_1, rfl, HA, HK1, HO_3, HB⟩ := hrel
      cases gk with
      | zero => exact absurd HA.out (by simp [flagstoneref13_All.l0])
      | succ k1 =>
        have H := HA.out
        clear HA
        simp only [flagstoneref13_All.l0] at H
        by_cases c5 : x4_1 ≥ 0
        · rw [if_pos c5] at H
          have c5b0 : decide (0 ≤ x4_1) = true := decide_eq_true c5
          clear c5
          by_cases c6 : 0 ≤ x4_1
          · rw [if_pos c6] at H
            have c6b0 : decide (0 ≤ x4_1) = true := decide_eq_true c6
            clear c6
            by_cases c7 : x4_1 < (l0.length : Int)
            · rw [if_pos c7] at H
              have c7b0 : decide (x4_1 < (l0.length : Int)) = true := decide_eq_true c7
              clear c7
              obtain ⟨ji8, hji8⟩ : ∃ j_ : Int, (mx ((rd_T69 l0 x4_1).f0) 0) = j_ := ⟨_, rfl⟩
              replace H : (flagstoneref13_All.l1 k1 l0 x3_1 x4_1 ji8) = some r := by first | (rw [hji8] at H; exact H) | (simp only [hji8] at H ⊢; exact H)
              have hji8_ : (if ((rd_T69 l0 x4_1).f0) < 0 then 0 else ((rd_T69 l0 x4_1).f0)) = ji8 := hji8
              have H' := Aside0.mk H
              clear H
              have p207 : 0 ≤ (x4_1 : Int) := of_decide_eq_true (by first | (with_reducible assumption) | assumption)
              have q207 : x4_1 < (l0.length : Int) := of_decide_eq_true (by first | (with_reducible assumption) | assumption)
              obtain ⟨ad207, e207, hx207_0, hx207_1, hx207_2⟩ := at_T69 HR0.out x4_1 p207 q207
              cases e207
              replace hx207_0 := (HB.out.cell (World.block_lt_of_cell? w _ hx207_0)).trans hx207_0
              replace hx207_1 := (HB.out.cell (World.block_lt_of_cell? w _ hx207_1)).trans hx207_1
              replace hx207_2 := (HB.out.cell (World.block_lt_of_cell? w _ hx207_2)).trans hx207_2
              replace p207 := eq_true p207
              replace q207 := eq_true q207
              go_wp2
              go_loopg [5] k1 (fun kq v5 w' => ∃ (x3_2 : List Int) (x5_2 : Int), v5 = .int .i64 x5_2 ∧ Aside0 (flagstoneref13_All.l1 kq l0 x3_2 x4_1 x5_2 = some r) ∧ Aside0 (kq ≤ k1) ∧ Aside0 (Kd.R (Kd.int .i64) 3 w' w.heap.size (fun _ => True) v205 x3_2) ∧ Aside0 (Below w.heap.size w w'))
              case atStart => exact ⟨(x3_1), (ji8), (by first | rfl | (simp; done) | (simp only [← hji8] <;> (first | rfl | simp)) | (simp [*]; done)), H', ⟨Nat.le_refl _⟩, ⟨by (with_reducible repeat (first | apply Kd.R_alloc | apply Kd.R_drewN | apply Kd.R_drew)); exact HO_3.out⟩, ⟨by repeat (first | (with_reducible first | exact HB.out | apply below_alloc | apply pw_below_drewN | apply below_drew1) | exact HB.out)⟩⟩
              case round =>
                clear H'
                try clear c2
                try clear c2b0
                try clear c2b1
                try clear p2
                try clear q2
                try clear hx2
                try clear c4
                try clear c5
                try clear c5b0
                try clear c6
                try clear c6b0
                try clear p6
                try clear c7
                try clear c7b0
                try clear hx207_0
                try clear hx207_1
                try clear hx207_2
                try clear p2
                try clear p207
                try clear q207
                obtain ⟨x3_2, x5_2, rfl, HA, HK2, HO_3, HB⟩ := hrel
                cases gk with
                | zero => exact absurd HA.out (by simp [flagstoneref13_All.l1])
                | succ k2 =>
                  have H := HA.out
                  clear HA
                  simp only [flagstoneref13_All.l1] at H
                  by_cases c9 : 0 ≤ x4_1
                  · rw [if_pos c9] at H
                    have c9b0 : decide (0 ≤ x4_1) = true := decide_eq_true c9
                    clear c9
                    by_cases c10 : x4_1 < (l0.length : Int)
                    · rw [if_pos c10] at H
                      have c10b0 : decide (x4_1 < (l0.length : Int)) = true := decide_eq_true c10
                      clear c10
                      obtain ⟨ji11, hji11⟩ : ∃ j_ : Int, (mn ((rd_T69 l0 x4_1).f1) 10000) = j_ := ⟨_, rfl⟩
                      replace H : (if x5_2 < (ji11) then (if 0 ≤ x5_2 then (if x5_2 < (x3_2.length : Int) then (flagstoneref13_All.l1 k2 l0 (x3_2.set (x5_2 : Int).toNat ((rd_T69 l0 x4_1).f2)) x4_1 (wrap64 (x5_2 + 1))) else (none)) else (none)) else (flagstoneref13_All.l0 k2 l0 x3_2 (wrap64 (x4_1 - 1)))) = some r := by first | (rw [hji11] at H; exact H) | (simp only [hji11] at H ⊢; exact H)
                      have hji11_ : (if 10000 < ((rd_T69 l0 x4_1).f1) then 10000 else ((rd_T69 l0 x4_1).f1)) = ji11 := hji11
                      by_cases c12 : x5_2 < (ji11)
                      · rw [if_pos c12] at H
                        have c12b0 : decide (x5_2 < (ji11)) = true := decide_eq_true c12
                        clear c12
                        by_cases c13 : 0 ≤ x5_2
                        · rw [if_pos c13] at H
                          have c13b0 : decide (0 ≤ x5_2) = true := decide_eq_true c13
                          clear c13
                          by_cases c14 : x5_2 < (x3_2.length : Int)
                          · rw [if_pos c14] at H
                            have c14b0 : decide (x5_2 < (x3_2.length : Int)) = true := decide_eq_true c14
                            clear c14
                            obtain ⟨y210, hy210⟩ : ∃ y_ : List Int, y_ = (x3_2.set (x5_2 : Int).toNat ((rd_T69 l0 x4_1).f2)) := ⟨_, rfl⟩
                            replace H : (flagstoneref13_All.l1 k2 l0 y210 x4_1 (wrap64 (x5_2 + 1))) = some r := by first | (rw [hy210]; with_reducible exact H) | (have H2_ := (Option.bind_some _ _).symm.trans H; rw [hy210]; with_reducible exact H2_) | (have H2_ := (Option.bind_some _ _).symm.trans H; with_reducible exact H2_) | with_reducible exact H | (rw [hy210]; exact H) | exact H
                            have Ny210 := Aside0.mk hy210
                            clear hy210
                            have H' := Aside0.mk H
                            clear H
                            have p208 : 0 ≤ (x4_1 : Int) := of_decide_eq_true (by first | (with_reducible assumption) | assumption)
                            have q208 : x4_1 < (l0.length : Int) := of_decide_eq_true (by first | (with_reducible assumption) | assumption)
                            obtain ⟨ad208, e208, hx208_0, hx208_1, hx208_2⟩ := at_T69 HR0.out x4_1 p208 q208
                            obtain rfl : ad207 = ad208 := (by injection e208)
                            replace hx208_0 := (HB.out.cell (World.block_lt_of_cell? w _ hx208_0)).trans hx208_0
                            replace hx208_1 := (HB.out.cell (World.block_lt_of_cell? w _ hx208_1)).trans hx208_1
                            replace hx208_2 := (HB.out.cell (World.block_lt_of_cell? w _ hx208_2)).trans hx208_2
                            replace p208 := eq_true p208
                            replace q208 := eq_true q208
                            have p209 : 0 ≤ (x4_1 : Int) := of_decide_eq_true (by first | (with_reducible assumption) | assumption)
                            have q209 : x4_1 < (l0.length : Int) := of_decide_eq_true (by first | (with_reducible assumption) | assumption)
                            obtain ⟨ad209, e209, hx209_0, hx209_1, hx209_2⟩ := at_T69 HR0.out x4_1 p209 q209
                            obtain rfl : ad207 = ad209 := (by injection e209)
                            replace hx209_0 := (HB.out.cell (World.block_lt_of_cell? w _ hx209_0)).trans hx209_0
                            replace hx209_1 := (HB.out.cell (World.block_lt_of_cell? w _ hx209_1)).trans hx209_1
                            replace hx209_2 := (HB.out.cell (World.block_lt_of_cell? w _ hx209_2)).trans hx209_2
                            replace p209 := eq_true p209
                            replace q209 := eq_true q209
                            have p15 : 0 ≤ (x5_2 : Int) := of_decide_eq_true (by first | (with_reducible assumption) | assumption)
                            have q15 : (x5_2 : Int) < ((x3_2.length : Int) : Int) := of_decide_eq_true (by first | (with_reducible assumption) | assumption)
                            obtain ⟨go15, co15, eo15, gb15, gl15, cl15, HG15⟩ := Kd.R_form HO_3.out (by omega)
                            (first | cases eo15 | (injection eo15 with ea_ en_ ec_; (first | subst ea_ | (injection ea_ with ea_; subst ea_)); subst ec_; clear en_))
                            have GB15 := Aside0.mk gb15
                            have GG15 := Aside0.mk HG15
                            clear gb15 gl15 HG15
                            obtain ⟨hx15_0, hf15_0⟩ := Kd.R_celln 0 HO_3.out (x5_2 : Int) p15 q15
                            replace p15 := eq_true p15
                            replace q15 := eq_true q15
                            have HP16 := Kd.R_putg HO_3.out (x5_2 : Int) ((rd_T69 l0 x4_1).f2)
                            go_wp2_with (first | ((with_reducible refine gate_store (t := 3) (p := 37) rfl ?_); refine store_event (t := 3) (p := 37) (v := ?vo_w17) (w1 := (wr.setCell ⟨go15, (x5_2 : Int).toNat, none⟩ (.int .i64 ((rd_T69 l0 x4_1).f2)))) ?hg ?ho ?hn ?hr ?_; (case ho => rfl); (case hg => rfl); (case hn => rfl); (case hr => first | (go_simp; done) | (go_simp; rfl)); intro w17 hw; have hg : wr.grownBy w17 (some go15) := (by rw [hw]; exact HP16.2); have hp_ : Kd.R (Kd.int .i64) 3 w17 w.heap.size (fun _ => True) (.slice (some ⟨go15, 0, none⟩) x3_2.length co15) y210 := (by rw [hw, Ny210.out]; exact HP16.1); clear HP16; have n0_ := Aside0.mk (hp_); have n1_ := Aside0.mk ((by rw [hw]; exact below_set (HB.out) GB15.out : Below w.heap.size w w17)); clear HO_3; clear HB; have HO_3 := n0_; have HB := n1_; clear n0_ n1_; clear hg hw hp_))
                            go_roundg k2
                            case measure => have := HK1.out; have := HK2.out; omega
                            case rel => exact ⟨(y210), (wrap64 (x5_2 + 1)), (by first | rfl | (simp; done) | (simp [*]; done)), H', ⟨by have := HK1.out; have := HK2.out; omega⟩, ⟨by (with_reducible repeat (first | apply Kd.R_alloc | apply Kd.R_drewN | apply Kd.R_drew)); exact HO_3.out⟩, ⟨by repeat (first | (with_reducible first | exact HB.out | apply below_alloc | apply pw_below_drewN | apply below_drew1) | exact HB.out)⟩⟩
                          · rw [if_neg c14] at H
                            exact absurd H (by simp)
                        · rw [if_neg c13] at H
                          exact absurd H (by simp)
                      · rw [if_neg c12] at H
                        have c12b0 : decide (x5_2 < (ji11)) = false := decide_eq_false c12
                        clear c12
                        have H' := Aside0.mk H
                        clear H
                        have p208 : 0 ≤ (x4_1 : Int) := of_decide_eq_true (by first | (with_reducible assumption) | assumption)
                        have q208 : x4_1 < (l0.length : Int) := of_decide_eq_true (by first | (with_reducible assumption) | assumption)
                        obtain ⟨ad208, e208, hx208_0, hx208_1, hx208_2⟩ := at_T69 HR0.out x4_1 p208 q208
                        obtain rfl : ad207 = ad208 := (by injection e208)
                        replace hx208_0 := (HB.out.cell (World.block_lt_of_cell? w _ hx208_0)).trans hx208_0
                        replace hx208_1 := (HB.out.cell (World.block_lt_of_cell? w _ hx208_1)).trans hx208_1
                        replace hx208_2 := (HB.out.cell (World.block_lt_of_cell? w _ hx208_2)).trans hx208_2
                        replace p208 := eq_true p208
                        replace q208 := eq_true q208
                        go_wp2
                        go_roundg k2
                        case measure => have := HK1.out; have := HK2.out; omega
                        case rel => exact ⟨(x3_2), (wrap64 (x4_1 - 1)), (by first | rfl | (simp; done) | (simp [*]; done)), H', ⟨by have := HK1.out; have := HK2.out; omega⟩, ⟨by (with_reducible repeat (first | apply Kd.R_alloc | apply Kd.R_drewN | apply Kd.R_drew)); exact HO_3.out⟩, ⟨by repeat (first | (with_reducible first | exact HB.out | apply below_alloc | apply pw_below_drewN | apply below_drew1) | exact HB.out)⟩⟩
                    · rw [if_neg c10] at H
                      exact absurd H (by simp)
                  · rw [if_neg c9] at H
                    exact absurd H (by simp)
            · rw [if_neg c7] at H
              exact absurd H (by simp)
          · rw [if_neg c6] at H
            exact absurd H (by simp)
        · rw [if_neg c5] at H
          have c5b0 : decide (0 ≤ x4_1) = false := decide_eq_false c5
          clear c5
          obtain rfl := Option.some.inj H
          go_wp2
          go_ret
          exact ⟨_, by first | rfl | (simp [errW_none, errW_some] <;> rfl) | (simp [*, errW_none, errW_some] <;> rfl), by (with_reducible repeat (first | apply Kd.R_alloc | apply Kd.R_drewN | apply Kd.R_drew)); exact HO_3.out, by repeat (first | (with_reducible first | exact HB.out | apply below_alloc | apply pw_below_drewN | apply below_drew1) | exact HB.out)⟩
  · rw [if_neg c2] at H
    exact absurd H (by simp)

/-! ### flagstoneref13_Weights: function 22 -/
def flagstoneref13_Weights.l0 : Nat → Int → List Int → List Int → Int → Option (List Int)
  | 0, _, _, _, _ => none
  | k + 1, x1, x5, x6, x7 => if x7 < (x6.length : Int) then (if 0 ≤ x7 then (if (rd x6 x7) ≥ 1 then (if (rd x6 x7) ≤ x1 then (if 0 ≤ (wrap64 ((rd x6 x7) - 1)) then (if (wrap64 ((rd x6 x7) - 1)) < (x5.length : Int) then (flagstoneref13_Weights.l0 k x1 (x5.set ((wrap64 ((rd x6 x7) - 1)) : Int).toNat (wrap64 ((rd x5 (wrap64 ((rd x6 x7) - 1))) + 1))) x6 (wrap64 (x7 + 1))) else (none)) else (none)) else (flagstoneref13_Weights.l0 k x1 x5 x6 (wrap64 (x7 + 1)))) else (flagstoneref13_Weights.l0 k x1 x5 x6 (wrap64 (x7 + 1)))) else (none)) else (some x5)
def flagstoneref13_Weights.f (k : Nat) (l0 : List (S69)) (a1 : Int) : Option (List Int) := if 0 ≤ (mx 0 (mn a1 8)) then (if (mx 0 (mn a1 8) : Int).toNat ≤ 35184372088832 then ((flagstoneref13_All.f k l0).bind fun t214 => (flagstoneref13_Weights.l0 k (mx 0 (mn a1 8)) (List.replicate (mx 0 (mn a1 8) : Int).toNat 0) t214 0)) else (none)) else (none)
theorem flagstoneref13_Weights.mono_l : ∀ k, (∀ y0 y1 y2 y3, LeO (flagstoneref13_Weights.l0 k y0 y1 y2 y3) (flagstoneref13_Weights.l0 (k + 1) y0 y1 y2 y3))
  | 0 => fun _ _ _ _ r h => by simp [flagstoneref13_Weights.l0] at h
  | k + 1 => by
    have ih0 := flagstoneref13_Weights.mono_l k
    · intro y0 y1 y2 y3
      unfold flagstoneref13_Weights.l0
      repeat' first
      | (with_reducible exact ih0 _ _ _ _)
      | (with_reducible exact flagstoneref13_All.mono _ _)
      | (with_reducible exact LeO.refl _)
      | (with_reducible exact LeO.none _)
      | (with_reducible refine LeO.ite ?_ ?_)
      | (with_reducible refine LeO.bind ?_ (fun _ => ?_))
      | exact ih0 _ _ _ _
      | exact flagstoneref13_All.mono _ _
      | exact LeO.none _
      | refine LeO.ite ?_ ?_
      | refine LeO.bind ?_ (fun _ => ?_)
theorem flagstoneref13_Weights.mono : ∀ a0 a1 k, LeO (flagstoneref13_Weights.f k a0 a1) (flagstoneref13_Weights.f (k + 1) a0 a1) := by
  intro a0 a1 k
  have ih0 := flagstoneref13_Weights.mono_l k
  unfold flagstoneref13_Weights.f
  repeat' first
      | (with_reducible exact ih0 _ _ _ _)
      | (with_reducible exact flagstoneref13_All.mono _ _)
      | (with_reducible exact LeO.refl _)
      | (with_reducible exact LeO.none _)
      | (with_reducible refine LeO.ite ?_ ?_)
      | (with_reducible refine LeO.bind ?_ (fun _ => ?_))
      | exact ih0 _ _ _ _
      | exact flagstoneref13_All.mono _ _
      | exact LeO.none _
      | refine LeO.ite ?_ ?_
      | refine LeO.bind ?_ (fun _ => ?_)
set_option maxHeartbeats 8000000 in
set_option maxRecDepth 100000 in
theorem flagstoneref13_Weights.calls (k : Nat) (A0 : Option Addr) (c0 : Nat) (l0 : List (S69)) (a1 : Int) (r : List Int) (w : World) (hr0 : Kd.C k69 w A0 l0.length l0) (hc0 : l0.length ≤ c0) (h : flagstoneref13_Weights.f k l0 a1 = some r) :
    Calls Tryd.prog 22 #[.slice A0 l0.length c0, .int .i64 a1] w fun e w' => ∃ v0_ : Value, e = .returned (v0_) ∧ Kd.R (Kd.int .i64) 3 w' w.heap.size (fun _ => True) v0_ r ∧ Below w.heap.size w w' := by
  have HR0 := Aside0.mk hr0
  have HC0 := Aside0.mk hc0
  clear hr0 hc0
  have HB := Aside0.mk (Below.refl w.heap.size w)
  have H : (if 0 ≤ (mx 0 (mn a1 8)) then (if (mx 0 (mn a1 8) : Int).toNat ≤ 35184372088832 then ((flagstoneref13_All.f k l0).bind fun t214 => (flagstoneref13_Weights.l0 k (mx 0 (mn a1 8)) (List.replicate (mx 0 (mn a1 8) : Int).toNat 0) t214 0)) else (none)) else (none)) = some r := h
  clear h
  obtain ⟨ji3, hji3⟩ : ∃ j_ : Int, (mn a1 8) = j_ := ⟨_, rfl⟩
  replace H : (if 0 ≤ (mx 0 (ji3)) then (if (mx 0 (ji3) : Int).toNat ≤ 35184372088832 then ((flagstoneref13_All.f k l0).bind fun t214 => (flagstoneref13_Weights.l0 k (mx 0 (ji3)) (List.replicate (mx 0 (ji3) : Int).toNat 0) t214 0)) else (none)) else (none)) = some r := by first | (rw [hji3] at H; exact H) | (simp only [hji3] at H ⊢; exact H)
  (try (have hji3h : ji3 ≤ 8 := by (rw [← hji3]; unfold mn; (repeat' split) <;> omega)))
  (try (have hji3g : ji3 ≤ 64 := by omega))
  have hji3_ : (if 8 < a1 then 8 else a1) = ji3 := hji3
  obtain ⟨ji4, hji4⟩ : ∃ j_ : Int, (mx 0 (ji3)) = j_ := ⟨_, rfl⟩
  replace H : (if 0 ≤ (ji4) then (if (ji4 : Int).toNat ≤ 35184372088832 then ((flagstoneref13_All.f k l0).bind fun t214 => (flagstoneref13_Weights.l0 k ji4 (List.replicate (ji4 : Int).toNat 0) t214 0)) else (none)) else (none)) = some r := by first | (rw [hji4] at H; exact H) | (simp only [hji4] at H ⊢; exact H)
  have hji4_ : (if 0 < (ji3) then (ji3) else 0) = ji4 := hji4
  by_cases c5 : 0 ≤ (ji4)
  · rw [if_pos c5] at H
    have c5b0 := eq_true c5
    have c5b1 : decide (0 ≤ (ji4)) = true := decide_eq_true c5
    clear c5
    by_cases c6 : (ji4 : Int).toNat ≤ 35184372088832
    · rw [if_pos c6] at H
      have c6b0 := eq_true c6
      have c6b1 : decide ((ji4 : Int).toNat ≤ 35184372088832) = true := decide_eq_true c6
      clear c6
      obtain ⟨y211, hy211⟩ : ∃ y_ : List Int, y_ = (List.replicate (ji4 : Int).toNat 0) := ⟨_, rfl⟩
      replace H : ((flagstoneref13_All.f k l0).bind fun t214 => (flagstoneref13_Weights.l0 k ji4 y211 t214 0)) = some r := by first | (rw [hy211]; with_reducible exact H) | (have H2_ := (Option.bind_some _ _).symm.trans H; rw [hy211]; with_reducible exact H2_) | (have H2_ := (Option.bind_some _ _).symm.trans H; with_reducible exact H2_) | with_reducible exact H | (rw [hy211]; exact H) | exact H
      have Ny211 := Aside0.mk hy211
      clear hy211
      replace H := Option.bind_eq_some_iff.mp H
      obtain ⟨t214, A70, H⟩ := H
      replace H : (flagstoneref13_Weights.l0 k ji4 y211 t214 0) = some r := H
      have A7 := Aside0.mk A70
      clear A70
      have H' := Aside0.mk H
      clear H
      go_enter Tryd.func22, Tryd.ntmps22
      go_wp2_with (first | ((with_reducible refine gate_dst (N := 12) rfl ?_); refine Kd.R_make (Kd.int .i64) _ 3 rfl (N := 12) rfl 23 _ _ rfl ji4 rfl rfl Tryd.underlying23 (.int .i64 0) 8 info3 rfl (by decide) (by omega) 0 (ok := fun _ => True) (okp := fun _ => True) rfl (fun _ hk => hk) trivial (of_decide_eq_true (by first | (with_reducible assumption) | assumption)) (Nat.le_trans (Nat.mul_le_mul_right _ (of_decide_eq_true (by first | (with_reducible assumption) | assumption) : ji4.toNat ≤ 35184372088832)) (by omega)) (Below.refl _ _) (Nat.le_refl _) ?_; intro v212 w8 ho9 hb hg_ hnew_; clear hg_ hnew_; (first | rw [← Ny211.out] at ho9 | (simp only [Int.reduceToNat] at ho9; rw [← Ny211.out] at ho9)); have n0_ := Aside0.mk (Kd.R_lower ho9 (below_size (by repeat (first | (with_reducible first | exact HB.out | apply below_alloc | apply pw_below_drewN | apply below_drew1) | exact HB.out)))); have n1_ := Aside0.mk (below_step (by repeat (first | (with_reducible first | exact HB.out | apply below_alloc | apply pw_below_drewN | apply below_drew1) | exact HB.out)) hb); clear HB; have HO213 := n0_; have HB := n1_; clear n0_ n1_; clear hb ho9) | ((with_reducible refine gate_callee (f := 43) rfl ?_); refine goesL_ (some 14) rfl rfl Tryd.func43 (by kernel_rfl) rfl #[.slice A0 l0.length c0] rfl (by (try simp only [List.map_toArray, List.map_cons, List.map_nil]); first | done | rfl | (simp only [List.length_drop, List.length_take]; rfl)) ?_; (with_reducible refine (flagstoneref13_All.calls k _ _ l0 t214 _ ?side1 ?side2 A7.out).mono ?_); (case side1 => repeat (first | exact (Kd.C_below HR0.out HB.out) | (with_reducible refine Kd.C_alloc ?_ _) | (with_reducible refine Kd.C_drewN ?_ _) | (with_reducible refine Kd.C_drew ?_))); (case side2 => exact HC0.out); rintro e w10 ⟨v215, rfl, ho0, hb⟩; refine ⟨_, rfl, ?_⟩; have n0_ := Aside0.mk (Kd.R_elder' (by (with_reducible repeat (first | apply Kd.R_alloc | apply Kd.R_drewN | apply Kd.R_drew)); exact HO213.out) (Kd.R_base ho0) hb); have n1_ := Aside0.mk (Kd.R_lower (Kd.R_new' ho0 (Kd.R_lt (by (with_reducible repeat (first | apply Kd.R_alloc | apply Kd.R_drewN | apply Kd.R_drew)); exact HO213.out))) (below_size (by repeat (first | (with_reducible first | exact HB.out | apply below_alloc | apply pw_below_drewN | apply below_drew1) | exact HB.out)))); have n2_ := Aside0.mk (below_step (by repeat (first | (with_reducible first | exact HB.out | apply below_alloc | apply pw_below_drewN | apply below_drew1) | exact HB.out)) hb); clear HO213; clear HB; have HO213 := n0_; have HO216 := n1_; have HB := n2_; clear n0_ n1_ n2_; (try clear hb); (try clear hb2); (try clear hk); (try clear hi); (try clear ho0)))
      go_loopg [7] k (fun kq v7 w' => ∃ (x5_1 : List Int) (x7_1 : Int), v7 = .int .i64 x7_1 ∧ Aside0 (flagstoneref13_Weights.l0 kq ji4 x5_1 t214 x7_1 = some r) ∧ Aside0 (kq ≤ k) ∧ Aside0 (Kd.R (Kd.int .i64) 3 w' w.heap.size (fun k_ => some k_ ≠ (v215 : Value).ownBlock) v212 x5_1) ∧ Aside0 (Kd.R (Kd.int .i64) 3 w' w.heap.size (fun k_ => some k_ ≠ (v212 : Value).ownBlock) v215 t214) ∧ Aside0 (Below w.heap.size w w'))
      case atStart => exact ⟨(y211), (0), (by first | rfl | (simp; done) | (simp [*]; done)), H', ⟨Nat.le_refl _⟩, ⟨by (with_reducible repeat (first | apply Kd.R_alloc | apply Kd.R_drewN | apply Kd.R_drew)); exact Kd.R_mono HO213.out (fun _ hk => hk.2)⟩, ⟨by (with_reducible repeat (first | apply Kd.R_alloc | apply Kd.R_drewN | apply Kd.R_drew)); exact Kd.R_mono HO216.out (fun _ hk => hk.2)⟩, ⟨by repeat (first | (with_reducible first | exact HB.out | apply below_alloc | apply pw_below_drewN | apply below_drew1) | exact HB.out)⟩⟩
      case round =>
        clear H'
        try clear c2
        try clear p2
        try clear c4
        try clear c5
        try clear c5b0
        try clear c5b1
        try clear c6
        try clear c6b0
        try clear c6b1
        obtain ⟨x5_1, x7_1, rfl, HA, HK1, HO_5, HO_6, HB⟩ := hrel
        cases gk with
        | zero => exact absurd HA.out (by simp [flagstoneref13_Weights.l0])
        | succ k1 =>
          have H := HA.out
          clear HA
          simp only [flagstoneref13_Weights.l0] at H
          by_cases c11 : x7_1 < (t214.length : Int)
          · rw [if_pos c11] at H
            have c11b0 : decide (x7_1 < (t214.length : Int)) = true := decide_eq_true c11
            clear c11
            by_cases c12 : 0 ≤ x7_1
            · rw [if_pos c12] at H
              have c12b0 : decide (0 ≤ x7_1) = true := decide_eq_true c12
              clear c12
              by_cases c13 : (rd t214 x7_1) ≥ 1
              · rw [if_pos c13] at H
                have c13b0 : decide (1 ≤ (rd t214 x7_1)) = true := decide_eq_true c13
                clear c13
                by_cases c14 : (rd t214 x7_1) ≤ ji4
                · rw [if_pos c14] at H
                  have c14b0 : decide ((rd t214 x7_1) ≤ ji4) = true := decide_eq_true c14
                  clear c14
                  obtain ⟨ji15, hji15⟩ : ∃ j_ : Int, (wrap64 ((rd t214 x7_1) - 1)) = j_ := ⟨_, rfl⟩
                  replace H : (if 0 ≤ (ji15) then (if (ji15) < (x5_1.length : Int) then (flagstoneref13_Weights.l0 k1 ji4 (x5_1.set ((ji15) : Int).toNat (wrap64 ((rd x5_1 (ji15)) + 1))) t214 (wrap64 (x7_1 + 1))) else (none)) else (none)) = some r := by first | (rw [hji15] at H; exact H) | (simp only [hji15] at H ⊢; exact H)
                  have hji15w : (IntKind.i64.wrap ((rd t214 x7_1) - 1)) = ji15 := (i64_w _).trans hji15
                  by_cases c16 : 0 ≤ (ji15)
                  · rw [if_pos c16] at H
                    have c16b0 : decide (0 ≤ (ji15)) = true := decide_eq_true c16
                    clear c16
                    by_cases c17 : (ji15) < (x5_1.length : Int)
                    · rw [if_pos c17] at H
                      have c17b0 : decide ((ji15) < (x5_1.length : Int)) = true := decide_eq_true c17
                      clear c17
                      obtain ⟨y221, hy221⟩ : ∃ y_ : List Int, y_ = (x5_1.set ((ji15) : Int).toNat (wrap64 ((rd x5_1 (ji15)) + 1))) := ⟨_, rfl⟩
                      replace H : (flagstoneref13_Weights.l0 k1 ji4 y221 t214 (wrap64 (x7_1 + 1))) = some r := by first | (rw [hy221]; with_reducible exact H) | (have H2_ := (Option.bind_some _ _).symm.trans H; rw [hy221]; with_reducible exact H2_) | (have H2_ := (Option.bind_some _ _).symm.trans H; with_reducible exact H2_) | with_reducible exact H | (rw [hy221]; exact H) | exact H
                      have Ny221 := Aside0.mk hy221
                      clear hy221
                      have H' := Aside0.mk H
                      clear H
                      obtain ⟨Ao19, co19, eo19⟩ := Kd.R_slice HO_6.out
                      subst eo19
                      have p217 : 0 ≤ (x7_1 : Int) := of_decide_eq_true (by first | (with_reducible assumption) | assumption)
                      have q217 : x7_1 < (t214.length : Int) := of_decide_eq_true (by first | (with_reducible assumption) | assumption)
                      (try (obtain ⟨AoX_, coX_, eoX_⟩ := Kd.R_slice HO_6.out; subst eoX_))
                      obtain ⟨ad217, e217, hx217_0⟩ := Kd.at_int (Kd.R_reads' HO_6.out).2.2 x7_1 p217 q217
                      cases e217
                      replace p217 := eq_true p217
                      replace q217 := eq_true q217
                      have p218 : 0 ≤ (x7_1 : Int) := of_decide_eq_true (by first | (with_reducible assumption) | assumption)
                      have q218 : x7_1 < (t214.length : Int) := of_decide_eq_true (by first | (with_reducible assumption) | assumption)
                      (try (obtain ⟨AoX_, coX_, eoX_⟩ := Kd.R_slice HO_6.out; subst eoX_))
                      obtain ⟨ad218, e218, hx218_0⟩ := Kd.at_int (Kd.R_reads' HO_6.out).2.2 x7_1 p218 q218
                      obtain rfl : ad217 = ad218 := (by injection e218)
                      replace p218 := eq_true p218
                      replace q218 := eq_true q218
                      have p219 : 0 ≤ (x7_1 : Int) := of_decide_eq_true (by first | (with_reducible assumption) | assumption)
                      have q219 : x7_1 < (t214.length : Int) := of_decide_eq_true (by first | (with_reducible assumption) | assumption)
                      (try (obtain ⟨AoX_, coX_, eoX_⟩ := Kd.R_slice HO_6.out; subst eoX_))
                      obtain ⟨ad219, e219, hx219_0⟩ := Kd.at_int (Kd.R_reads' HO_6.out).2.2 x7_1 p219 q219
                      obtain rfl : ad217 = ad219 := (by injection e219)
                      replace p219 := eq_true p219
                      replace q219 := eq_true q219
                      obtain ⟨Ao20, co20, eo20⟩ := Kd.R_slice HO_5.out
                      subst eo20
                      have p220 : 0 ≤ ((ji15) : Int) := of_decide_eq_true (by first | (with_reducible assumption) | assumption)
                      have q220 : (ji15) < (x5_1.length : Int) := of_decide_eq_true (by first | (with_reducible assumption) | assumption)
                      (try (obtain ⟨AoX_, coX_, eoX_⟩ := Kd.R_slice HO_5.out; subst eoX_))
                      obtain ⟨ad220, e220, hx220_0⟩ := Kd.at_int (Kd.R_reads' HO_5.out).2.2 (ji15) p220 q220
                      cases e220
                      replace p220 := eq_true p220
                      replace q220 := eq_true q220
                      have p18 : 0 ≤ ((ji15) : Int) := of_decide_eq_true (by first | (with_reducible assumption) | assumption)
                      have q18 : ((ji15) : Int) < ((x5_1.length : Int) : Int) := of_decide_eq_true (by first | (with_reducible assumption) | assumption)
                      obtain ⟨go18, co18, eo18, gb18, gl18, cl18, HG18⟩ := Kd.R_form HO_5.out (by omega)
                      (first | cases eo18 | (injection eo18 with ea_ en_ ec_; (first | subst ea_ | (injection ea_ with ea_; subst ea_)); subst ec_; clear en_))
                      have GB18 := Aside0.mk gb18
                      have GG18 := Aside0.mk HG18
                      clear gb18 gl18 HG18
                      (first | simp only [add_plain] at hx220_0 | skip)
                      obtain ⟨hx18_0, hf18_0⟩ := Kd.R_celln 0 HO_5.out ((ji15) : Int) p18 q18
                      replace p18 := eq_true p18
                      replace q18 := eq_true q18
                      have HP21 := Kd.R_putg HO_5.out ((ji15) : Int) (wrap64 ((rd x5_1 (ji15)) + 1))
                      go_wp2_with (first | ((with_reducible refine gate_store (t := 3) (p := 43) rfl ?_); refine store_event (t := 3) (p := 43) (v := ?vo_w22) (w1 := (wr.setCell ⟨go18, ((ji15) : Int).toNat, none⟩ (.int .i64 (wrap64 ((rd x5_1 (ji15)) + 1))))) ?hg ?ho ?hn ?hr ?_; (case ho => rfl); (case hg => rfl); (case hn => rfl); (case hr => first | (go_simp; done) | (go_simp; rfl)); intro w22 hw; have hg : wr.grownBy w22 (some go18) := (by rw [hw]; exact HP21.2); have hp_ : Kd.R (Kd.int .i64) 3 w22 w.heap.size (fun k_ => some k_ ≠ (.slice (some ad217) t214.length co19 : Value).ownBlock) (.slice (some ⟨go18, 0, none⟩) x5_1.length co20) y221 := (by rw [hw, Ny221.out]; exact HP21.1); clear HP21; have n0_ := Aside0.mk (hp_); have n1_ := Aside0.mk (Kd.R_after (v := (.slice (some ⟨go18, 0, none⟩) x5_1.length co20)) (v1 := (.slice (some ⟨go18, 0, none⟩) x5_1.length co20)) (ok := (fun _ => True)) (by (with_reducible repeat (first | apply Kd.R_alloc | apply Kd.R_drewN | apply Kd.R_drew)); exact Kd.R_mono HO_6.out (fun _ hk => ⟨trivial, hk⟩)) hg (.inl rfl)); have n2_ := Aside0.mk ((by rw [hw]; exact below_set (HB.out) GB18.out : Below w.heap.size w w22)); clear HO_5; clear HO_6; clear HB; have HO_5 := n0_; have HO_6 := n1_; have HB := n2_; clear n0_ n1_ n2_; clear hg hw hp_))
                      go_roundg k1
                      case measure => have := HK1.out; omega
                      case rel => exact ⟨(y221), (wrap64 (x7_1 + 1)), (by first | rfl | (simp; done) | (simp [*]; done)), H', ⟨by have := HK1.out; omega⟩, ⟨by (with_reducible repeat (first | apply Kd.R_alloc | apply Kd.R_drewN | apply Kd.R_drew)); exact HO_5.out⟩, ⟨by (with_reducible repeat (first | apply Kd.R_alloc | apply Kd.R_drewN | apply Kd.R_drew)); exact Kd.R_mono HO_6.out (fun _ hk => hk.2)⟩, ⟨by repeat (first | (with_reducible first | exact HB.out | apply below_alloc | apply pw_below_drewN | apply below_drew1) | exact HB.out)⟩⟩
                    · rw [if_neg c17] at H
                      exact absurd H (by simp)
                  · rw [if_neg c16] at H
                    exact absurd H (by simp)
                · rw [if_neg c14] at H
                  have c14b0 : decide ((rd t214 x7_1) ≤ ji4) = false := decide_eq_false c14
                  clear c14
                  have H' := Aside0.mk H
                  clear H
                  obtain ⟨Ao23, co23, eo23⟩ := Kd.R_slice HO_6.out
                  subst eo23
                  have p217 : 0 ≤ (x7_1 : Int) := of_decide_eq_true (by first | (with_reducible assumption) | assumption)
                  have q217 : x7_1 < (t214.length : Int) := of_decide_eq_true (by first | (with_reducible assumption) | assumption)
                  (try (obtain ⟨AoX_, coX_, eoX_⟩ := Kd.R_slice HO_6.out; subst eoX_))
                  obtain ⟨ad217, e217, hx217_0⟩ := Kd.at_int (Kd.R_reads' HO_6.out).2.2 x7_1 p217 q217
                  cases e217
                  replace p217 := eq_true p217
                  replace q217 := eq_true q217
                  have p218 : 0 ≤ (x7_1 : Int) := of_decide_eq_true (by first | (with_reducible assumption) | assumption)
                  have q218 : x7_1 < (t214.length : Int) := of_decide_eq_true (by first | (with_reducible assumption) | assumption)
                  (try (obtain ⟨AoX_, coX_, eoX_⟩ := Kd.R_slice HO_6.out; subst eoX_))
                  obtain ⟨ad218, e218, hx218_0⟩ := Kd.at_int (Kd.R_reads' HO_6.out).2.2 x7_1 p218 q218
                  obtain rfl : ad217 = ad218 := (by injection e218)
                  replace p218 := eq_true p218
                  replace q218 := eq_true q218
                  go_wp2
                  go_roundg k1
                  case measure => have := HK1.out; omega
                  case rel => exact ⟨(x5_1), (wrap64 (x7_1 + 1)), (by first | rfl | (simp; done) | (simp [*]; done)), H', ⟨by have := HK1.out; omega⟩, ⟨by (with_reducible repeat (first | apply Kd.R_alloc | apply Kd.R_drewN | apply Kd.R_drew)); exact HO_5.out⟩, ⟨by (with_reducible repeat (first | apply Kd.R_alloc | apply Kd.R_drewN | apply Kd.R_drew)); exact HO_6.out⟩, ⟨by repeat (first | (with_reducible first | exact HB.out | apply below_alloc | apply pw_below_drewN | apply below_drew1) | exact HB.out)⟩⟩
              · rw [if_neg c13] at H
                have c13b0 : decide (1 ≤ (rd t214 x7_1)) = false := decide_eq_false c13
                clear c13
                have H' := Aside0.mk H
                clear H
                obtain ⟨Ao24, co24, eo24⟩ := Kd.R_slice HO_6.out
                subst eo24
                have p217 : 0 ≤ (x7_1 : Int) := of_decide_eq_true (by first | (with_reducible assumption) | assumption)
                have q217 : x7_1 < (t214.length : Int) := of_decide_eq_true (by first | (with_reducible assumption) | assumption)
                (try (obtain ⟨AoX_, coX_, eoX_⟩ := Kd.R_slice HO_6.out; subst eoX_))
                obtain ⟨ad217, e217, hx217_0⟩ := Kd.at_int (Kd.R_reads' HO_6.out).2.2 x7_1 p217 q217
                cases e217
                replace p217 := eq_true p217
                replace q217 := eq_true q217
                go_wp2
                go_roundg k1
                case measure => have := HK1.out; omega
                case rel => exact ⟨(x5_1), (wrap64 (x7_1 + 1)), (by first | rfl | (simp; done) | (simp [*]; done)), H', ⟨by have := HK1.out; omega⟩, ⟨by (with_reducible repeat (first | apply Kd.R_alloc | apply Kd.R_drewN | apply Kd.R_drew)); exact HO_5.out⟩, ⟨by (with_reducible repeat (first | apply Kd.R_alloc | apply Kd.R_drewN | apply Kd.R_drew)); exact HO_6.out⟩, ⟨by repeat (first | (with_reducible first | exact HB.out | apply below_alloc | apply pw_below_drewN | apply below_drew1) | exact HB.out)⟩⟩
            · rw [if_neg c12] at H
              exact absurd H (by simp)
          · rw [if_neg c11] at H
            have c11b0 : decide (x7_1 < (t214.length : Int)) = false := decide_eq_false c11
            clear c11
            obtain rfl := Option.some.inj H
            obtain ⟨Ao25, co25, eo25⟩ := Kd.R_slice HO_6.out
            subst eo25
            go_wp2
            go_ret
            exact ⟨_, by first | rfl | (simp [errW_none, errW_some] <;> rfl) | (simp only [← hji3, ← hji4]; first | rfl | (simp [errW_none, errW_some] <;> rfl)) | (simp [*, errW_none, errW_some] <;> rfl), by (with_reducible repeat (first | apply Kd.R_alloc | apply Kd.R_drewN | apply Kd.R_drew)); exact Kd.R_mono HO_5.out (fun _ hk => trivial), by repeat (first | (with_reducible first | exact HB.out | apply below_alloc | apply pw_below_drewN | apply below_drew1) | exact HB.out)⟩
    · rw [if_neg c6] at H
      exact absurd H (by simp)
  · rw [if_neg c5] at H
    exact absurd H (by simp)

-- NOT PRINTED: function 4 (flagstonelaw13_BucketPicks)

end Go.Proofs.YtefglphdiimhnaaDoor.Q
