-- printed by wip/hp.py (the session's driver of the print, with hand-proved contracts)
import Derived.Test.YtefglphdiimhnaaDoorQ0
import Derived.Test.YtefglphdiimhnaaDoorQ2
namespace Go.Proofs.YtefglphdiimhnaaDoor.Q
open Go.RowKit Go.Proofs.YtefglphdiimhnaaDoorW.PrintWords Go.Proofs.YtefglphdiimhnaaDoorW.PrintLast Go.Proofs.YtefglphdiimhnaaDoorW.PrintMore
attribute [local go_sem] max2_int min2_int max_two min_two max_three min_three max_four min_four   -- for this text's walks alone
set_option linter.unusedVariables false
set_option linter.unusedSimpArgs false

/-! ### shape_Split: function 38 -/
mutual
def shape_Split.l0 : Nat → Int → List (S69) → Int → Int → Int → Int → Int → Option (Int)
  | 0, _, _, _, _, _, _, _ => none
  | k + 1, x1, x12, x13, x14, x102000, x102001, x102002 => if x14 < x13 then (if 0 ≤ x14 then (if x14 < (x12.length : Int) then (if ((rd_T69 x12 x14).f2) < 1 then (shape_Split.j1 k x1 x12 x13 x14 true x102000 x102001 x102002 ((rd_T69 x12 x14).f0) ((rd_T69 x12 x14).f1) ((rd_T69 x12 x14).f2)) else (shape_Split.j1 k x1 x12 x13 x14 (decide (((rd_T69 x12 x14).f2) > x1)) x102000 x102001 x102002 ((rd_T69 x12 x14).f0) ((rd_T69 x12 x14).f1) ((rd_T69 x12 x14).f2))) else (none)) else (none)) else ((shape_when.f (x102001 != 10000) 3).bind fun t102 => (some t102))
def shape_Split.j1 : Nat → Int → List (S69) → Int → Int → Bool → Int → Int → Int → Int → Int → Int → Option (Int)
  | 0, _, _, _, _, _, _, _, _, _, _, _ => none
  | k + 1, x1, x12, x13, x14, x26, x102000, x102001, x102002, x105000, x105001, x105002 => if x26 = true then (some 3) else (if x105000 = x102001 then (if x105001 ≤ x105000 then (some 9) else (if x105002 = x102002 then (some 9) else (shape_Split.l0 k x1 x12 x13 (wrap64 (x14 + 1)) x105000 x105001 x105002))) else (some 9))
end
def shape_Split.f (k : Nat) (l0 : List (S69)) (a1 : Int) : Option (Int) := if (l0.length : Int) > 16 then (some 5) else (shape_Split.l0 k a1 l0 (l0.length : Int) 0 0 0 0)
theorem shape_Split.mono_l : ∀ k, (∀ y0 y1 y2 y3 y4 y5 y6, LeO (shape_Split.l0 k y0 y1 y2 y3 y4 y5 y6) (shape_Split.l0 (k + 1) y0 y1 y2 y3 y4 y5 y6)) ∧ (∀ y0 y1 y2 y3 y4 y5 y6 y7 y8 y9 y10, LeO (shape_Split.j1 k y0 y1 y2 y3 y4 y5 y6 y7 y8 y9 y10) (shape_Split.j1 (k + 1) y0 y1 y2 y3 y4 y5 y6 y7 y8 y9 y10))
  | 0 => ⟨fun _ _ _ _ _ _ _ r h => by simp [shape_Split.l0] at h, fun _ _ _ _ _ _ _ _ _ _ _ r h => by simp [shape_Split.j1] at h⟩
  | k + 1 => by
    obtain ⟨ih0, ih1⟩ := shape_Split.mono_l k
    refine ⟨?_, ?_⟩
    · intro y0 y1 y2 y3 y4 y5 y6
      unfold shape_Split.l0
      repeat' first
      | (with_reducible exact ih0 _ _ _ _ _ _ _)
      | (with_reducible exact ih1 _ _ _ _ _ _ _ _ _ _ _)
      | (with_reducible exact LeO.refl _)
      | (with_reducible exact LeO.none _)
      | (with_reducible refine LeO.ite ?_ ?_)
      | (with_reducible refine LeO.bind ?_ (fun _ => ?_))
      | exact ih0 _ _ _ _ _ _ _
      | exact ih1 _ _ _ _ _ _ _ _ _ _ _
      | exact LeO.none _
      | refine LeO.ite ?_ ?_
      | refine LeO.bind ?_ (fun _ => ?_)
    · intro y0 y1 y2 y3 y4 y5 y6 y7 y8 y9 y10
      unfold shape_Split.j1
      repeat' first
      | (with_reducible exact ih0 _ _ _ _ _ _ _)
      | (with_reducible exact ih1 _ _ _ _ _ _ _ _ _ _ _)
      | (with_reducible exact LeO.refl _)
      | (with_reducible exact LeO.none _)
      | (with_reducible refine LeO.ite ?_ ?_)
      | (with_reducible refine LeO.bind ?_ (fun _ => ?_))
      | exact ih0 _ _ _ _ _ _ _
      | exact ih1 _ _ _ _ _ _ _ _ _ _ _
      | exact LeO.none _
      | refine LeO.ite ?_ ?_
      | refine LeO.bind ?_ (fun _ => ?_)
theorem shape_Split.mono : ∀ a0 a1 k, LeO (shape_Split.f k a0 a1) (shape_Split.f (k + 1) a0 a1) := by
  intro a0 a1 k
  obtain ⟨ih0, ih1⟩ := shape_Split.mono_l k
  unfold shape_Split.f
  repeat' first
      | (with_reducible exact ih0 _ _ _ _ _ _ _)
      | (with_reducible exact ih1 _ _ _ _ _ _ _ _ _ _ _)
      | (with_reducible exact LeO.refl _)
      | (with_reducible exact LeO.none _)
      | (with_reducible refine LeO.ite ?_ ?_)
      | (with_reducible refine LeO.bind ?_ (fun _ => ?_))
      | exact ih0 _ _ _ _ _ _ _
      | exact ih1 _ _ _ _ _ _ _ _ _ _ _
      | exact LeO.none _
      | refine LeO.ite ?_ ?_
      | refine LeO.bind ?_ (fun _ => ?_)
set_option maxHeartbeats 8000000 in
set_option maxRecDepth 100000 in
theorem shape_Split.calls (k : Nat) (A0 : Option Addr) (c0 : Nat) (l0 : List (S69)) (a1 : Int) (r : Int) (w : World) (hr0 : Kd.C k69 w A0 l0.length l0) (hc0 : l0.length ≤ c0) (h : shape_Split.f k l0 a1 = some r) :
    Calls Tryd.prog 38 #[.slice A0 l0.length c0, .int .i64 a1] w fun e w' => e = .returned (.int .i64 r) ∧ Below w.heap.size w w' := by
  have hu69 := Tryd.underlying69; have HR0 := Aside0.mk hr0; have HC0 := Aside0.mk hc0; clear hr0 hc0
  have HB := Aside0.mk (Below.refl w.heap.size w)
  have H : (if (l0.length : Int) > 16 then (some 5) else (shape_Split.l0 k a1 l0 (l0.length : Int) 0 0 0 0)) = some r := h
  clear h
  by_cases c3 : (l0.length : Int) > 16
  · rw [if_pos c3] at H
    have c3b0 : decide (16 < (l0.length : Int)) = true := decide_eq_true c3
    have c3b1 : decide (16 < l0.length) = true := decide_eq_true (by omega)
    clear c3
    obtain rfl := Option.some.inj H
    go_enter Tryd.func38, Tryd.ntmps38
    go_wp2
    go_ret
    exact ⟨by first | rfl | (simp [errW_none, errW_some] <;> rfl) | (simp [*, errW_none, errW_some] <;> rfl), by repeat (first | (with_reducible first|exact HB.out|apply zE|apply zB|apply zC) | exact HB.out)⟩
  · rw [if_neg c3] at H
    have c3b0 : decide (16 < (l0.length : Int)) = false := decide_eq_false c3
    have c3b1 : decide (16 < l0.length) = false := decide_eq_false (by omega)
    clear c3; have H' := Aside0.mk H; clear H
    go_enter Tryd.func38, Tryd.ntmps38
    go_wp2_with (first | ((with_reducible refine gate_dst (N := 5) rfl ?_); refine box_event ?hg (N := 5) ?hd (cs := #[.int .i64 0, .int .i64 0, .int .i64 0]) (t := 69) ?hr ?_; (case hd => rfl); (case hg => rfl); (case hr => first | (go_simp; done) | (go_simp; rfl)); intro gb101 hg w4 hbox hb; have n0_ := Aside0.mk (below_step (by repeat (first | (with_reducible first|exact HB.out|apply zE|apply zB|apply zC) | exact HB.out)) hb); have n1_ := Aside0.mk (hbox); have n2_ := Aside0.mk ((by rw [hg]; exact (below_size (by repeat (first | (with_reducible first|exact HB.out|apply zE|apply zB|apply zC) | exact HB.out))) : w.heap.size ≤ gb101)); have n3_ := Aside0.mk ((by rw [hg]; exact (below_size (by repeat (first | (with_reducible first|exact HB.out|apply zE|apply zB|apply zC) | exact HB.out))) : w.heap.size ≤ gb101)); clear HB; have HB := n0_; have BK101 := n1_; have GW101 := n2_; have GE101 := n3_; clear n0_ n1_ n2_ n3_ hb hbox hg; have hcz5_0 : w4.cell? ⟨gb101, 0, none⟩ = some (.int .i64 0) := (blk_cell BK101.out 0).trans rfl; have hcz5_1 : w4.cell? ⟨gb101, 1, none⟩ = some (.int .i64 0) := (blk_cell BK101.out 1).trans rfl; have hcz5_2 : w4.cell? ⟨gb101, 2, none⟩ = some (.int .i64 0) := (blk_cell BK101.out 2).trans rfl; have hfz5_0 := blk_frozen BK101.out 0; have hfz5_1 := blk_frozen BK101.out 1; have hfz5_2 := blk_frozen BK101.out 2))
    go_loopg [14] k (fun kq v14 w' => ∃ (x14_1 : Int) (x102000_1 : Int) (x102001_1 : Int) (x102002_1 : Int), v14 = .int .i64 x14_1 ∧ Aside0 (shape_Split.l0 kq a1 l0 (l0.length : Int) x14_1 x102000_1 x102001_1 x102002_1 = some r) ∧ Aside0 (kq ≤ k) ∧ Aside0 (w'.heap[gb101]? = some (.cells #[.int .i64 x102000_1, .int .i64 x102001_1, .int .i64 x102002_1] 69 (0, 0))) ∧ Aside0 (Below w.heap.size w w'))
    case atStart => exact ⟨(0), (0), (0), (0), (by first | rfl | (simp; done) | (simp [*]; done)), H', ⟨Nat.le_refl _⟩, ⟨by (with_reducible repeat (first|refine zN ?_ _|refine zD ?_|refine zA ?_ _)); refine blk_put (cs := #[.int .i64 0, .int .i64 0, .int .i64 0]) ?_ 2 _ rfl; (with_reducible repeat (first|refine zN ?_ _|refine zD ?_|refine zA ?_ _)); refine blk_put (cs := #[.int .i64 0, .int .i64 0, .int .i64 0]) ?_ 1 _ rfl; (with_reducible repeat (first|refine zN ?_ _|refine zD ?_|refine zA ?_ _)); refine blk_put (cs := #[.int .i64 0, .int .i64 0, .int .i64 0]) ?_ 0 _ rfl; (with_reducible repeat (first|refine zN ?_ _|refine zD ?_|refine zA ?_ _)); exact BK101.out⟩, ⟨by repeat (first | (with_reducible first|exact HB.out|apply zE|apply zB|apply zC | refine zJ ?_ GE101.out) | exact HB.out)⟩⟩
    case round =>
      clear H'; (try clear p2); (try clear c3); (try clear c3b0); (try clear c3b1); (try clear hcz5_0); (try clear hcz5_1); (try clear hcz5_2); (try clear hfz5_0); (try clear hfz5_1); (try clear hfz5_2)
      obtain ⟨x14_1, x102000_1, x102001_1, x102002_1, rfl, HA, HK1, BK101, HB⟩ := hrel
      cases gk with
      | zero => exact absurd HA.out (by simp [shape_Split.l0])
      | succ k1 =>
        have H := HA.out; clear HA
        simp only [shape_Split.l0] at H
        by_cases c6 : x14_1 < (l0.length : Int)
        · rw [if_pos c6] at H
          have c6b0 : decide (x14_1 < (l0.length : Int)) = true := decide_eq_true c6
          clear c6
          by_cases c7 : 0 ≤ x14_1
          · rw [if_pos c7] at H
            have c7b0 : decide (0 ≤ x14_1) = true := decide_eq_true c7
            clear c7
            by_cases c8 : x14_1 < (l0.length : Int)
            · rw [if_pos c8] at H
              have c8b0 : decide (x14_1 < (l0.length : Int)) = true := decide_eq_true c8
              clear c8; have HC9 := Aside0.mk H; clear H
              have p103 : 0 ≤ (x14_1 : Int) := of_decide_eq_true (by first | (with_reducible assumption) | assumption)
              have q103 : x14_1 < (l0.length : Int) := of_decide_eq_true (by first | (with_reducible assumption) | assumption)
              obtain ⟨ad103, e103, hx103_0, hx103_1, hx103_2⟩ := at_T69 HR0.out x14_1 p103 q103
              cases e103
              replace hx103_0 := (HB.out.cell (World.block_lt_of_cell? w _ hx103_0)).trans hx103_0
              replace hx103_1 := (HB.out.cell (World.block_lt_of_cell? w _ hx103_1)).trans hx103_1
              replace hx103_2 := (HB.out.cell (World.block_lt_of_cell? w _ hx103_2)).trans hx103_2
              replace p103 := eq_true p103
              replace q103 := eq_true q103
              go_upto_region 7 with (first | ((with_reducible refine gate_dst (N := 7) rfl ?_); refine box_event ?hg (N := 7) ?hd (cs := #[.int .i64 0, .int .i64 0, .int .i64 0]) (t := 69) ?hr ?_; (case hd => rfl); (case hg => rfl); (case hr => first | (go_simp; done) | (go_simp; rfl)); intro gb104 hg w10 hbox hb; have n0_ := Aside0.mk (blk_below (g := gb101) (o := .cells #[.int .i64 x102000_1, .int .i64 x102001_1, .int .i64 x102002_1] 69 (0, 0)) (by (with_reducible repeat (first|refine zN ?_ _|refine zD ?_|refine zA ?_ _)); exact BK101.out) hb); have n1_ := Aside0.mk (below_step (by repeat (first | (with_reducible first|exact HB.out|apply zE|apply zB|apply zC | refine zJ ?_ GE101.out) | exact HB.out)) hb); have n2_ := Aside0.mk (hbox); have n3_ := Aside0.mk ((by rw [hg]; exact (below_size (by repeat (first | (with_reducible first|exact HB.out|apply zE|apply zB|apply zC | refine zJ ?_ GE101.out) | exact HB.out))) : w.heap.size ≤ gb104)); have n4_ := Aside0.mk ((by rw [hg]; exact (below_size (by repeat (first | (with_reducible first|exact HB.out|apply zE|apply zB|apply zC | refine zJ ?_ GE101.out) | exact HB.out))) : w.heap.size ≤ gb104)); have n5_ := Aside0.mk ((by rw [hg]; exact Nat.ne_of_lt (blk_lt (g := gb101) (o := .cells #[.int .i64 x102000_1, .int .i64 x102001_1, .int .i64 x102002_1] 69 (0, 0)) (by (with_reducible repeat (first|refine zN ?_ _|refine zD ?_|refine zA ?_ _)); exact BK101.out)) : gb101 ≠ gb104)); have n6_ := Aside0.mk ((by rw [hg]; exact Nat.ne_of_gt (blk_lt (g := gb101) (o := .cells #[.int .i64 x102000_1, .int .i64 x102001_1, .int .i64 x102002_1] 69 (0, 0)) (by (with_reducible repeat (first|refine zN ?_ _|refine zD ?_|refine zA ?_ _)); exact BK101.out)) : gb104 ≠ gb101)); clear BK101 HB; have BK101 := n0_; have HB := n1_; have BK104 := n2_; have GW104 := n3_; have GE104 := n4_; have NB101_104 := n5_; have NB104_101 := n6_; clear n0_ n1_ n2_ n3_ n4_ n5_ n6_ hb hbox hg; have hnb11 := NB104_101.out; have hnc11 := NB101_104.out; have hcz12_0 : w10.cell? ⟨gb104, 0, none⟩ = some (.int .i64 0) := (blk_cell BK104.out 0).trans rfl; have hcz12_1 : w10.cell? ⟨gb104, 1, none⟩ = some (.int .i64 0) := (blk_cell BK104.out 1).trans rfl; have hcz12_2 : w10.cell? ⟨gb104, 2, none⟩ = some (.int .i64 0) := (blk_cell BK104.out 2).trans rfl; have hfz12_0 := blk_frozen BK104.out 0; have hfz12_1 := blk_frozen BK104.out 1; have hfz12_2 := blk_frozen BK104.out 2))
              (try simp only [Act.put, List.setIfInBounds_toArray, List.set_cons_zero, List.set_cons_succ])
              go_cut [26] (fun v26 wc => ∃ (kq : Nat) (x26_8 : Bool), v26 = .bool x26_8 ∧ Aside0 (shape_Split.j1 kq a1 l0 (l0.length : Int) x14_1 x26_8 x102000_1 x102001_1 x102002_1 ((rd_T69 l0 x14_1).f0) ((rd_T69 l0 x14_1).f1) ((rd_T69 l0 x14_1).f2) = some r) ∧ Aside0 (kq ≤ k1) ∧ Aside0 (wc.heap[gb101]? = some (.cells #[.int .i64 x102000_1, .int .i64 x102001_1, .int .i64 x102002_1] 69 (0, 0))) ∧ Aside0 (wc.heap[gb104]? = some (.cells #[.int .i64 ((rd_T69 l0 x14_1).f0), .int .i64 ((rd_T69 l0 x14_1).f1), .int .i64 ((rd_T69 l0 x14_1).f2)] 69 (0, 0))) ∧ Aside0 (Below w.heap.size w wc))
              case first =>
                have H := HC9.out; clear HC9
                by_cases c13 : ((rd_T69 l0 x14_1).f2) < 1
                · rw [if_pos c13] at H
                  have c13b0 : decide (((rd_T69 l0 x14_1).f2) < 1) = true := decide_eq_true c13
                  clear c13
                  (first | rw [c13b0] | (simp only [i64_w, i32_w]; rw [c13b0]) | skip)
                  have H' := Aside0.mk H; clear H; have hnb14 := NB104_101.out; have hnc14 := NB101_104.out
                  have hcz15_0 : w10.cell? ⟨gb104, 0, none⟩ = some (.int .i64 0) := (blk_cell BK104.out 0).trans rfl
                  have hcz15_1 : w10.cell? ⟨gb104, 1, none⟩ = some (.int .i64 0) := (blk_cell BK104.out 1).trans rfl
                  have hcz15_2 : w10.cell? ⟨gb104, 2, none⟩ = some (.int .i64 0) := (blk_cell BK104.out 2).trans rfl
                  have hfz15_0 := blk_frozen BK104.out 0
                  have hfz15_1 := blk_frozen BK104.out 1
                  have hfz15_2 := blk_frozen BK104.out 2
                  go_wp2
                  go_meet
                  case rel => exact ⟨_, (true), (by first | rfl | (simp; done) | (simp [*]; done)), H', ⟨by have := HK1.out; first | omega | exact Nat.le_refl _⟩, ⟨by (with_reducible repeat (first|refine zN ?_ _|refine zD ?_|refine zA ?_ _)); refine blk_far ?_ NB101_104.out _; (with_reducible repeat (first|refine zN ?_ _|refine zD ?_|refine zA ?_ _)); refine blk_far ?_ NB101_104.out _; (with_reducible repeat (first|refine zN ?_ _|refine zD ?_|refine zA ?_ _)); refine blk_far ?_ NB101_104.out _; (with_reducible repeat (first|refine zN ?_ _|refine zD ?_|refine zA ?_ _)); exact BK101.out⟩, ⟨by (with_reducible repeat (first|refine zN ?_ _|refine zD ?_|refine zA ?_ _)); refine blk_put (cs := #[.int .i64 ((rd_T69 l0 x14_1).f0), .int .i64 ((rd_T69 l0 x14_1).f1), .int .i64 0]) ?_ 2 _ rfl; (with_reducible repeat (first|refine zN ?_ _|refine zD ?_|refine zA ?_ _)); refine blk_put (cs := #[.int .i64 ((rd_T69 l0 x14_1).f0), .int .i64 0, .int .i64 0]) ?_ 1 _ rfl; (with_reducible repeat (first|refine zN ?_ _|refine zD ?_|refine zA ?_ _)); refine blk_put (cs := #[.int .i64 0, .int .i64 0, .int .i64 0]) ?_ 0 _ rfl; (with_reducible repeat (first|refine zN ?_ _|refine zD ?_|refine zA ?_ _)); exact BK104.out⟩, ⟨by repeat (first | (with_reducible first|exact HB.out|apply zE|apply zB|apply zC | refine zJ ?_ GE101.out | refine zJ ?_ GE104.out) | exact HB.out)⟩⟩
                · rw [if_neg c13] at H
                  have c13b0 : decide (((rd_T69 l0 x14_1).f2) < 1) = false := decide_eq_false c13
                  clear c13
                  (first | rw [c13b0] | (simp only [i64_w, i32_w]; rw [c13b0]) | skip)
                  have H' := Aside0.mk H; clear H; have hnb16 := NB104_101.out; have hnc16 := NB101_104.out
                  have hcz17_0 : w10.cell? ⟨gb104, 0, none⟩ = some (.int .i64 0) := (blk_cell BK104.out 0).trans rfl
                  have hcz17_1 : w10.cell? ⟨gb104, 1, none⟩ = some (.int .i64 0) := (blk_cell BK104.out 1).trans rfl
                  have hcz17_2 : w10.cell? ⟨gb104, 2, none⟩ = some (.int .i64 0) := (blk_cell BK104.out 2).trans rfl
                  have hfz17_0 := blk_frozen BK104.out 0
                  have hfz17_1 := blk_frozen BK104.out 1
                  have hfz17_2 := blk_frozen BK104.out 2
                  go_wp2
                  go_meet
                  case rel => exact ⟨_, (decide (((rd_T69 l0 x14_1).f2) > a1)), (by first | rfl | (simp; done) | (simp [*]; done)), H', ⟨by have := HK1.out; first | omega | exact Nat.le_refl _⟩, ⟨by (with_reducible repeat (first|refine zN ?_ _|refine zD ?_|refine zA ?_ _)); refine blk_far ?_ NB101_104.out _; (with_reducible repeat (first|refine zN ?_ _|refine zD ?_|refine zA ?_ _)); refine blk_far ?_ NB101_104.out _; (with_reducible repeat (first|refine zN ?_ _|refine zD ?_|refine zA ?_ _)); refine blk_far ?_ NB101_104.out _; (with_reducible repeat (first|refine zN ?_ _|refine zD ?_|refine zA ?_ _)); exact BK101.out⟩, ⟨by (with_reducible repeat (first|refine zN ?_ _|refine zD ?_|refine zA ?_ _)); refine blk_put (cs := #[.int .i64 ((rd_T69 l0 x14_1).f0), .int .i64 ((rd_T69 l0 x14_1).f1), .int .i64 0]) ?_ 2 _ rfl; (with_reducible repeat (first|refine zN ?_ _|refine zD ?_|refine zA ?_ _)); refine blk_put (cs := #[.int .i64 ((rd_T69 l0 x14_1).f0), .int .i64 0, .int .i64 0]) ?_ 1 _ rfl; (with_reducible repeat (first|refine zN ?_ _|refine zD ?_|refine zA ?_ _)); refine blk_put (cs := #[.int .i64 0, .int .i64 0, .int .i64 0]) ?_ 0 _ rfl; (with_reducible repeat (first|refine zN ?_ _|refine zD ?_|refine zA ?_ _)); exact BK104.out⟩, ⟨by repeat (first | (with_reducible first|exact HB.out|apply zE|apply zB|apply zC | refine zJ ?_ GE101.out | refine zJ ?_ GE104.out) | exact HB.out)⟩⟩
              case rest =>
                clear HC9; (try clear c1); (try clear p1); (try clear q1); (try clear hx1); (try clear p2); (try clear c3); (try clear c3b0); (try clear c3b1); (try clear c6); (try clear c6b0); (try clear c7); (try clear c7b0); (try clear c8); (try clear c8b0); (try clear p10); (try clear q10); (try clear hx10); (try clear c11); (try clear c13); (try clear c13b0); (try clear c14); (try clear c16); (try clear hcz12_0); (try clear hcz12_1); (try clear hcz12_2); (try clear hcz15_0); (try clear hcz15_1); (try clear hcz15_2); (try clear hcz17_0); (try clear hcz17_1); (try clear hcz17_2); (try clear hcz5_0); (try clear hcz5_1); (try clear hcz5_2); (try clear hfz12_0); (try clear hfz12_1); (try clear hfz12_2); (try clear hfz15_0); (try clear hfz15_1); (try clear hfz15_2); (try clear hfz17_0); (try clear hfz17_1); (try clear hfz17_2); (try clear hfz5_0); (try clear hfz5_1); (try clear hfz5_2); (try clear hx103_0); (try clear hx103_1); (try clear hx103_2); (try clear p103); (try clear p2); (try clear q103)
                obtain ⟨kq, x26_8, rfl, HA, HJ8, BK101, BK104, HB⟩ := hcut
                cases kq with
                | zero => exact absurd HA.out (by simp [shape_Split.j1])
                | succ kj8 =>
                  have H := HA.out; clear HA
                  simp only [shape_Split.j1] at H
                  by_cases c18 : x26_8 = true
                  · subst c18
                    have H1 : (some 3) = some r := by rw [if_pos rfl] at H; exact H
                    clear H; have H := H1; clear H1
                    obtain rfl := Option.some.inj H
                    go_wp2
                    go_ret
                    exact ⟨by first | rfl | (simp [errW_none, errW_some] <;> rfl) | (simp [*, errW_none, errW_some] <;> rfl), by repeat (first | (with_reducible first|exact HB.out|apply zE|apply zB|apply zC | refine zJ ?_ GE101.out | refine zJ ?_ GE104.out) | exact HB.out)⟩
                  · replace c18 := Bool.eq_false_iff.mpr c18
                    subst c18
                    have H1 : (if ((rd_T69 l0 x14_1).f0) = x102001_1 then (if ((rd_T69 l0 x14_1).f1) ≤ ((rd_T69 l0 x14_1).f0) then (some 9) else (if ((rd_T69 l0 x14_1).f2) = x102002_1 then (some 9) else (shape_Split.l0 kj8 a1 l0 (l0.length : Int) (wrap64 (x14_1 + 1)) ((rd_T69 l0 x14_1).f0) ((rd_T69 l0 x14_1).f1) ((rd_T69 l0 x14_1).f2)))) else (some 9)) = some r := by rw [if_neg (show ¬ (false = true) by decide)] at H; exact H
                    clear H; have H := H1; clear H1
                    by_cases c19 : ((rd_T69 l0 x14_1).f0) = x102001_1
                    · rw [if_pos c19] at H
                      have c19b0 : (((rd_T69 l0 x14_1).f0) == x102001_1) = true := beq_iff_eq.mpr c19
                      have c19b1 : (((rd_T69 l0 x14_1).f0) != x102001_1) = false := bne_eq_false_iff_eq.mpr c19
                      clear c19
                      by_cases c20 : ((rd_T69 l0 x14_1).f1) ≤ ((rd_T69 l0 x14_1).f0)
                      · rw [if_pos c20] at H
                        have c20b0 : decide (((rd_T69 l0 x14_1).f1) ≤ ((rd_T69 l0 x14_1).f0)) = true := decide_eq_true c20
                        clear c20
                        obtain rfl := Option.some.inj H
                        have hnb21 := NB104_101.out; have hnc21 := NB101_104.out
                        have hcz22_0 : wc.cell? ⟨gb104, 0, none⟩ = some (.int .i64 ((rd_T69 l0 x14_1).f0)) := (blk_cell BK104.out 0).trans rfl
                        have hcz22_1 : wc.cell? ⟨gb104, 1, none⟩ = some (.int .i64 ((rd_T69 l0 x14_1).f1)) := (blk_cell BK104.out 1).trans rfl
                        have hcz22_2 : wc.cell? ⟨gb104, 2, none⟩ = some (.int .i64 ((rd_T69 l0 x14_1).f2)) := (blk_cell BK104.out 2).trans rfl
                        have hfz22_0 := blk_frozen BK104.out 0
                        have hfz22_1 := blk_frozen BK104.out 1
                        have hfz22_2 := blk_frozen BK104.out 2
                        have hcz23_0 : wc.cell? ⟨gb101, 0, none⟩ = some (.int .i64 x102000_1) := (blk_cell BK101.out 0).trans rfl
                        have hcz23_1 : wc.cell? ⟨gb101, 1, none⟩ = some (.int .i64 x102001_1) := (blk_cell BK101.out 1).trans rfl
                        have hcz23_2 : wc.cell? ⟨gb101, 2, none⟩ = some (.int .i64 x102002_1) := (blk_cell BK101.out 2).trans rfl
                        have hfz23_0 := blk_frozen BK101.out 0
                        have hfz23_1 := blk_frozen BK101.out 1
                        have hfz23_2 := blk_frozen BK101.out 2
                        go_wp2
                        go_ret
                        exact ⟨by first | rfl | (simp [errW_none, errW_some] <;> rfl) | (simp [*, errW_none, errW_some] <;> rfl), by repeat (first | (with_reducible first|exact HB.out|apply zE|apply zB|apply zC | refine zJ ?_ GE101.out | refine zJ ?_ GE104.out) | exact HB.out)⟩
                      · rw [if_neg c20] at H
                        have c20b0 : decide (((rd_T69 l0 x14_1).f1) ≤ ((rd_T69 l0 x14_1).f0)) = false := decide_eq_false c20
                        clear c20
                        by_cases c24 : ((rd_T69 l0 x14_1).f2) = x102002_1
                        · rw [if_pos c24] at H
                          have c24b0 : (((rd_T69 l0 x14_1).f2) == x102002_1) = true := beq_iff_eq.mpr c24
                          have c24b1 : (((rd_T69 l0 x14_1).f2) != x102002_1) = false := bne_eq_false_iff_eq.mpr c24
                          clear c24
                          obtain rfl := Option.some.inj H
                          have hnb25 := NB104_101.out; have hnc25 := NB101_104.out
                          have hcz26_0 : wc.cell? ⟨gb104, 0, none⟩ = some (.int .i64 ((rd_T69 l0 x14_1).f0)) := (blk_cell BK104.out 0).trans rfl
                          have hcz26_1 : wc.cell? ⟨gb104, 1, none⟩ = some (.int .i64 ((rd_T69 l0 x14_1).f1)) := (blk_cell BK104.out 1).trans rfl
                          have hcz26_2 : wc.cell? ⟨gb104, 2, none⟩ = some (.int .i64 ((rd_T69 l0 x14_1).f2)) := (blk_cell BK104.out 2).trans rfl
                          have hfz26_0 := blk_frozen BK104.out 0
                          have hfz26_1 := blk_frozen BK104.out 1
                          have hfz26_2 := blk_frozen BK104.out 2
                          have hcz27_0 : wc.cell? ⟨gb101, 0, none⟩ = some (.int .i64 x102000_1) := (blk_cell BK101.out 0).trans rfl
                          have hcz27_1 : wc.cell? ⟨gb101, 1, none⟩ = some (.int .i64 x102001_1) := (blk_cell BK101.out 1).trans rfl
                          have hcz27_2 : wc.cell? ⟨gb101, 2, none⟩ = some (.int .i64 x102002_1) := (blk_cell BK101.out 2).trans rfl
                          have hfz27_0 := blk_frozen BK101.out 0
                          have hfz27_1 := blk_frozen BK101.out 1
                          have hfz27_2 := blk_frozen BK101.out 2
                          go_wp2
                          go_ret
                          exact ⟨by first | rfl | (simp [errW_none, errW_some] <;> rfl) | (simp [*, errW_none, errW_some] <;> rfl), by repeat (first | (with_reducible first|exact HB.out|apply zE|apply zB|apply zC | refine zJ ?_ GE101.out | refine zJ ?_ GE104.out) | exact HB.out)⟩
                        · rw [if_neg c24] at H
                          have c24b0 : (((rd_T69 l0 x14_1).f2) == x102002_1) = false := beq_eq_false_iff_ne.mpr c24
                          have c24b1 : (((rd_T69 l0 x14_1).f2) != x102002_1) = true := bne_iff_ne.mpr c24
                          have H' := Aside0.mk H; clear H; have hnb28 := NB104_101.out; have hnc28 := NB101_104.out
                          have hcz29_0 : wc.cell? ⟨gb104, 0, none⟩ = some (.int .i64 ((rd_T69 l0 x14_1).f0)) := (blk_cell BK104.out 0).trans rfl
                          have hcz29_1 : wc.cell? ⟨gb104, 1, none⟩ = some (.int .i64 ((rd_T69 l0 x14_1).f1)) := (blk_cell BK104.out 1).trans rfl
                          have hcz29_2 : wc.cell? ⟨gb104, 2, none⟩ = some (.int .i64 ((rd_T69 l0 x14_1).f2)) := (blk_cell BK104.out 2).trans rfl
                          have hfz29_0 := blk_frozen BK104.out 0
                          have hfz29_1 := blk_frozen BK104.out 1
                          have hfz29_2 := blk_frozen BK104.out 2
                          have hcz30_0 : wc.cell? ⟨gb101, 0, none⟩ = some (.int .i64 x102000_1) := (blk_cell BK101.out 0).trans rfl
                          have hcz30_1 : wc.cell? ⟨gb101, 1, none⟩ = some (.int .i64 x102001_1) := (blk_cell BK101.out 1).trans rfl
                          have hcz30_2 : wc.cell? ⟨gb101, 2, none⟩ = some (.int .i64 x102002_1) := (blk_cell BK101.out 2).trans rfl
                          have hfz30_0 := blk_frozen BK101.out 0
                          have hfz30_1 := blk_frozen BK101.out 1
                          have hfz30_2 := blk_frozen BK101.out 2
                          go_wp2
                          go_roundg kj8
                          case measure => have := HK1.out; have := HJ8.out; omega
                          case rel => exact ⟨(wrap64 (x14_1 + 1)), (((rd_T69 l0 x14_1).f0)), (((rd_T69 l0 x14_1).f1)), (((rd_T69 l0 x14_1).f2)), (by first | rfl | (simp; done) | (simp [*]; done)), H', ⟨by have := HK1.out; have := HJ8.out; omega⟩, ⟨by (with_reducible repeat (first|refine zN ?_ _|refine zD ?_|refine zA ?_ _)); refine blk_put (cs := #[.int .i64 ((rd_T69 l0 x14_1).f0), .int .i64 ((rd_T69 l0 x14_1).f1), .int .i64 x102002_1]) ?_ 2 _ rfl; (with_reducible repeat (first|refine zN ?_ _|refine zD ?_|refine zA ?_ _)); refine blk_put (cs := #[.int .i64 ((rd_T69 l0 x14_1).f0), .int .i64 x102001_1, .int .i64 x102002_1]) ?_ 1 _ rfl; (with_reducible repeat (first|refine zN ?_ _|refine zD ?_|refine zA ?_ _)); refine blk_put (cs := #[.int .i64 x102000_1, .int .i64 x102001_1, .int .i64 x102002_1]) ?_ 0 _ rfl; (with_reducible repeat (first|refine zN ?_ _|refine zD ?_|refine zA ?_ _)); exact BK101.out⟩, ⟨by repeat (first | (with_reducible first|exact HB.out|apply zE|apply zB|apply zC | refine zJ ?_ GE101.out | refine zJ ?_ GE104.out) | exact HB.out)⟩⟩
                    · rw [if_neg c19] at H
                      have c19b0 : (((rd_T69 l0 x14_1).f0) == x102001_1) = false := beq_eq_false_iff_ne.mpr c19
                      have c19b1 : (((rd_T69 l0 x14_1).f0) != x102001_1) = true := bne_iff_ne.mpr c19
                      obtain rfl := Option.some.inj H
                      have hnb31 := NB104_101.out; have hnc31 := NB101_104.out
                      have hcz32_0 : wc.cell? ⟨gb104, 0, none⟩ = some (.int .i64 ((rd_T69 l0 x14_1).f0)) := (blk_cell BK104.out 0).trans rfl
                      have hcz32_1 : wc.cell? ⟨gb104, 1, none⟩ = some (.int .i64 ((rd_T69 l0 x14_1).f1)) := (blk_cell BK104.out 1).trans rfl
                      have hcz32_2 : wc.cell? ⟨gb104, 2, none⟩ = some (.int .i64 ((rd_T69 l0 x14_1).f2)) := (blk_cell BK104.out 2).trans rfl
                      have hfz32_0 := blk_frozen BK104.out 0
                      have hfz32_1 := blk_frozen BK104.out 1
                      have hfz32_2 := blk_frozen BK104.out 2
                      have hcz33_0 : wc.cell? ⟨gb101, 0, none⟩ = some (.int .i64 x102000_1) := (blk_cell BK101.out 0).trans rfl
                      have hcz33_1 : wc.cell? ⟨gb101, 1, none⟩ = some (.int .i64 x102001_1) := (blk_cell BK101.out 1).trans rfl
                      have hcz33_2 : wc.cell? ⟨gb101, 2, none⟩ = some (.int .i64 x102002_1) := (blk_cell BK101.out 2).trans rfl
                      have hfz33_0 := blk_frozen BK101.out 0
                      have hfz33_1 := blk_frozen BK101.out 1
                      have hfz33_2 := blk_frozen BK101.out 2
                      go_wp2
                      go_ret
                      exact ⟨by first | rfl | (simp [errW_none, errW_some] <;> rfl) | (simp [*, errW_none, errW_some] <;> rfl), by repeat (first | (with_reducible first|exact HB.out|apply zE|apply zB|apply zC | refine zJ ?_ GE101.out | refine zJ ?_ GE104.out) | exact HB.out)⟩
            · rw [if_neg c8] at H
              exact absurd H (by simp)
          · rw [if_neg c7] at H
            exact absurd H (by simp)
        · rw [if_neg c6] at H
          have c6b0 : decide (x14_1 < (l0.length : Int)) = false := decide_eq_false c6
          clear c6; replace H := Option.bind_eq_some_iff.mp H; obtain ⟨t102, A340, H⟩ := H
          replace H : (some t102) = some r := H
          have A34 := Aside0.mk A340; clear A340
          obtain rfl := Option.some.inj H
          have hcz35_0 : wr.cell? ⟨gb101, 0, none⟩ = some (.int .i64 x102000_1) := (blk_cell BK101.out 0).trans rfl
          have hcz35_1 : wr.cell? ⟨gb101, 1, none⟩ = some (.int .i64 x102001_1) := (blk_cell BK101.out 1).trans rfl
          have hcz35_2 : wr.cell? ⟨gb101, 2, none⟩ = some (.int .i64 x102002_1) := (blk_cell BK101.out 2).trans rfl
          have hfz35_0 := blk_frozen BK101.out 0
          have hfz35_1 := blk_frozen BK101.out 1
          have hfz35_2 := blk_frozen BK101.out 2
          go_wp2_with (first | ((with_reducible refine gate_callee (f := 53) rfl ?_); refine goesL_ (some 51) rfl rfl Tryd.func53 (by kernel_rfl) rfl #[.bool (x102001_1 != 10000), .int .i64 3] rfl (by (try simp only [List.map_toArray, List.map_cons, List.map_nil]); first | done | rfl | (simp only [List.length_drop, List.length_take]; rfl)) ?_; (with_reducible refine (shape_when.calls (x102001_1 != 10000) 3 t102 _ A34.out).mono ?_); rintro e w' ⟨rfl, ⟨nd, rfl⟩⟩; refine ⟨_, rfl, ?_⟩))
          go_ret
          exact ⟨by first | rfl | (simp [errW_none, errW_some] <;> rfl) | (simp [*, errW_none, errW_some] <;> rfl), by repeat (first | (with_reducible first|exact HB.out|apply zE|apply zB|apply zC | refine zJ ?_ GE101.out) | exact HB.out)⟩

/-! ### bucket_check: function 39 -/
def bucket_check.l0 : Nat → Int → List Int → Int → Int → Option (Int)
  | 0, _, _, _, _ => none
  | k + 1, x3, x9, x10, x11 => if x11 < x10 then (if 0 ≤ x11 then (if x11 < (x9.length : Int) then (if (rd x9 x11) < 0 then (some 3) else (if (rd x9 x11) > 10000 then (some 3) else (bucket_check.l0 k (wrap64 (x3 + (rd x9 x11))) x9 x10 (wrap64 (x11 + 1))))) else (none)) else (none)) else (if x3 = 10000 then (some 0) else (some 3))
def bucket_check.f (k : Nat) (l0 : List Int) : Option (Int) := if (l0.length : Int) > 8 then (some 5) else (bucket_check.l0 k 0 l0 (l0.length : Int) 0)
theorem bucket_check.mono_l : ∀ k, (∀ y0 y1 y2 y3, LeO (bucket_check.l0 k y0 y1 y2 y3) (bucket_check.l0 (k + 1) y0 y1 y2 y3))
  | 0 => fun _ _ _ _ r h => by simp [bucket_check.l0] at h
  | k + 1 => by
    have ih0 := bucket_check.mono_l k
    · intro y0 y1 y2 y3
      unfold bucket_check.l0
      repeat' first
      | (with_reducible exact ih0 _ _ _ _)
      | (with_reducible exact LeO.refl _)
      | (with_reducible exact LeO.none _)
      | (with_reducible refine LeO.ite ?_ ?_)
      | (with_reducible refine LeO.bind ?_ (fun _ => ?_))
      | exact ih0 _ _ _ _
      | exact LeO.none _
      | refine LeO.ite ?_ ?_
      | refine LeO.bind ?_ (fun _ => ?_)
theorem bucket_check.mono : ∀ a0 k, LeO (bucket_check.f k a0) (bucket_check.f (k + 1) a0) := by
  intro a0 k
  have ih0 := bucket_check.mono_l k
  unfold bucket_check.f
  repeat' first
      | (with_reducible exact ih0 _ _ _ _)
      | (with_reducible exact LeO.refl _)
      | (with_reducible exact LeO.none _)
      | (with_reducible refine LeO.ite ?_ ?_)
      | (with_reducible refine LeO.bind ?_ (fun _ => ?_))
      | exact ih0 _ _ _ _
      | exact LeO.none _
      | refine LeO.ite ?_ ?_
      | refine LeO.bind ?_ (fun _ => ?_)
set_option maxHeartbeats 8000000 in
set_option maxRecDepth 100000 in
theorem bucket_check.calls (k : Nat) (A0 : Option Addr) (c0 : Nat) (l0 : List Int) (r : Int) (w : World) (hr0 : Kd.C (Kd.int .i64) w A0 l0.length l0) (hc0 : l0.length ≤ c0) (h : bucket_check.f k l0 = some r) :
    Calls Tryd.prog 39 #[.slice A0 l0.length c0] w fun e w' => e = .returned (.int .i64 r) ∧ Drawn0 w w' := by
  have HR0 := Aside0.mk hr0; have HC0 := Aside0.mk hc0; clear hr0 hc0
  have H : (if (l0.length : Int) > 8 then (some 5) else (bucket_check.l0 k 0 l0 (l0.length : Int) 0)) = some r := h
  clear h
  by_cases c2 : (l0.length : Int) > 8
  · rw [if_pos c2] at H
    have c2b0 : decide (8 < (l0.length : Int)) = true := decide_eq_true c2
    have c2b1 : decide (8 < l0.length) = true := decide_eq_true (by omega)
    clear c2
    obtain rfl := Option.some.inj H
    go_enter Tryd.func39, Tryd.ntmps39
    go_wp2
    go_ret
    exact ⟨by first | rfl | (simp; done) | (simp [*]; done), by repeat (first | exact Drawn0.refl _ | apply Drawn0.step)⟩
  · rw [if_neg c2] at H
    have c2b0 : decide (8 < (l0.length : Int)) = false := decide_eq_false c2
    have c2b1 : decide (8 < l0.length) = false := decide_eq_false (by omega)
    clear c2; have H' := Aside0.mk H; clear H
    go_enter Tryd.func39, Tryd.ntmps39
    go_wp2
    go_loopg [3, 11] k (fun kq v3 v11 w' => ∃ (x3_1 : Int) (x11_1 : Int), v3 = .int .i64 x3_1 ∧ v11 = .int .i64 x11_1 ∧ Aside0 (bucket_check.l0 kq x3_1 l0 (l0.length : Int) x11_1 = some r) ∧ Aside0 (kq ≤ k) ∧ Drawn0 w w')
    case atStart => exact ⟨(0), (0), (by first | rfl | (simp; done) | (simp [*]; done)), (by first | rfl | (simp; done) | (simp [*]; done)), H', ⟨Nat.le_refl _⟩, by repeat (first | exact Drawn0.refl _ | apply Drawn0.step)⟩
    case round =>
      clear H'; (try clear c2); (try clear c2b0); (try clear c2b1); (try clear p2)
      obtain ⟨x3_1, x11_1, rfl, rfl, HA, HK1, ⟨m1, rfl⟩⟩ := hrel
      cases gk with
      | zero => exact absurd HA.out (by simp [bucket_check.l0])
      | succ k1 =>
        have H := HA.out; clear HA
        simp only [bucket_check.l0] at H
        by_cases c3 : x11_1 < (l0.length : Int)
        · rw [if_pos c3] at H
          have c3b0 : decide (x11_1 < (l0.length : Int)) = true := decide_eq_true c3
          clear c3
          by_cases c4 : 0 ≤ x11_1
          · rw [if_pos c4] at H
            have c4b0 : decide (0 ≤ x11_1) = true := decide_eq_true c4
            clear c4
            by_cases c5 : x11_1 < (l0.length : Int)
            · rw [if_pos c5] at H
              have c5b0 : decide (x11_1 < (l0.length : Int)) = true := decide_eq_true c5
              clear c5
              by_cases c6 : (rd l0 x11_1) < 0
              · rw [if_pos c6] at H
                have c6b0 : decide ((rd l0 x11_1) < 0) = true := decide_eq_true c6
                clear c6
                obtain rfl := Option.some.inj H
                have p105 : 0 ≤ (x11_1 : Int) := of_decide_eq_true (by first | (with_reducible assumption) | assumption)
                have q105 : x11_1 < (l0.length : Int) := of_decide_eq_true (by first | (with_reducible assumption) | assumption)
                obtain ⟨ad105, e105, hx105_0⟩ := Kd.at_int HR0.out x11_1 p105 q105
                cases e105
                replace p105 := eq_true p105
                replace q105 := eq_true q105
                go_wp2
                go_ret
                exact ⟨by first | rfl | (simp; done) | (simp [*]; done), by repeat (first | exact Drawn0.refl _ | apply Drawn0.step)⟩
              · rw [if_neg c6] at H
                have c6b0 : decide ((rd l0 x11_1) < 0) = false := decide_eq_false c6
                clear c6
                by_cases c7 : (rd l0 x11_1) > 10000
                · rw [if_pos c7] at H
                  have c7b0 : decide (10000 < (rd l0 x11_1)) = true := decide_eq_true c7
                  clear c7
                  obtain rfl := Option.some.inj H
                  have p105 : 0 ≤ (x11_1 : Int) := of_decide_eq_true (by first | (with_reducible assumption) | assumption)
                  have q105 : x11_1 < (l0.length : Int) := of_decide_eq_true (by first | (with_reducible assumption) | assumption)
                  obtain ⟨ad105, e105, hx105_0⟩ := Kd.at_int HR0.out x11_1 p105 q105
                  cases e105
                  replace p105 := eq_true p105
                  replace q105 := eq_true q105
                  go_wp2
                  go_ret
                  exact ⟨by first | rfl | (simp; done) | (simp [*]; done), by repeat (first | exact Drawn0.refl _ | apply Drawn0.step)⟩
                · rw [if_neg c7] at H
                  have c7b0 : decide (10000 < (rd l0 x11_1)) = false := decide_eq_false c7
                  clear c7; have H' := Aside0.mk H; clear H
                  have p105 : 0 ≤ (x11_1 : Int) := of_decide_eq_true (by first | (with_reducible assumption) | assumption)
                  have q105 : x11_1 < (l0.length : Int) := of_decide_eq_true (by first | (with_reducible assumption) | assumption)
                  obtain ⟨ad105, e105, hx105_0⟩ := Kd.at_int HR0.out x11_1 p105 q105
                  cases e105
                  replace p105 := eq_true p105
                  replace q105 := eq_true q105
                  go_wp2
                  go_roundg k1
                  case measure => have := HK1.out; omega
                  case rel => exact ⟨(wrap64 (x3_1 + (rd l0 x11_1))), (wrap64 (x11_1 + 1)), (by first | rfl | (simp; done) | (simp [*]; done)), (by first | rfl | (simp; done) | (simp [*]; done)), H', ⟨by have := HK1.out; omega⟩, by repeat (first | exact Drawn0.refl _ | apply Drawn0.step)⟩
            · rw [if_neg c5] at H
              exact absurd H (by simp)
          · rw [if_neg c4] at H
            exact absurd H (by simp)
        · rw [if_neg c3] at H
          have c3b0 : decide (x11_1 < (l0.length : Int)) = false := decide_eq_false c3
          clear c3
          by_cases c8 : x3_1 = 10000
          · rw [if_pos c8] at H
            have c8b0 : (x3_1 == 10000) = true := beq_iff_eq.mpr c8
            have c8b1 : (x3_1 != 10000) = false := bne_eq_false_iff_eq.mpr c8
            clear c8
            obtain rfl := Option.some.inj H
            go_wp2
            go_ret
            exact ⟨by first | rfl | (simp; done) | (simp [*]; done), by repeat (first | exact Drawn0.refl _ | apply Drawn0.step)⟩
          · rw [if_neg c8] at H
            have c8b0 : (x3_1 == 10000) = false := beq_eq_false_iff_ne.mpr c8
            have c8b1 : (x3_1 != 10000) = true := bne_iff_ne.mpr c8
            obtain rfl := Option.some.inj H
            go_wp2
            go_ret
            exact ⟨by first | rfl | (simp; done) | (simp [*]; done), by repeat (first | exact Drawn0.refl _ | apply Drawn0.step)⟩

end Go.Proofs.YtefglphdiimhnaaDoor.Q
