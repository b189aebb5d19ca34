-- printed by wip/hp.py (the session's driver of the print, with hand-proved contracts)
import Derived.Test.YtefglphdiimhnaaDoorQ0
import Derived.Test.YtefglphdiimhnaaDoorQ6
import Derived.Test.YtefglphdiimhnaaDoorQ7
import Derived.Test.YtefglphdiimhnaaDoorQ8
namespace Go.Proofs.YtefglphdiimhnaaDoor.Q
open Go.RowKit Go.Proofs.YtefglphdiimhnaaDoorW.PrintWords Go.Proofs.YtefglphdiimhnaaDoorW.PrintLast Go.Proofs.YtefglphdiimhnaaDoorW.PrintMore
attribute [local go_sem] max2_int min2_int max_two min_two max_three min_three max_four min_four   -- for this text's walks alone
set_option linter.unusedVariables false
set_option linter.unusedSimpArgs false

/-! ### flagstonelaw13_BucketHashes: function 8 -/
mutual
def flagstonelaw13_BucketHashes.j0 : Nat → ByteArray → ByteArray → List Int → Bool → Int → Int → ByteArray → List ByteArray → Option (Bool)
  | 0, _, _, _, _, _, _, _, _ => none
  | k + 1, x0, x1, x3, x31, x197000, x197001, x197002, x197003 => if x31 = true then (some true) else ((flagstonedraw_New.f x3 10).bind fun bt198 => ((flagstonedraw_Codes_Any.f bt198.1 bt198.2).bind fun bt201 => ((some (([(⟨x197000, x197001, x197002, x197003⟩ : S49), (⟨bt201.1, bt201.2.1, bt201.2.2.1, bt201.2.2.2.1⟩ : S49)] : List (S49)) : List (S49))).bind fun y208 => (flagstonelaw13_BucketHashes.l0 k x0 x1 y208 (y208.length : Int) 0))))
def flagstonelaw13_BucketHashes.l0 : Nat → ByteArray → ByteArray → List (S49) → Int → Int → Option (Bool)
  | 0, _, _, _, _, _ => none
  | k + 1, x0, x1, x36, x37, x38 => if x38 < x37 then (if 0 ≤ x38 then (if x38 < (x36.length : Int) then ((bucket_Key.f k ((rd_T49 x36 x38).f0) ((rd_T49 x36 x38).f1) ((rd_T49 x36 x38).f2) ((rd_T49 x36 x38).f3)).bind fun bt215 => ((flagstoneref13_Key.f ((rd_T49 x36 x38).f0) ((rd_T49 x36 x38).f1) ((rd_T49 x36 x38).f2) ((rd_T49 x36 x38).f3)).bind fun bt217 => (if bt215.1.toList = bt217.1.toList then (if (bt215.2 != bt217.2) = true then (some false) else (flagstonelaw13_BucketHashes.l0 k x0 x1 x36 x37 (wrap64 (x38 + 1)))) else (some false)))) else (none)) else (none)) else ((bucket_Of.f k x0 x1).bind fun t211 => ((flagstoneref13_Of.f k x0 x1).bind fun t212 => (if t211 = t212 then (if t211 ≥ 0 then (some (decide (t211 < 10000))) else (some false)) else (some false))))
end
def flagstonelaw13_BucketHashes.f (k : Nat) (a0 : ByteArray) (a1 : ByteArray) (a2_0 : Int) (a2_1 : Int) (a2_2 : ByteArray) (l2_3 : List ByteArray) (l3 : List Int) : Option (Bool) := (flagstonelaw13_awake.f).bind fun t197 => (if t197 = true then (if (a0.size : Int) > 400 then (flagstonelaw13_BucketHashes.j0 k a0 a1 l3 true a2_0 a2_1 a2_2 l2_3) else (if (a1.size : Int) > 400 then (flagstonelaw13_BucketHashes.j0 k a0 a1 l3 true a2_0 a2_1 a2_2 l2_3) else (flagstonelaw13_BucketHashes.j0 k a0 a1 l3 (decide ((l2_3.length : Int) > 40)) a2_0 a2_1 a2_2 l2_3))) else (some false))
theorem flagstonelaw13_BucketHashes.mono_l : ∀ k, (∀ y0 y1 y2 y3 y4 y5 y6 y7, LeO (flagstonelaw13_BucketHashes.j0 k y0 y1 y2 y3 y4 y5 y6 y7) (flagstonelaw13_BucketHashes.j0 (k + 1) y0 y1 y2 y3 y4 y5 y6 y7)) ∧ (∀ y0 y1 y2 y3 y4, LeO (flagstonelaw13_BucketHashes.l0 k y0 y1 y2 y3 y4) (flagstonelaw13_BucketHashes.l0 (k + 1) y0 y1 y2 y3 y4))
  | 0 => ⟨fun _ _ _ _ _ _ _ _ r h => by simp [flagstonelaw13_BucketHashes.j0] at h, fun _ _ _ _ _ r h => by simp [flagstonelaw13_BucketHashes.l0] at h⟩
  | k + 1 => by
    obtain ⟨ih0, ih1⟩ := flagstonelaw13_BucketHashes.mono_l k
    refine ⟨?_, ?_⟩
    · intro y0 y1 y2 y3 y4 y5 y6 y7
      unfold flagstonelaw13_BucketHashes.j0
      repeat' first
      | (with_reducible exact ih0 _ _ _ _ _ _ _ _)
      | (with_reducible exact ih1 _ _ _ _ _)
      | (with_reducible exact bucket_Key.mono _ _ _ _ _)
      | (with_reducible exact bucket_Of.mono _ _ _)
      | (with_reducible exact flagstoneref13_Of.mono _ _ _)
      | (with_reducible exact LeO.refl _)
      | (with_reducible exact LeO.none _)
      | (with_reducible refine LeO.ite ?_ ?_)
      | (with_reducible refine LeO.bind ?_ (fun _ => ?_))
      | exact ih0 _ _ _ _ _ _ _ _
      | exact ih1 _ _ _ _ _
      | exact bucket_Key.mono _ _ _ _ _
      | exact bucket_Of.mono _ _ _
      | exact flagstoneref13_Of.mono _ _ _
      | exact LeO.none _
      | refine LeO.ite ?_ ?_
      | refine LeO.bind ?_ (fun _ => ?_)
    · intro y0 y1 y2 y3 y4
      unfold flagstonelaw13_BucketHashes.l0
      repeat' first
      | (with_reducible exact ih0 _ _ _ _ _ _ _ _)
      | (with_reducible exact ih1 _ _ _ _ _)
      | (with_reducible exact bucket_Key.mono _ _ _ _ _)
      | (with_reducible exact bucket_Of.mono _ _ _)
      | (with_reducible exact flagstoneref13_Of.mono _ _ _)
      | (with_reducible exact LeO.refl _)
      | (with_reducible exact LeO.none _)
      | (with_reducible refine LeO.ite ?_ ?_)
      | (with_reducible refine LeO.bind ?_ (fun _ => ?_))
      | exact ih0 _ _ _ _ _ _ _ _
      | exact ih1 _ _ _ _ _
      | exact bucket_Key.mono _ _ _ _ _
      | exact bucket_Of.mono _ _ _
      | exact flagstoneref13_Of.mono _ _ _
      | exact LeO.none _
      | refine LeO.ite ?_ ?_
      | refine LeO.bind ?_ (fun _ => ?_)
theorem flagstonelaw13_BucketHashes.mono : ∀ a0 a1 a2 a3 a4 a5 a6 k, LeO (flagstonelaw13_BucketHashes.f k a0 a1 a2 a3 a4 a5 a6) (flagstonelaw13_BucketHashes.f (k + 1) a0 a1 a2 a3 a4 a5 a6) := by
  intro a0 a1 a2 a3 a4 a5 a6 k
  obtain ⟨ih0, ih1⟩ := flagstonelaw13_BucketHashes.mono_l k
  unfold flagstonelaw13_BucketHashes.f
  repeat' first
      | (with_reducible exact ih0 _ _ _ _ _ _ _ _)
      | (with_reducible exact ih1 _ _ _ _ _)
      | (with_reducible exact bucket_Key.mono _ _ _ _ _)
      | (with_reducible exact bucket_Of.mono _ _ _)
      | (with_reducible exact flagstoneref13_Of.mono _ _ _)
      | (with_reducible exact LeO.refl _)
      | (with_reducible exact LeO.none _)
      | (with_reducible refine LeO.ite ?_ ?_)
      | (with_reducible refine LeO.bind ?_ (fun _ => ?_))
      | exact ih0 _ _ _ _ _ _ _ _
      | exact ih1 _ _ _ _ _
      | exact bucket_Key.mono _ _ _ _ _
      | exact bucket_Of.mono _ _ _
      | exact flagstoneref13_Of.mono _ _ _
      | exact LeO.none _
      | refine LeO.ite ?_ ?_
      | refine LeO.bind ?_ (fun _ => ?_)
set_option maxHeartbeats 8000000 in
set_option maxRecDepth 100000 in
theorem flagstonelaw13_BucketHashes.calls (k : Nat) (a0 : ByteArray) (a1 : ByteArray) (a2_0 : Int) (a2_1 : Int) (a2_2 : ByteArray) (P2_3_ : Nat → Prop) (A2_3 : Option Addr) (c2_3 : Nat) (l2_3 : List ByteArray) (A3 : Option Addr) (c3 : Nat) (l3 : List Int) (r : Bool) (w : World) (hs2_3 : Kd.V Kd.string 9 w w.heap.size (fun k_ => P2_3_ k_) (.slice A2_3 l2_3.length c2_3) l2_3) (hr3 : Kd.C (Kd.int .u8) w A3 l3.length l3) (hc3 : l3.length ≤ c3) (hGL : GL w) (h : flagstonelaw13_BucketHashes.f k a0 a1 a2_0 a2_1 a2_2 l2_3 l3 = some r) :
    Calls Tryd.prog 8 #[.string a0, .string a1, .agg #[.int .i64 a2_0, .int .i64 a2_1, .string a2_2, .slice A2_3 l2_3.length c2_3], .slice A3 l3.length c3] w fun e w' => e = .returned (.bool r) ∧ Below w.heap.size w w' := by
  have hu49 := Tryd.underlying49
  have HO2_3 := Aside0.mk (show Kd.V Kd.string 9 w w.heap.size (fun k_ => (P2_3_ k_ ∨ w.heap.size ≤ k_)) (.slice A2_3 l2_3.length c2_3) l2_3 from Kd.V_mono hs2_3 (fun k_ hk => .inl hk))
  have HR3 := Aside0.mk hr3
  have HC3 := Aside0.mk hc3
  clear hr3 hc3
  have HGL := Aside0.mk hGL
  clear hGL
  have HB := Aside0.mk (Below.refl w.heap.size w)
  have H : ((flagstonelaw13_awake.f).bind fun t197 => (if t197 = true then (if (a0.size : Int) > 400 then (flagstonelaw13_BucketHashes.j0 k a0 a1 l3 true a2_0 a2_1 a2_2 l2_3) else (if (a1.size : Int) > 400 then (flagstonelaw13_BucketHashes.j0 k a0 a1 l3 true a2_0 a2_1 a2_2 l2_3) else (flagstonelaw13_BucketHashes.j0 k a0 a1 l3 (decide ((l2_3.length : Int) > 40)) a2_0 a2_1 a2_2 l2_3))) else (some false))) = some r := h
  clear h
  replace H := Option.bind_eq_some_iff.mp H
  obtain ⟨t197, A50, H⟩ := H
  replace H : (if t197 = true then (if (a0.size : Int) > 400 then (flagstonelaw13_BucketHashes.j0 k a0 a1 l3 true a2_0 a2_1 a2_2 l2_3) else (if (a1.size : Int) > 400 then (flagstonelaw13_BucketHashes.j0 k a0 a1 l3 true a2_0 a2_1 a2_2 l2_3) else (flagstonelaw13_BucketHashes.j0 k a0 a1 l3 (decide ((l2_3.length : Int) > 40)) a2_0 a2_1 a2_2 l2_3))) else (some false)) = some r := H
  have A5 := Aside0.mk A50
  clear A50
  by_cases c6 : t197 = true
  · subst c6
    have H1 : (if (a0.size : Int) > 400 then (flagstonelaw13_BucketHashes.j0 k a0 a1 l3 true a2_0 a2_1 a2_2 l2_3) else (if (a1.size : Int) > 400 then (flagstonelaw13_BucketHashes.j0 k a0 a1 l3 true a2_0 a2_1 a2_2 l2_3) else (flagstonelaw13_BucketHashes.j0 k a0 a1 l3 (decide ((l2_3.length : Int) > 40)) a2_0 a2_1 a2_2 l2_3))) = some r := by rw [if_pos rfl] at H; exact H
    clear H
    have H := H1
    clear H1
    have HC7 := Aside0.mk H
    clear H
    go_enter Tryd.func8, Tryd.ntmps8
    go_upto_region 3 with (first | ((with_reducible refine gate_dst (N := 6) rfl ?_); (try (refine gate_guard (by rfl) ?_; dsimp only)); refine box_event ?hg (N := 6) ?hd (cs := #[.int .i64 a2_0, .int .i64 a2_1, .string a2_2, .slice A2_3 l2_3.length c2_3]) (t := 49) ?hr ?_; (case hd => rfl); (case hg => rfl); (case hr => first | (go_simp; done) | (go_simp; rfl)); intro gb196 hg w8 hbox hb; have n0_ := Aside0.mk (Kd.V_below (Kd.V_elderB (by (with_reducible repeat (first | apply Kd.V_alloc | apply Kd.V_drewN | apply Kd.V_drew)); exact HO2_3.out) gb196 (Nat.le_of_eq hg.symm)) hb); have n1_ := Aside0.mk (below_step (by repeat (first | (with_reducible first | exact HB.out | apply below_alloc | apply pw_below_drewN | apply below_drew1) | exact HB.out)) hb); have n2_ := Aside0.mk (hbox); have n3_ := Aside0.mk ((by rw [hg]; exact (below_size (by repeat (first | (with_reducible first | exact HB.out | apply below_alloc | apply pw_below_drewN | apply below_drew1) | exact HB.out))) : w.heap.size ≤ gb196)); have n4_ := Aside0.mk ((by rw [hg]; exact (below_size (by repeat (first | (with_reducible first | exact HB.out | apply below_alloc | apply pw_below_drewN | apply below_drew1) | exact HB.out))) : w.heap.size ≤ gb196)); clear HO2_3; clear HB; have HO2_3 := n0_; have HB := n1_; have BK196 := n2_; have GW196 := n3_; have GE196 := n4_; clear n0_ n1_ n2_ n3_ n4_; clear hb hbox hg) | ((with_reducible refine gate_callee (f := 10) rfl ?_); refine goesL_ (some 16) rfl rfl Tryd.func10 (by kernel_rfl) rfl #[] rfl (by (try simp only [List.map_toArray, List.map_cons, List.map_nil]); first | done | rfl | (simp only [List.length_drop, List.length_take]; rfl)) ?_; (with_reducible refine (flagstonelaw13_awake.calls  true _ ?side1 A5.out).mono ?_); (case side1 => exact GL.below HGL.out (by repeat (first | (with_reducible first | exact HB.out | apply below_alloc | apply pw_below_drewN | apply below_drew1 | refine below_set ?_ GE196.out) | exact HB.out))); rintro e w9 ⟨rfl, hb⟩; refine ⟨_, rfl, ?_⟩; have n0_ := Aside0.mk (Kd.V_below (by (with_reducible repeat (first | apply Kd.V_alloc | apply Kd.V_drewN | apply Kd.V_drew)); exact HO2_3.out) hb); have n1_ := Aside0.mk (blk_below (g := gb196) (o := .cells #[.int .i64 a2_0, .int .i64 a2_1, .string a2_2, .slice A2_3 l2_3.length c2_3] 49 (0, 0)) (by (with_reducible repeat (first | refine blk_drewN ?_ _ | refine blk_drew ?_ | refine blk_alloc ?_ _)); exact BK196.out) hb); have n2_ := Aside0.mk (below_step (by repeat (first | (with_reducible first | exact HB.out | apply below_alloc | apply pw_below_drewN | apply below_drew1 | refine below_set ?_ GE196.out) | exact HB.out)) hb); clear HO2_3; clear BK196; clear HB; have HO2_3 := n0_; have BK196 := n1_; have HB := n2_; clear n0_ n1_ n2_; (try clear hb); (try clear hb2); (try clear hk); (try clear hi); (try clear hge)))
    (try simp only [Act.put, List.setIfInBounds_toArray, List.set_cons_zero, List.set_cons_succ])
    go_cut [31] (fun v31 wc => ∃ (kq : Nat) (x31_6 : Bool), v31 = .bool x31_6 ∧ Aside0 (flagstonelaw13_BucketHashes.j0 kq a0 a1 l3 x31_6 a2_0 a2_1 a2_2 l2_3 = some r) ∧ Aside0 (kq ≤ k) ∧ Aside0 (Kd.V Kd.string 9 wc w.heap.size (fun k_ => (P2_3_ k_ ∨ w.heap.size ≤ k_) ∧ k_ ≠ gb196) (.slice A2_3 l2_3.length c2_3) l2_3) ∧ Aside0 (wc.heap[gb196]? = some (.cells #[.int .i64 a2_0, .int .i64 a2_1, .string a2_2, (.slice A2_3 l2_3.length c2_3)] 49 (0, 0))) ∧ Aside0 (Below w.heap.size w wc))
    case first =>
      have H := HC7.out
      clear HC7
      by_cases c10 : (a0.size : Int) > 400
      · rw [if_pos c10] at H
        have c10b0 : decide (400 < (a0.size : Int)) = true := decide_eq_true c10
        have c10b1 : decide (400 < a0.size) = true := decide_eq_true (by omega)
        clear c10
        (first | rw [c10b0] | (simp only [i64_w, i32_w]; rw [c10b0]) | skip)
        have H' := Aside0.mk H
        clear H
        go_wp2
        go_meet
        case rel => exact ⟨_, (true), (by first | rfl | (simp; done) | (simp [*]; done)), H', ⟨by first | omega | exact Nat.le_refl _⟩, ⟨by (with_reducible repeat (first | apply Kd.V_alloc | apply Kd.V_drewN | apply Kd.V_drew)); exact HO2_3.out⟩, ⟨by (with_reducible repeat (first | refine blk_drewN ?_ _ | refine blk_drew ?_ | refine blk_alloc ?_ _)); exact BK196.out⟩, ⟨by repeat (first | (with_reducible first | exact HB.out | apply below_alloc | apply pw_below_drewN | apply below_drew1 | refine below_set ?_ GE196.out) | exact HB.out)⟩⟩
      · rw [if_neg c10] at H
        have c10b0 : decide (400 < (a0.size : Int)) = false := decide_eq_false c10
        have c10b1 : decide (400 < a0.size) = false := decide_eq_false (by omega)
        clear c10
        (first | rw [c10b0] | (simp only [i64_w, i32_w]; rw [c10b0]) | skip)
        by_cases c11 : (a1.size : Int) > 400
        · rw [if_pos c11] at H
          have c11b0 : decide (400 < (a1.size : Int)) = true := decide_eq_true c11
          have c11b1 : decide (400 < a1.size) = true := decide_eq_true (by omega)
          clear c11
          have H' := Aside0.mk H
          clear H
          go_wp2
          go_meet
          case rel => exact ⟨_, (true), (by first | rfl | (simp; done) | (simp [*]; done)), H', ⟨by first | omega | exact Nat.le_refl _⟩, ⟨by (with_reducible repeat (first | apply Kd.V_alloc | apply Kd.V_drewN | apply Kd.V_drew)); exact HO2_3.out⟩, ⟨by (with_reducible repeat (first | refine blk_drewN ?_ _ | refine blk_drew ?_ | refine blk_alloc ?_ _)); exact BK196.out⟩, ⟨by repeat (first | (with_reducible first | exact HB.out | apply below_alloc | apply pw_below_drewN | apply below_drew1 | refine below_set ?_ GE196.out) | exact HB.out)⟩⟩
        · rw [if_neg c11] at H
          have c11b0 : decide (400 < (a1.size : Int)) = false := decide_eq_false c11
          have c11b1 : decide (400 < a1.size) = false := decide_eq_false (by omega)
          clear c11
          have H' := Aside0.mk H
          clear H
          have hcz12_0 : w9.cell? ⟨gb196, 0, none⟩ = some (.int .i64 a2_0) := (blk_cell BK196.out 0).trans rfl
          have hcz12_1 : w9.cell? ⟨gb196, 1, none⟩ = some (.int .i64 a2_1) := (blk_cell BK196.out 1).trans rfl
          have hcz12_2 : w9.cell? ⟨gb196, 2, none⟩ = some (.string a2_2) := (blk_cell BK196.out 2).trans rfl
          have hcz12_3 : w9.cell? ⟨gb196, 3, none⟩ = some (.slice A2_3 l2_3.length c2_3) := (blk_cell BK196.out 3).trans rfl
          have hfz12_0 := blk_frozen BK196.out 0
          have hfz12_1 := blk_frozen BK196.out 1
          have hfz12_2 := blk_frozen BK196.out 2
          have hfz12_3 := blk_frozen BK196.out 3
          go_wp2
          go_meet
          case rel => exact ⟨_, (decide ((l2_3.length : Int) > 40)), (by first | rfl | (simp; done) | (simp [*]; done)), H', ⟨by first | omega | exact Nat.le_refl _⟩, ⟨by (with_reducible repeat (first | apply Kd.V_alloc | apply Kd.V_drewN | apply Kd.V_drew)); exact HO2_3.out⟩, ⟨by (with_reducible repeat (first | refine blk_drewN ?_ _ | refine blk_drew ?_ | refine blk_alloc ?_ _)); exact BK196.out⟩, ⟨by repeat (first | (with_reducible first | exact HB.out | apply below_alloc | apply pw_below_drewN | apply below_drew1 | refine below_set ?_ GE196.out) | exact HB.out)⟩⟩
    case rest =>
      clear HC7
      try clear c1
      try clear c2
      try clear p2
      try clear c3
      try clear c6
      try clear c8
      try clear c10
      try clear c10b0
      try clear c10b1
      try clear c11
      try clear c11b0
      try clear c11b1
      try clear hcz12_0
      try clear hcz12_1
      try clear hcz12_2
      try clear hcz12_3
      try clear hfz12_0
      try clear hfz12_1
      try clear hfz12_2
      try clear hfz12_3
      obtain ⟨kq, x31_6, rfl, HA, HJ6, HO_197003, BK196, HB⟩ := hcut
      cases kq with
      | zero => exact absurd HA.out (by simp [flagstonelaw13_BucketHashes.j0])
      | succ kj6 =>
        have H := HA.out
        clear HA
        simp only [flagstonelaw13_BucketHashes.j0] at H
        by_cases c13 : x31_6 = true
        · subst c13
          have H1 : (some true) = some r := by rw [if_pos rfl] at H; exact H
          clear H
          have H := H1
          clear H1
          obtain rfl := Option.some.inj H
          go_wp2
          go_ret
          exact ⟨by first | rfl | (simp [errW_none, errW_some] <;> rfl) | (simp [*, errW_none, errW_some] <;> rfl), by repeat (first | (with_reducible first | exact HB.out | apply below_alloc | apply pw_below_drewN | apply below_drew1 | refine below_set ?_ GE196.out) | exact HB.out)⟩
        · replace c13 := Bool.eq_false_iff.mpr c13
          subst c13
          have H1 : ((flagstonedraw_New.f l3 10).bind fun bt198 => ((flagstonedraw_Codes_Any.f bt198.1 bt198.2).bind fun bt201 => ((some (([(⟨a2_0, a2_1, a2_2, l2_3⟩ : S49), (⟨bt201.1, bt201.2.1, bt201.2.2.1, bt201.2.2.2.1⟩ : S49)] : List (S49)) : List (S49))).bind fun y208 => (flagstonelaw13_BucketHashes.l0 kj6 a0 a1 y208 (y208.length : Int) 0)))) = some r := by rw [if_neg (show ¬ (false = true) by decide)] at H; exact H
          clear H
          have H := H1
          clear H1
          replace H := Option.bind_eq_some_iff.mp H
          obtain ⟨⟨t198, t199⟩, A140, H⟩ := H
          replace H : ((flagstonedraw_Codes_Any.f t198 t199).bind fun bt201 => ((some (([(⟨a2_0, a2_1, a2_2, l2_3⟩ : S49), (⟨bt201.1, bt201.2.1, bt201.2.2.1, bt201.2.2.2.1⟩ : S49)] : List (S49)) : List (S49))).bind fun y208 => (flagstonelaw13_BucketHashes.l0 kj6 a0 a1 y208 (y208.length : Int) 0))) = some r := H
          have A14 := Aside0.mk A140
          clear A140
          replace H := Option.bind_eq_some_iff.mp H
          obtain ⟨⟨t201, t202, t203, t204, t207⟩, A150, H⟩ := H
          replace H : ((some (([(⟨a2_0, a2_1, a2_2, l2_3⟩ : S49), (⟨t201, t202, t203, t204⟩ : S49)] : List (S49)) : List (S49))).bind fun y208 => (flagstonelaw13_BucketHashes.l0 kj6 a0 a1 y208 (y208.length : Int) 0)) = some r := H
          have A15 := Aside0.mk A150
          clear A150
          obtain ⟨y208, hy208⟩ : ∃ y_ : List (S49), y_ = (([(⟨a2_0, a2_1, a2_2, l2_3⟩ : S49), (⟨t201, t202, t203, t204⟩ : S49)] : List (S49))) := ⟨_, rfl⟩
          replace H : (flagstonelaw13_BucketHashes.l0 kj6 a0 a1 y208 (y208.length : Int) 0) = some r := by first | (rw [hy208]; with_reducible exact H) | (have H2_ := (Option.bind_some _ _).symm.trans H; rw [hy208]; with_reducible exact H2_) | (have H2_ := (Option.bind_some _ _).symm.trans H; with_reducible exact H2_) | with_reducible exact H | (rw [hy208]; exact H) | exact H
          have Ny208 := Aside0.mk hy208
          clear hy208
          have H' := Aside0.mk H
          clear H
          try go_wp2
          have n0_ := Aside0.mk (Kd.V_drew HO_197003.out)
          have n1_ := Aside0.mk (blk_drew BK196.out)
          have n2_ := Aside0.mk (below_drew1 HB.out)
          clear HO_197003
          clear BK196
          clear HB
          have HO_197003 := n0_
          have BK196 := n1_
          have HB := n2_
          clear n0_ n1_ n2_
          refine start_ (n := 7) (S := fun w' => w'.cell? ⟨gb196, 0, none⟩ = some (.int .i64 a2_0) ∧ w'.cell? ⟨gb196, 1, none⟩ = some (.int .i64 a2_1) ∧ w'.cell? ⟨gb196, 2, none⟩ = some (.string a2_2) ∧ w'.cell? ⟨gb196, 3, none⟩ = some (.slice A2_3 l2_3.length c2_3)) (ds := []) #[false, false, false, false, false, false, false] (by kernel_rfl) rfl rfl ⟨(blk_cell BK196.out 0).trans rfl, (blk_cell BK196.out 1).trans rfl, (blk_cell BK196.out 2).trans rfl, (blk_cell BK196.out 3).trans rfl⟩ (fun hHeld => ?_)
          generalize wc.drew = w16 at HO_197003 BK196 HB hHeld ⊢
          refine pure_ (i := 1) (N := some 33) (v := ?_) (a' := ?_) #[false, true, false, false, false, false, false] rfl rfl (by kernel_rfl) (fun _ _ _ h => h) (Or.inl ⟨by rfl, ?_⟩) ?_ ?_
          rotate_left
          · intro w'
            go_simp
            with_reducible rfl
          rotate_left
          · simp only [Act.put, List.setIfInBounds_toArray, List.set_cons_zero, List.set_cons_succ, i64_w, i32_w]
            rfl
          refine pure_ (i := 6) (N := some 38) (v := ?_) (a' := ?_) #[false, true, false, false, false, false, true] rfl rfl (by kernel_rfl) (fun _ _ _ h => h) (Or.inl ⟨by rfl, ?_⟩) ?_ ?_
          rotate_left
          · intro w'
            go_simp
            with_reducible rfl
          rotate_left
          · simp only [Act.put, List.setIfInBounds_toArray, List.set_cons_zero, List.set_cons_succ, i64_w, i32_w]
            rfl
          refine take_ (i := 0) (N := some 32) (v := ?_) (a' := ?_) #[true, true, false, false, false, false, true] rfl rfl (by kernel_rfl) (fun _ _ _ h => h) (Or.inl ⟨by rfl, ?_⟩) hHeld ?_ ?_
          rotate_left
          · rintro w' ⟨s0, s1, s2, s3⟩
            go_simp
            with_reducible rfl
          rotate_left
          · simp only [Act.put, List.setIfInBounds_toArray, List.set_cons_zero, List.set_cons_succ, i64_w, i32_w]
            rfl
          refine one_ (i := 2) (N := some 34) #[true, true, true, false, false, false, true] rfl rfl (by kernel_rfl) (by decide) (fun K hK => ?_)
          refine goes_ Tryd.func11 (by kernel_rfl) rfl #[.slice A3 l3.length c3, .int .i64 10] (by rfl) rfl rfl (by (try simp only [List.map_toArray, List.map_cons, List.map_nil]); first | done | rfl | (simp only [List.length_drop, List.length_take]; rfl)) ?_
          with_reducible refine (flagstonedraw_New.calls _ _ l3 10 t198 t199 w _ ?side1 ?side2 ?side3 A14.out).mono ?_
          (case side1 => repeat (first | (with_reducible first | exact HB.out | apply below_alloc | apply pw_below_drewN | apply below_drew1 | refine below_set ?_ GE196.out) | exact HB.out))
          (case side2 => exact HR3.out)
          (case side3 => exact HC3.out)
          rintro e w17 ⟨g200, rfl, hi, hb, hb2, hge⟩
          refine ⟨_, rfl, ?_⟩
          have n0_ := Aside0.mk (Kd.V_below (Kd.V_elderB (by (with_reducible repeat (first | apply Kd.V_alloc | apply Kd.V_drewN | apply Kd.V_drew)); exact HO_197003.out) g200 hge) hb2)
          have n1_ := Aside0.mk (blk_below (g := gb196) (o := .cells #[.int .i64 a2_0, .int .i64 a2_1, .string a2_2, .slice A2_3 l2_3.length c2_3] 49 (0, 0)) (by (with_reducible repeat (first | refine blk_drewN ?_ _ | refine blk_drew ?_ | refine blk_alloc ?_ _)); exact BK196.out) hb2)
          have n2_ := Aside0.mk (hb)
          have n3_ := Aside0.mk (hi)
          have n4_ := Aside0.mk (IsS71.ne_blk hi (blk_below (g := gb196) (o := .cells #[.int .i64 a2_0, .int .i64 a2_1, .string a2_2, .slice A2_3 l2_3.length c2_3] 49 (0, 0)) (by (with_reducible repeat (first | refine blk_drewN ?_ _ | refine blk_drew ?_ | refine blk_alloc ?_ _)); exact BK196.out) hb2) (by decide))
          have n5_ := Aside0.mk (Ne.symm (IsS71.ne_blk hi (blk_below (g := gb196) (o := .cells #[.int .i64 a2_0, .int .i64 a2_1, .string a2_2, .slice A2_3 l2_3.length c2_3] 49 (0, 0)) (by (with_reducible repeat (first | refine blk_drewN ?_ _ | refine blk_drew ?_ | refine blk_alloc ?_ _)); exact BK196.out) hb2) (by decide)))
          clear HO_197003
          clear BK196
          clear HB
          have HO_197003 := n0_
          have BK196 := n1_
          have HB := n2_
          have HI200 := n3_
          have NB200_196 := n4_
          have NB196_200 := n5_
          clear n0_ n1_ n2_ n3_ n4_ n5_
          (try clear hb)
          (try clear hb2)
          (try clear hk)
          (try clear hi)
          (try clear hge)
          refine hK.out _ _ ⟨(blk_cell BK196.out 0).trans rfl, (blk_cell BK196.out 1).trans rfl, (blk_cell BK196.out 2).trans rfl, (blk_cell BK196.out 3).trans rfl⟩ (fun hHeld => ?_)
          clear hK K
          refine norm_ (a' := ?_) ?_ ?_
          rotate_left
          · show Act.put _ (some 34) _ = _
            simp only [Act.put, List.setIfInBounds_toArray, List.set_cons_zero, List.set_cons_succ, i64_w, i32_w]
            rfl
          refine one_ (i := 3) (N := some 35) #[true, true, true, true, false, false, true] rfl rfl (by kernel_rfl) (by decide) (fun K hK => ?_)
          refine goes_ Tryd.func27 (by kernel_rfl) rfl #[.pointer (some ⟨g200, 0, none⟩)] (by rfl) rfl rfl (by (try simp only [List.map_toArray, List.map_cons, List.map_nil]); first | done | rfl | (simp only [List.length_drop, List.length_take]; rfl)) ?_
          with_reducible refine (flagstonedraw_Codes_Any.calls g200 t198 t199 t201 t202 t203 t204 t207 w _ ?side1 ?side2 ?side3 A15.out).mono ?_
          (case side1 => repeat (first | (with_reducible first | exact HI200.out | apply IsS71.alloc | apply IsS71.drewN | apply IsS71.drew | apply IsS71.set_1 | refine IsS71.far ?_ NB200_196.out _) | exact HI200.out))
          (case side2 => repeat (first | (with_reducible first | exact HB.out | apply below_alloc | apply pw_below_drewN | apply below_drew1 | refine below_set ?_ (IsS71.ge HI200.out) | refine below_set ?_ GE196.out) | exact HB.out))
          (case side3 => exact HGL.out)
          rintro e w18 ⟨v205, rfl, ho0, hi, hb, hk⟩
          refine ⟨_, rfl, ?_⟩
          have n0_ := Aside0.mk (Kd.V_mono (Kd.V_told (Kd.V_oldK (Kd.V_mono (ok := fun k_ => ((((P2_3_ k_ ∨ w.heap.size ≤ k_)) ∧ k_ ≠ gb196) ∧ k_ ≠ g200)) (by (with_reducible repeat (first | apply Kd.V_alloc | apply Kd.V_drewN | apply Kd.V_drew)); exact HO_197003.out) (fun k_ hk_ => (⟨hk_, hk_.2⟩ : _ ∧ k_ ≠ g200))) hk) (Kd.R_base ho0)) (fun _ h_ => h_.1))
          have n1_ := Aside0.mk (KeepBut.blk hk (g' := gb196) (o := .cells #[.int .i64 a2_0, .int .i64 a2_1, .string a2_2, .slice A2_3 l2_3.length c2_3] 49 (0, 0)) (by (with_reducible repeat (first | refine blk_drewN ?_ _ | refine blk_drew ?_ | refine blk_alloc ?_ _)); exact BK196.out) NB196_200.out (by simp))
          have n2_ := Aside0.mk (Kd.R_lower (Kd.R_newM (M := fun k_ => (w.heap.size ≤ k_)) ho0 (below_size (by repeat (first | (with_reducible first | exact HB.out | apply below_alloc | apply pw_below_drewN | apply below_drew1 | refine below_set ?_ (IsS71.ge HI200.out) | refine below_set ?_ GE196.out) | exact HB.out))) (fun k_ h_ => h_)) (below_size (by repeat (first | (with_reducible first | exact HB.out | apply below_alloc | apply pw_below_drewN | apply below_drew1 | refine below_set ?_ (IsS71.ge HI200.out) | refine below_set ?_ GE196.out) | exact HB.out))))
          have n3_ := Aside0.mk (hb)
          have n4_ := Aside0.mk (hi)
          clear HO_197003
          clear BK196
          clear HB
          clear HI200
          have HO_197003 := n0_
          have BK196 := n1_
          have HO206 := n2_
          have HB := n3_
          have HI200 := n4_
          clear n0_ n1_ n2_ n3_ n4_
          (try clear hb)
          (try clear hb2)
          (try clear hk)
          (try clear hi)
          (try clear hge)
          (try clear ho0)
          obtain ⟨Ao19, co19, eo19⟩ := Kd.R_slice HO206.out
          (first | subst eo19 | (injection eo19 with f1_ f2_ f3_; have f4_ := f1_.symm; have f5_ := f3_.symm; clear f1_ f2_ f3_; subst f4_; subst f5_))
          refine hK.out _ _ ⟨(blk_cell BK196.out 0).trans rfl, (blk_cell BK196.out 1).trans rfl, (blk_cell BK196.out 2).trans rfl, (blk_cell BK196.out 3).trans rfl⟩ (fun hHeld => ?_)
          clear hK K
          refine norm_ (a' := ?_) ?_ ?_
          rotate_left
          · show Act.put _ (some 35) _ = _
            simp only [Act.put, List.setIfInBounds_toArray, List.set_cons_zero, List.set_cons_succ, i64_w, i32_w]
            rfl
          refine one_ (i := 4) (N := some 36) #[true, true, true, true, true, false, true] rfl rfl (by kernel_rfl) (by decide) (fun K hK => ?_)
          refine Kd.N_lit_step k49 _ 49 ?hg (N' := 36) ?hd (xs := ([(⟨a2_0, a2_1, a2_2, l2_3⟩ : S49), (⟨t201, t202, t203, t204⟩ : S49)] : List (S49))) (inner := [.int .i64 a2_0, .int .i64 a2_1, .string a2_2, .slice A2_3 l2_3.length c2_3, .int .i64 t201, .int .i64 t202, .string t203, .slice Ao19 t204.length co19]) (ok := (fun k_ => (P2_3_ k_ ∨ w.heap.size ≤ k_) ∧ k_ ≠ gb196 ∧ k_ ≠ g200)) (okp := (fun k_ => (P2_3_ k_ ∨ w.heap.size ≤ k_) ∧ k_ ≠ gb196 ∧ k_ ≠ g200)) ?hr ?hp (fun _ hk => hk) ((show ∀ k_, w18.heap.size ≤ k_ → (fun k_ => (P2_3_ k_ ∨ w.heap.size ≤ k_) ∧ k_ ≠ gb196 ∧ k_ ≠ g200) k_ from fun k_ hk => ⟨(.inr (Nat.le_trans (below_size (by repeat (first | (with_reducible first | exact HB.out | apply below_alloc | apply pw_below_drewN | apply below_drew1 | refine below_set ?_ (IsS71.ge HI200.out) | refine below_set ?_ GE196.out) | exact HB.out))) hk)), Kd.freshB (g := gb196) (o := .cells #[.int .i64 a2_0, .int .i64 a2_1, .string a2_2, .slice A2_3 l2_3.length c2_3] 49 (0, 0)) (by (with_reducible repeat (first | refine blk_drewN ?_ _ | refine blk_drew ?_ | refine blk_alloc ?_ _)); exact BK196.out) k_ hk, IsS71.fresh (by repeat (first | (with_reducible first | exact HI200.out | apply IsS71.alloc | apply IsS71.drewN | apply IsS71.drew | apply IsS71.set_1 | refine IsS71.far ?_ NB200_196.out _) | exact HI200.out)) k_ hk⟩) _ (Nat.le_refl _)) (Below.refl _ _) (Nat.le_refl _) (by simp) ?_; (case hd => rfl); (case hg => rfl); (case hr => first | (go_simp; done) | (go_simp; rfl)); (case hp => exact (Reps.c4 (show Kd.FK k49 _ _ (⟨a2_0, a2_1, a2_2, l2_3⟩ : S49) [.int .i64 a2_0, .int .i64 a2_1, .string a2_2, .slice A2_3 l2_3.length c2_3] from (k49_mkF _ _ (⟨a2_0, a2_1, a2_2, l2_3⟩ : S49) (Kd.V_reads' (Kd.V_mono (ok' := (fun k_ => (P2_3_ k_ ∨ w.heap.size ≤ k_) ∧ k_ ≠ gb196 ∧ k_ ≠ g200)) (HO_197003.out) (fun k_ hk => ⟨hk.1.1.1, ⟨hk.1.1.2, hk.1.2⟩⟩))).2.1 (Kd.V_F (Kd.V_mono (ok' := (fun k_ => (P2_3_ k_ ∨ w.heap.size ≤ k_) ∧ k_ ≠ gb196 ∧ k_ ≠ g200)) (HO_197003.out) (fun k_ hk => ⟨hk.1.1.1, ⟨hk.1.1.2, hk.1.2⟩⟩))))) (Reps.c4 (show Kd.FK k49 _ _ (⟨t201, t202, t203, t204⟩ : S49) [.int .i64 t201, .int .i64 t202, .string t203, .slice Ao19 t204.length co19] from (k49_mkF _ _ (⟨t201, t202, t203, t204⟩ : S49) (Kd.R_reads' (Kd.R_mono (ok' := (fun k_ => (P2_3_ k_ ∨ w.heap.size ≤ k_) ∧ k_ ≠ gb196 ∧ k_ ≠ g200)) (IsS71.apart HI200.out (Kd.R_types (HO206.out) BK196.out (by decide)) (by decide)) (fun k_ hk => ⟨(.inr (hk.1.1.1)), ⟨hk.1.2, hk.2⟩⟩))).2.1 (Kd.R_F (Kd.R_mono (ok' := (fun k_ => (P2_3_ k_ ∨ w.heap.size ≤ k_) ∧ k_ ≠ gb196 ∧ k_ ≠ g200)) (IsS71.apart HI200.out (Kd.R_types (HO206.out) BK196.out (by decide)) (by decide)) (fun k_ hk => ⟨(.inr (hk.1.1.1)), ⟨hk.1.2, hk.2⟩⟩))))) (Reps.none _ _))))
          intro v209 w20 ho21 hb hg_ hnew_
          clear hg_ hnew_
          (first | rw [← Ny208.out] at ho21 | (simp only [Int.reduceToNat] at ho21; rw [← Ny208.out] at ho21))
          have n0_ := Aside0.mk (Kd.V_elder' (by (with_reducible repeat (first | apply Kd.V_alloc | apply Kd.V_drewN | apply Kd.V_drew)); exact HO_197003.out) (Kd.N_base ho21) hb)
          have n1_ := Aside0.mk (Kd.N_lower ho21 (below_size (by repeat (first | (with_reducible first | exact HB.out | apply below_alloc | apply pw_below_drewN | apply below_drew1 | refine below_set ?_ (IsS71.ge HI200.out) | refine below_set ?_ GE196.out) | exact HB.out))))
          have n2_ := Aside0.mk (blk_below (g := gb196) (o := .cells #[.int .i64 a2_0, .int .i64 a2_1, .string a2_2, .slice A2_3 l2_3.length c2_3] 49 (0, 0)) (by (with_reducible repeat (first | refine blk_drewN ?_ _ | refine blk_drew ?_ | refine blk_alloc ?_ _)); exact BK196.out) hb)
          have n3_ := Aside0.mk (IsS71.below (by repeat (first | (with_reducible first | exact HI200.out | apply IsS71.alloc | apply IsS71.drewN | apply IsS71.drew | apply IsS71.set_1 | refine IsS71.far ?_ NB200_196.out _) | exact HI200.out)) hb)
          have n4_ := Aside0.mk (below_step (by repeat (first | (with_reducible first | exact HB.out | apply below_alloc | apply pw_below_drewN | apply below_drew1 | refine below_set ?_ (IsS71.ge HI200.out) | refine below_set ?_ GE196.out) | exact HB.out)) hb)
          clear HO_197003
          clear BK196
          clear HI200
          clear HB
          clear HO206
          have HO_197003 := n0_
          have HO210 := n1_
          have BK196 := n2_
          have HI200 := n3_
          have HB := n4_
          clear n0_ n1_ n2_ n3_ n4_
          clear hb ho21
          obtain ⟨Ao22, co22, eo22⟩ := Kd.N_slice HO210.out
          (first | subst eo22 | (injection eo22 with f1_ f2_ f3_; have f4_ := f1_.symm; have f5_ := f3_.symm; clear f1_ f2_ f3_; subst f4_; subst f5_))
          refine hK.out _ _ ⟨(blk_cell BK196.out 0).trans rfl, (blk_cell BK196.out 1).trans rfl, (blk_cell BK196.out 2).trans rfl, (blk_cell BK196.out 3).trans rfl⟩ (fun hHeld => ?_)
          clear hK K
          refine norm_ (a' := ?_) ?_ ?_
          rotate_left
          · show Act.put _ (some 36) _ = _
            simp only [Act.put, List.setIfInBounds_toArray, List.set_cons_zero, List.set_cons_succ, i64_w, i32_w]
            rfl
          refine pure_ (i := 5) (N := some 37) (v := ?_) (a' := ?_) #[true, true, true, true, true, true, true] rfl rfl (by kernel_rfl) (fun _ _ _ h => h) (Or.inl ⟨by rfl, ?_⟩) ?_ ?_
          rotate_left
          · intro w'
            go_simp
            with_reducible rfl
          rotate_left
          · simp only [Act.put, List.setIfInBounds_toArray, List.set_cons_zero, List.set_cons_succ, i64_w, i32_w]
            rfl
          refine done_ (by kernel_rfl) ?_
          try go_wp2
          go_loopg [38] kj6 (fun kq v38 w' => ∃ (x38_2 : Int), v38 = .int .i64 x38_2 ∧ Aside0 (flagstonelaw13_BucketHashes.l0 kq a0 a1 y208 (y208.length : Int) x38_2 = some r) ∧ Aside0 (kq ≤ kj6) ∧ Aside0 (Kd.N k49 49 w' w.heap.size (fun k_ => (P2_3_ k_ ∨ w.heap.size ≤ k_) ∧ k_ ≠ gb196) (.slice Ao22 y208.length co22) y208) ∧ Aside0 (Kd.V Kd.string 9 w' w.heap.size (fun k_ => (P2_3_ k_ ∨ w.heap.size ≤ k_) ∧ some k_ ≠ ((.slice Ao22 y208.length co22) : Value).ownBlock ∧ k_ ≠ gb196) (.slice A2_3 l2_3.length c2_3) l2_3) ∧ Aside0 (w'.heap[gb196]? = some (.cells #[.int .i64 a2_0, .int .i64 a2_1, .string a2_2, (.slice A2_3 l2_3.length c2_3)] 49 (0, 0))) ∧ Aside0 (Below w.heap.size w w'))
          case atStart => exact ⟨(0), (by first | rfl | (simp; done) | (simp [*]; done)), H', ⟨Nat.le_refl _⟩, ⟨by (with_reducible repeat (first | apply Kd.N_alloc | apply Kd.N_drewN | apply Kd.N_drew)); exact Kd.N_mono HO210.out (fun _ hk => ⟨hk.1, hk.2.1⟩)⟩, ⟨by (with_reducible repeat (first | apply Kd.V_alloc | apply Kd.V_drewN | apply Kd.V_drew)); exact Kd.V_mono HO_197003.out (fun _ hk => ⟨hk.1.1.1.1, ⟨hk.2, hk.1.1.1.2⟩⟩)⟩, ⟨by (with_reducible repeat (first | refine blk_drewN ?_ _ | refine blk_drew ?_ | refine blk_alloc ?_ _)); exact BK196.out⟩, ⟨by repeat (first | (with_reducible first | exact HB.out | apply below_alloc | apply pw_below_drewN | apply below_drew1 | refine below_set ?_ (IsS71.ge HI200.out) | refine below_set ?_ GE196.out) | exact HB.out)⟩⟩
          case round =>
            clear H'
            try clear c1
            try clear c2
            try clear p2
            try clear c3
            try clear c4
            try clear c6
            try clear c8
            try clear c10
            try clear c10b0
            try clear c10b1
            try clear c11
            try clear c11b0
            try clear c11b1
            try clear c13
            try clear hcz12_0
            try clear hcz12_1
            try clear hcz12_2
            try clear hcz12_3
            try clear hfz12_0
            try clear hfz12_1
            try clear hfz12_2
            try clear hfz12_3
            try clear p2
            obtain ⟨x38_2, rfl, HA, HK2, HO_36, HO_197003, BK196, HB⟩ := hrel
            cases gk with
            | zero => exact absurd HA.out (by simp [flagstonelaw13_BucketHashes.l0])
            | succ k2 =>
              have H := HA.out
              clear HA
              simp only [flagstonelaw13_BucketHashes.l0] at H
              by_cases c23 : x38_2 < (y208.length : Int)
              · rw [if_pos c23] at H
                have c23b0 : decide (x38_2 < (y208.length : Int)) = true := decide_eq_true c23
                clear c23
                by_cases c24 : 0 ≤ x38_2
                · rw [if_pos c24] at H
                  have c24b0 : decide (0 ≤ x38_2) = true := decide_eq_true c24
                  clear c24
                  by_cases c25 : x38_2 < (y208.length : Int)
                  · rw [if_pos c25] at H
                    have c25b0 : decide (x38_2 < (y208.length : Int)) = true := decide_eq_true c25
                    clear c25
                    replace H := Option.bind_eq_some_iff.mp H
                    obtain ⟨⟨t215, t216⟩, A260, H⟩ := H
                    replace H : ((flagstoneref13_Key.f ((rd_T49 y208 x38_2).f0) ((rd_T49 y208 x38_2).f1) ((rd_T49 y208 x38_2).f2) ((rd_T49 y208 x38_2).f3)).bind fun bt217 => (if t215.toList = bt217.1.toList then (if (t216 != bt217.2) = true then (some false) else (flagstonelaw13_BucketHashes.l0 k2 a0 a1 y208 (y208.length : Int) (wrap64 (x38_2 + 1)))) else (some false))) = some r := H
                    have A26 := Aside0.mk A260
                    clear A260
                    replace H := Option.bind_eq_some_iff.mp H
                    obtain ⟨⟨t217, t218⟩, A270, H⟩ := H
                    replace H : (if t215.toList = t217.toList then (if (t216 != t218) = true then (some false) else (flagstonelaw13_BucketHashes.l0 k2 a0 a1 y208 (y208.length : Int) (wrap64 (x38_2 + 1)))) else (some false)) = some r := H
                    have A27 := Aside0.mk A270
                    clear A270
                    by_cases c28 : t215.toList = t217.toList
                    · rw [if_pos c28] at H
                      have c28b0 : (t215.toList == t217.toList) = true := beq_iff_eq.mpr c28
                      have c28b1 : (t215.toList != t217.toList) = false := bne_eq_false_iff_eq.mpr c28
                      clear c28
                      by_cases c29 : (t216 != t218) = true
                      · rw [if_pos c29] at H
                        have c29b0 : (t216 != t218) = true := c29
                        (try (have c29b1 : decide (t216 = t218) = false := by simpa using c29))
                        (try (have c29b2 : (t216 == t218) = false := by simpa using c29))
                        (try (have c29b3 : ¬ (t216 = t218) := by simpa using c29))
                        clear c29
                        obtain rfl := Option.some.inj H
                        have p213 : 0 ≤ (x38_2 : Int) := of_decide_eq_true (by first | (with_reducible assumption) | assumption)
                        have q213 : x38_2 < (y208.length : Int) := of_decide_eq_true (by first | (with_reducible assumption) | assumption)
                        obtain ⟨ad213, A213_3, c213_3, e213, hx213_0, hx213_1, hx213_2, hx213_3, hl213_3, hi213_3⟩ := at_T49 (Kd.N_reads' HO_36.out).2.2 x38_2 p213 q213
                        cases e213
                        obtain ⟨ce213, hce213, hMe213, hcc213⟩ := Kd.N_get HO_36.out z49 x38_2 p213 (by first | exact q213 | exact of_decide_eq_true (by first | (with_reducible assumption) | assumption) | (have e_ := (Kd.N_reads' HO_36.out).1; omega))
                        obtain ⟨ua213_3, uc213_3, rfl, ul213_3, ge213_3⟩ := k49_openF hMe213
                        have hv213_3 := hcc213 3 _ rfl
                        rw [add_field _ _ 3 (by omega)] at hv213_3
                        replace hv213_3 := Option.some.inj (hv213_3.symm.trans hx213_3)
                        injection hv213_3 with hva_ hvn_ hvc_
                        rw [hva_] at ge213_3
                        rw [hvc_] at ul213_3
                        have HL213_3 := Aside0.mk (show Kd.V Kd.string 9 _ w.heap.size _ _ ((rd_T49 y208 x38_2).f3) from Kd.V_mk ul213_3 ge213_3)
                        clear hva_ hvn_ hvc_ ge213_3 ul213_3
                        clear hcc213 hce213
                        have HR213_3 := Aside0.mk hi213_3
                        have HC213_3 := Aside0.mk hl213_3
                        clear hi213_3 hl213_3
                        replace p213 := eq_true p213
                        replace q213 := eq_true q213
                        go_wp2_with (first | ((with_reducible refine gate_dst (N := 10) rfl ?_); (try (refine gate_guard (by rfl) ?_; dsimp only)); refine box_event ?hg (N := 10) ?hd (cs := #[.int .i64 0, .int .i64 0, .string (⟨#[]⟩ : ByteArray), .slice none 0 0]) (t := 49) ?hr ?_; (case hd => rfl); (case hg => rfl); (case hr => first | (go_simp; done) | (go_simp; rfl)); intro gb214 hg w30 hbox hb; have n0_ := Aside0.mk (Kd.N_below (Kd.N_elderB (by (with_reducible repeat (first | apply Kd.N_alloc | apply Kd.N_drewN | apply Kd.N_drew)); exact HO_36.out) gb214 (Nat.le_of_eq hg.symm)) hb); have n1_ := Aside0.mk (Kd.V_below (Kd.V_elderB (by (with_reducible repeat (first | apply Kd.V_alloc | apply Kd.V_drewN | apply Kd.V_drew)); exact HO_197003.out) gb214 (Nat.le_of_eq hg.symm)) hb); have n2_ := Aside0.mk (Kd.V_below (Kd.V_elderB (by (with_reducible repeat (first | apply Kd.V_alloc | apply Kd.V_drewN | apply Kd.V_drew)); exact HL213_3.out) gb214 (Nat.le_of_eq hg.symm)) hb); have n3_ := Aside0.mk (blk_below (g := gb196) (o := .cells #[.int .i64 a2_0, .int .i64 a2_1, .string a2_2, .slice A2_3 l2_3.length c2_3] 49 (0, 0)) (by (with_reducible repeat (first | refine blk_drewN ?_ _ | refine blk_drew ?_ | refine blk_alloc ?_ _)); exact BK196.out) hb); have n4_ := Aside0.mk (Kd.C_below (by repeat (first | (with_reducible exact HR213_3.out) | (with_reducible refine Kd.C_alloc ?_ _) | (with_reducible refine Kd.C_drewN ?_ _) | (with_reducible refine Kd.C_drew ?_) | exact HR213_3.out)) hb); have n5_ := Aside0.mk (below_step (by repeat (first | (with_reducible first | exact HB.out | apply below_alloc | apply pw_below_drewN | apply below_drew1 | refine below_set ?_ GE196.out) | exact HB.out)) hb); have n6_ := Aside0.mk (hbox); have n7_ := Aside0.mk ((by rw [hg]; exact (below_size (by repeat (first | (with_reducible first | exact HB.out | apply below_alloc | apply pw_below_drewN | apply below_drew1 | refine below_set ?_ GE196.out) | exact HB.out))) : w.heap.size ≤ gb214)); have n8_ := Aside0.mk ((by rw [hg]; exact (below_size (by repeat (first | (with_reducible first | exact HB.out | apply below_alloc | apply pw_below_drewN | apply below_drew1 | refine below_set ?_ GE196.out) | exact HB.out))) : w.heap.size ≤ gb214)); have n9_ := Aside0.mk ((by rw [hg]; exact Nat.ne_of_lt (blk_lt (g := gb196) (o := .cells #[.int .i64 a2_0, .int .i64 a2_1, .string a2_2, .slice A2_3 l2_3.length c2_3] 49 (0, 0)) (by (with_reducible repeat (first | refine blk_drewN ?_ _ | refine blk_drew ?_ | refine blk_alloc ?_ _)); exact BK196.out)) : gb196 ≠ gb214)); have n10_ := Aside0.mk ((by rw [hg]; exact Nat.ne_of_gt (blk_lt (g := gb196) (o := .cells #[.int .i64 a2_0, .int .i64 a2_1, .string a2_2, .slice A2_3 l2_3.length c2_3] 49 (0, 0)) (by (with_reducible repeat (first | refine blk_drewN ?_ _ | refine blk_drew ?_ | refine blk_alloc ?_ _)); exact BK196.out)) : gb214 ≠ gb196)); clear HO_36; clear HO_197003; clear HL213_3; clear BK196; clear HR213_3; clear HB; have HO_36 := n0_; have HO_197003 := n1_; have HL213_3 := n2_; have BK196 := n3_; have HR213_3 := n4_; have HB := n5_; have BK214 := n6_; have GW214 := n7_; have GE214 := n8_; have NB196_214 := n9_; have NB214_196 := n10_; clear n0_ n1_ n2_ n3_ n4_ n5_ n6_ n7_ n8_ n9_ n10_; clear hb hbox hg; have hnb31 := NB214_196.out; have hnc31 := NB196_214.out; have hcz32_0 : w30.cell? ⟨gb214, 0, none⟩ = some (.int .i64 0) := (blk_cell BK214.out 0).trans rfl; have hcz32_1 : w30.cell? ⟨gb214, 1, none⟩ = some (.int .i64 0) := (blk_cell BK214.out 1).trans rfl; have hcz32_2 : w30.cell? ⟨gb214, 2, none⟩ = some (.string (⟨#[]⟩ : ByteArray)) := (blk_cell BK214.out 2).trans rfl; have hcz32_3 : w30.cell? ⟨gb214, 3, none⟩ = some (.slice none 0 0) := (blk_cell BK214.out 3).trans rfl; have hfz32_0 := blk_frozen BK214.out 0; have hfz32_1 := blk_frozen BK214.out 1; have hfz32_2 := blk_frozen BK214.out 2; have hfz32_3 := blk_frozen BK214.out 3) | ((with_reducible refine gate_callee (f := 28) rfl ?_); refine goesL_ (some 44) rfl rfl Tryd.func28 (by kernel_rfl) rfl #[.agg #[.int .i64 ((rd_T49 y208 x38_2).f0), .int .i64 ((rd_T49 y208 x38_2).f1), .string ((rd_T49 y208 x38_2).f2), .slice A213_3 ((rd_T49 y208 x38_2).f3).length c213_3]] rfl (by (try simp only [List.map_toArray, List.map_cons, List.map_nil]); first | done | rfl | (simp only [List.length_drop, List.length_take]; rfl)) ?_; (with_reducible refine (bucket_Key.calls k2 ((rd_T49 y208 x38_2).f0) ((rd_T49 y208 x38_2).f1) ((rd_T49 y208 x38_2).f2) _ _ ((rd_T49 y208 x38_2).f3) t215 t216 _ ?side1 ?side2 ?side3 A26.out).mono ?_); (case side1 => repeat (first | exact ((Kd.V_reads' (by (with_reducible repeat (first | apply Kd.V_alloc | apply Kd.V_drewN | apply Kd.V_drew)); exact (Kd.V_mono (Kd.V_far (p := ⟨gb214, 3, none⟩) (Kd.V_far (p := ⟨gb214, 2, none⟩) (Kd.V_far (p := ⟨gb214, 1, none⟩) (Kd.V_far (p := ⟨gb214, 0, none⟩) (Kd.V_mono HL213_3.out (fun k_ hk => (⟨hk, hk.2⟩ : _ ∧ k_ ≠ gb214))) (fun _ hk => hk.2) (.int .i64 ((rd_T49 y208 x38_2).f0))) (fun _ hk => hk.2) (.int .i64 ((rd_T49 y208 x38_2).f1))) (fun _ hk => hk.2) (.string ((rd_T49 y208 x38_2).f2))) (fun _ hk => hk.2) (.slice A213_3 ((rd_T49 y208 x38_2).f3).length c213_3)) (fun _ h_ => h_.1)))).2.2) | (with_reducible refine Kd.C_alloc ?_ _) | (with_reducible refine Kd.C_drewN ?_ _) | (with_reducible refine Kd.C_drew ?_))); (case side2 => exact HC213_3.out); (case side3 => exact GL.below HGL.out (by repeat (first | (with_reducible first | exact HB.out | apply below_alloc | apply pw_below_drewN | apply below_drew1 | refine below_set ?_ GE196.out | refine below_set ?_ GE214.out) | exact HB.out))); rintro e w33 ⟨rfl, hb⟩; refine ⟨_, rfl, ?_⟩; have n0_ := Aside0.mk (Kd.N_below (by (with_reducible repeat (first | apply Kd.N_alloc | apply Kd.N_drewN | apply Kd.N_drew)); exact (Kd.N_mono (Kd.N_far (p := ⟨gb214, 3, none⟩) (Kd.N_far (p := ⟨gb214, 2, none⟩) (Kd.N_far (p := ⟨gb214, 1, none⟩) (Kd.N_far (p := ⟨gb214, 0, none⟩) (Kd.N_mono HO_36.out (fun k_ hk => (⟨hk, hk.2⟩ : _ ∧ k_ ≠ gb214))) (fun _ hk => hk.2) (.int .i64 ((rd_T49 y208 x38_2).f0))) (fun _ hk => hk.2) (.int .i64 ((rd_T49 y208 x38_2).f1))) (fun _ hk => hk.2) (.string ((rd_T49 y208 x38_2).f2))) (fun _ hk => hk.2) (.slice A213_3 ((rd_T49 y208 x38_2).f3).length c213_3)) (fun _ h_ => h_.1))) hb); have n1_ := Aside0.mk (Kd.V_below (by (with_reducible repeat (first | apply Kd.V_alloc | apply Kd.V_drewN | apply Kd.V_drew)); exact (Kd.V_mono (Kd.V_far (p := ⟨gb214, 3, none⟩) (Kd.V_far (p := ⟨gb214, 2, none⟩) (Kd.V_far (p := ⟨gb214, 1, none⟩) (Kd.V_far (p := ⟨gb214, 0, none⟩) (Kd.V_mono HO_197003.out (fun k_ hk => (⟨hk, hk.2⟩ : _ ∧ k_ ≠ gb214))) (fun _ hk => hk.2) (.int .i64 ((rd_T49 y208 x38_2).f0))) (fun _ hk => hk.2) (.int .i64 ((rd_T49 y208 x38_2).f1))) (fun _ hk => hk.2) (.string ((rd_T49 y208 x38_2).f2))) (fun _ hk => hk.2) (.slice A213_3 ((rd_T49 y208 x38_2).f3).length c213_3)) (fun _ h_ => h_.1))) hb); have n2_ := Aside0.mk (Kd.V_below (by (with_reducible repeat (first | apply Kd.V_alloc | apply Kd.V_drewN | apply Kd.V_drew)); exact (Kd.V_mono (Kd.V_far (p := ⟨gb214, 3, none⟩) (Kd.V_far (p := ⟨gb214, 2, none⟩) (Kd.V_far (p := ⟨gb214, 1, none⟩) (Kd.V_far (p := ⟨gb214, 0, none⟩) (Kd.V_mono HL213_3.out (fun k_ hk => (⟨hk, hk.2⟩ : _ ∧ k_ ≠ gb214))) (fun _ hk => hk.2) (.int .i64 ((rd_T49 y208 x38_2).f0))) (fun _ hk => hk.2) (.int .i64 ((rd_T49 y208 x38_2).f1))) (fun _ hk => hk.2) (.string ((rd_T49 y208 x38_2).f2))) (fun _ hk => hk.2) (.slice A213_3 ((rd_T49 y208 x38_2).f3).length c213_3)) (fun _ h_ => h_.1))) hb); have n3_ := Aside0.mk (blk_below (g := gb196) (o := .cells #[.int .i64 a2_0, .int .i64 a2_1, .string a2_2, .slice A2_3 l2_3.length c2_3] 49 (0, 0)) (by (with_reducible repeat (first | refine blk_drewN ?_ _ | refine blk_drew ?_ | refine blk_alloc ?_ _)); refine blk_far ?_ NB196_214.out _; (with_reducible repeat (first | refine blk_drewN ?_ _ | refine blk_drew ?_ | refine blk_alloc ?_ _)); refine blk_far ?_ NB196_214.out _; (with_reducible repeat (first | refine blk_drewN ?_ _ | refine blk_drew ?_ | refine blk_alloc ?_ _)); refine blk_far ?_ NB196_214.out _; (with_reducible repeat (first | refine blk_drewN ?_ _ | refine blk_drew ?_ | refine blk_alloc ?_ _)); refine blk_far ?_ NB196_214.out _; (with_reducible repeat (first | refine blk_drewN ?_ _ | refine blk_drew ?_ | refine blk_alloc ?_ _)); exact BK196.out) hb); have n4_ := Aside0.mk (Kd.C_below ((Kd.V_reads' (by (with_reducible repeat (first | apply Kd.V_alloc | apply Kd.V_drewN | apply Kd.V_drew)); exact (Kd.V_mono (Kd.V_far (p := ⟨gb214, 3, none⟩) (Kd.V_far (p := ⟨gb214, 2, none⟩) (Kd.V_far (p := ⟨gb214, 1, none⟩) (Kd.V_far (p := ⟨gb214, 0, none⟩) (Kd.V_mono HL213_3.out (fun k_ hk => (⟨hk, hk.2⟩ : _ ∧ k_ ≠ gb214))) (fun _ hk => hk.2) (.int .i64 ((rd_T49 y208 x38_2).f0))) (fun _ hk => hk.2) (.int .i64 ((rd_T49 y208 x38_2).f1))) (fun _ hk => hk.2) (.string ((rd_T49 y208 x38_2).f2))) (fun _ hk => hk.2) (.slice A213_3 ((rd_T49 y208 x38_2).f3).length c213_3)) (fun _ h_ => h_.1)))).2.2) hb); have n5_ := Aside0.mk (blk_below (g := gb214) (o := .cells #[.int .i64 ((rd_T49 y208 x38_2).f0), .int .i64 ((rd_T49 y208 x38_2).f1), .string ((rd_T49 y208 x38_2).f2), .slice A213_3 ((rd_T49 y208 x38_2).f3).length c213_3] 49 (0, 0)) (by (with_reducible repeat (first | refine blk_drewN ?_ _ | refine blk_drew ?_ | refine blk_alloc ?_ _)); refine blk_put (cs := #[.int .i64 ((rd_T49 y208 x38_2).f0), .int .i64 ((rd_T49 y208 x38_2).f1), .string ((rd_T49 y208 x38_2).f2), .slice none 0 0]) ?_ 3 _ rfl; (with_reducible repeat (first | refine blk_drewN ?_ _ | refine blk_drew ?_ | refine blk_alloc ?_ _)); refine blk_put (cs := #[.int .i64 ((rd_T49 y208 x38_2).f0), .int .i64 ((rd_T49 y208 x38_2).f1), .string (⟨#[]⟩ : ByteArray), .slice none 0 0]) ?_ 2 _ rfl; (with_reducible repeat (first | refine blk_drewN ?_ _ | refine blk_drew ?_ | refine blk_alloc ?_ _)); refine blk_put (cs := #[.int .i64 ((rd_T49 y208 x38_2).f0), .int .i64 0, .string (⟨#[]⟩ : ByteArray), .slice none 0 0]) ?_ 1 _ rfl; (with_reducible repeat (first | refine blk_drewN ?_ _ | refine blk_drew ?_ | refine blk_alloc ?_ _)); refine blk_put (cs := #[.int .i64 0, .int .i64 0, .string (⟨#[]⟩ : ByteArray), .slice none 0 0]) ?_ 0 _ rfl; (with_reducible repeat (first | refine blk_drewN ?_ _ | refine blk_drew ?_ | refine blk_alloc ?_ _)); exact BK214.out) hb); have n6_ := Aside0.mk (below_step (by repeat (first | (with_reducible first | exact HB.out | apply below_alloc | apply pw_below_drewN | apply below_drew1 | refine below_set ?_ GE196.out | refine below_set ?_ GE214.out) | exact HB.out)) hb); clear HO_36; clear HO_197003; clear HL213_3; clear BK196; clear HR213_3; clear BK214; clear HB; have HO_36 := n0_; have HO_197003 := n1_; have HL213_3 := n2_; have BK196 := n3_; have HR213_3 := n4_; have BK214 := n5_; have HB := n6_; clear n0_ n1_ n2_ n3_ n4_ n5_ n6_; (try clear hb); (try clear hb2); (try clear hk); (try clear hi); (try clear hge); have hcz34_0 : w33.cell? ⟨gb214, 0, none⟩ = some (.int .i64 ((rd_T49 y208 x38_2).f0)) := (blk_cell BK214.out 0).trans rfl; have hcz34_1 : w33.cell? ⟨gb214, 1, none⟩ = some (.int .i64 ((rd_T49 y208 x38_2).f1)) := (blk_cell BK214.out 1).trans rfl; have hcz34_2 : w33.cell? ⟨gb214, 2, none⟩ = some (.string ((rd_T49 y208 x38_2).f2)) := (blk_cell BK214.out 2).trans rfl; have hcz34_3 : w33.cell? ⟨gb214, 3, none⟩ = some (.slice A213_3 ((rd_T49 y208 x38_2).f3).length c213_3) := (blk_cell BK214.out 3).trans rfl; have hfz34_0 := blk_frozen BK214.out 0; have hfz34_1 := blk_frozen BK214.out 1; have hfz34_2 := blk_frozen BK214.out 2; have hfz34_3 := blk_frozen BK214.out 3) | ((with_reducible refine gate_callee (f := 29) rfl ?_); refine goesL_ (some 49) rfl rfl Tryd.func29 (by kernel_rfl) rfl #[.agg #[.int .i64 ((rd_T49 y208 x38_2).f0), .int .i64 ((rd_T49 y208 x38_2).f1), .string ((rd_T49 y208 x38_2).f2), .slice A213_3 ((rd_T49 y208 x38_2).f3).length c213_3]] rfl (by (try simp only [List.map_toArray, List.map_cons, List.map_nil]); first | done | rfl | (simp only [List.length_drop, List.length_take]; rfl)) ?_; (with_reducible refine (flagstoneref13_Key.calls ((rd_T49 y208 x38_2).f0) ((rd_T49 y208 x38_2).f1) ((rd_T49 y208 x38_2).f2) _ _ ((rd_T49 y208 x38_2).f3) t217 t218 _ ?side1 ?side2 A27.out).mono ?_); (case side1 => repeat (first | exact (by repeat (first | (with_reducible exact HR213_3.out) | (with_reducible refine Kd.C_alloc ?_ _) | (with_reducible refine Kd.C_drewN ?_ _) | (with_reducible refine Kd.C_drew ?_) | exact HR213_3.out)) | (with_reducible refine Kd.C_alloc ?_ _) | (with_reducible refine Kd.C_drewN ?_ _) | (with_reducible refine Kd.C_drew ?_))); (case side2 => exact HC213_3.out); rintro e w35 ⟨rfl, hb⟩; refine ⟨_, rfl, ?_⟩; have n0_ := Aside0.mk (Kd.N_below (by (with_reducible repeat (first | apply Kd.N_alloc | apply Kd.N_drewN | apply Kd.N_drew)); exact HO_36.out) hb); have n1_ := Aside0.mk (Kd.V_below (by (with_reducible repeat (first | apply Kd.V_alloc | apply Kd.V_drewN | apply Kd.V_drew)); exact HO_197003.out) hb); have n2_ := Aside0.mk (Kd.V_below (by (with_reducible repeat (first | apply Kd.V_alloc | apply Kd.V_drewN | apply Kd.V_drew)); exact HL213_3.out) hb); have n3_ := Aside0.mk (blk_below (g := gb196) (o := .cells #[.int .i64 a2_0, .int .i64 a2_1, .string a2_2, .slice A2_3 l2_3.length c2_3] 49 (0, 0)) (by (with_reducible repeat (first | refine blk_drewN ?_ _ | refine blk_drew ?_ | refine blk_alloc ?_ _)); exact BK196.out) hb); have n4_ := Aside0.mk (Kd.C_below (by repeat (first | (with_reducible exact HR213_3.out) | (with_reducible refine Kd.C_alloc ?_ _) | (with_reducible refine Kd.C_drewN ?_ _) | (with_reducible refine Kd.C_drew ?_) | exact HR213_3.out)) hb); have n5_ := Aside0.mk (blk_below (g := gb214) (o := .cells #[.int .i64 ((rd_T49 y208 x38_2).f0), .int .i64 ((rd_T49 y208 x38_2).f1), .string ((rd_T49 y208 x38_2).f2), .slice A213_3 ((rd_T49 y208 x38_2).f3).length c213_3] 49 (0, 0)) (by (with_reducible repeat (first | refine blk_drewN ?_ _ | refine blk_drew ?_ | refine blk_alloc ?_ _)); exact BK214.out) hb); have n6_ := Aside0.mk (below_step (by repeat (first | (with_reducible first | exact HB.out | apply below_alloc | apply pw_below_drewN | apply below_drew1 | refine below_set ?_ GE196.out | refine below_set ?_ GE214.out) | exact HB.out)) hb); clear HO_36; clear HO_197003; clear HL213_3; clear BK196; clear HR213_3; clear BK214; clear HB; have HO_36 := n0_; have HO_197003 := n1_; have HL213_3 := n2_; have BK196 := n3_; have HR213_3 := n4_; have BK214 := n5_; have HB := n6_; clear n0_ n1_ n2_ n3_ n4_ n5_ n6_; (try clear hb); (try clear hb2); (try clear hk); (try clear hi); (try clear hge)))
                        go_ret
                        exact ⟨by first | rfl | (simp [errW_none, errW_some] <;> rfl) | (simp [*, errW_none, errW_some] <;> rfl), by repeat (first | (with_reducible first | exact HB.out | apply below_alloc | apply pw_below_drewN | apply below_drew1 | refine below_set ?_ GE196.out | refine below_set ?_ GE214.out) | exact HB.out)⟩
                      · rw [if_neg c29] at H
                        have c29b0 : (t216 != t218) = false := by simpa using c29
                        (try (have c29b1 : decide (t216 = t218) = true := by simpa using c29))
                        (try (have c29b2 : (t216 == t218) = true := by simpa using c29))
                        clear c29
                        have H' := Aside0.mk H
                        clear H
                        have p213 : 0 ≤ (x38_2 : Int) := of_decide_eq_true (by first | (with_reducible assumption) | assumption)
                        have q213 : x38_2 < (y208.length : Int) := of_decide_eq_true (by first | (with_reducible assumption) | assumption)
                        obtain ⟨ad213, A213_3, c213_3, e213, hx213_0, hx213_1, hx213_2, hx213_3, hl213_3, hi213_3⟩ := at_T49 (Kd.N_reads' HO_36.out).2.2 x38_2 p213 q213
                        cases e213
                        obtain ⟨ce213, hce213, hMe213, hcc213⟩ := Kd.N_get HO_36.out z49 x38_2 p213 (by first | exact q213 | exact of_decide_eq_true (by first | (with_reducible assumption) | assumption) | (have e_ := (Kd.N_reads' HO_36.out).1; omega))
                        obtain ⟨ua213_3, uc213_3, rfl, ul213_3, ge213_3⟩ := k49_openF hMe213
                        have hv213_3 := hcc213 3 _ rfl
                        rw [add_field _ _ 3 (by omega)] at hv213_3
                        replace hv213_3 := Option.some.inj (hv213_3.symm.trans hx213_3)
                        injection hv213_3 with hva_ hvn_ hvc_
                        rw [hva_] at ge213_3
                        rw [hvc_] at ul213_3
                        have HL213_3 := Aside0.mk (show Kd.V Kd.string 9 _ w.heap.size _ _ ((rd_T49 y208 x38_2).f3) from Kd.V_mk ul213_3 ge213_3)
                        clear hva_ hvn_ hvc_ ge213_3 ul213_3
                        clear hcc213 hce213
                        have HR213_3 := Aside0.mk hi213_3
                        have HC213_3 := Aside0.mk hl213_3
                        clear hi213_3 hl213_3
                        replace p213 := eq_true p213
                        replace q213 := eq_true q213
                        go_wp2_with (first | ((with_reducible refine gate_dst (N := 10) rfl ?_); (try (refine gate_guard (by rfl) ?_; dsimp only)); refine box_event ?hg (N := 10) ?hd (cs := #[.int .i64 0, .int .i64 0, .string (⟨#[]⟩ : ByteArray), .slice none 0 0]) (t := 49) ?hr ?_; (case hd => rfl); (case hg => rfl); (case hr => first | (go_simp; done) | (go_simp; rfl)); intro gb214 hg w36 hbox hb; have n0_ := Aside0.mk (Kd.N_below (Kd.N_elderB (by (with_reducible repeat (first | apply Kd.N_alloc | apply Kd.N_drewN | apply Kd.N_drew)); exact HO_36.out) gb214 (Nat.le_of_eq hg.symm)) hb); have n1_ := Aside0.mk (Kd.V_below (Kd.V_elderB (by (with_reducible repeat (first | apply Kd.V_alloc | apply Kd.V_drewN | apply Kd.V_drew)); exact HO_197003.out) gb214 (Nat.le_of_eq hg.symm)) hb); have n2_ := Aside0.mk (Kd.V_below (Kd.V_elderB (by (with_reducible repeat (first | apply Kd.V_alloc | apply Kd.V_drewN | apply Kd.V_drew)); exact HL213_3.out) gb214 (Nat.le_of_eq hg.symm)) hb); have n3_ := Aside0.mk (blk_below (g := gb196) (o := .cells #[.int .i64 a2_0, .int .i64 a2_1, .string a2_2, .slice A2_3 l2_3.length c2_3] 49 (0, 0)) (by (with_reducible repeat (first | refine blk_drewN ?_ _ | refine blk_drew ?_ | refine blk_alloc ?_ _)); exact BK196.out) hb); have n4_ := Aside0.mk (Kd.C_below (by repeat (first | (with_reducible exact HR213_3.out) | (with_reducible refine Kd.C_alloc ?_ _) | (with_reducible refine Kd.C_drewN ?_ _) | (with_reducible refine Kd.C_drew ?_) | exact HR213_3.out)) hb); have n5_ := Aside0.mk (below_step (by repeat (first | (with_reducible first | exact HB.out | apply below_alloc | apply pw_below_drewN | apply below_drew1 | refine below_set ?_ GE196.out) | exact HB.out)) hb); have n6_ := Aside0.mk (hbox); have n7_ := Aside0.mk ((by rw [hg]; exact (below_size (by repeat (first | (with_reducible first | exact HB.out | apply below_alloc | apply pw_below_drewN | apply below_drew1 | refine below_set ?_ GE196.out) | exact HB.out))) : w.heap.size ≤ gb214)); have n8_ := Aside0.mk ((by rw [hg]; exact (below_size (by repeat (first | (with_reducible first | exact HB.out | apply below_alloc | apply pw_below_drewN | apply below_drew1 | refine below_set ?_ GE196.out) | exact HB.out))) : w.heap.size ≤ gb214)); have n9_ := Aside0.mk ((by rw [hg]; exact Nat.ne_of_lt (blk_lt (g := gb196) (o := .cells #[.int .i64 a2_0, .int .i64 a2_1, .string a2_2, .slice A2_3 l2_3.length c2_3] 49 (0, 0)) (by (with_reducible repeat (first | refine blk_drewN ?_ _ | refine blk_drew ?_ | refine blk_alloc ?_ _)); exact BK196.out)) : gb196 ≠ gb214)); have n10_ := Aside0.mk ((by rw [hg]; exact Nat.ne_of_gt (blk_lt (g := gb196) (o := .cells #[.int .i64 a2_0, .int .i64 a2_1, .string a2_2, .slice A2_3 l2_3.length c2_3] 49 (0, 0)) (by (with_reducible repeat (first | refine blk_drewN ?_ _ | refine blk_drew ?_ | refine blk_alloc ?_ _)); exact BK196.out)) : gb214 ≠ gb196)); clear HO_36; clear HO_197003; clear HL213_3; clear BK196; clear HR213_3; clear HB; have HO_36 := n0_; have HO_197003 := n1_; have HL213_3 := n2_; have BK196 := n3_; have HR213_3 := n4_; have HB := n5_; have BK214 := n6_; have GW214 := n7_; have GE214 := n8_; have NB196_214 := n9_; have NB214_196 := n10_; clear n0_ n1_ n2_ n3_ n4_ n5_ n6_ n7_ n8_ n9_ n10_; clear hb hbox hg; have hnb37 := NB214_196.out; have hnc37 := NB196_214.out; have hcz38_0 : w36.cell? ⟨gb214, 0, none⟩ = some (.int .i64 0) := (blk_cell BK214.out 0).trans rfl; have hcz38_1 : w36.cell? ⟨gb214, 1, none⟩ = some (.int .i64 0) := (blk_cell BK214.out 1).trans rfl; have hcz38_2 : w36.cell? ⟨gb214, 2, none⟩ = some (.string (⟨#[]⟩ : ByteArray)) := (blk_cell BK214.out 2).trans rfl; have hcz38_3 : w36.cell? ⟨gb214, 3, none⟩ = some (.slice none 0 0) := (blk_cell BK214.out 3).trans rfl; have hfz38_0 := blk_frozen BK214.out 0; have hfz38_1 := blk_frozen BK214.out 1; have hfz38_2 := blk_frozen BK214.out 2; have hfz38_3 := blk_frozen BK214.out 3) | ((with_reducible refine gate_callee (f := 28) rfl ?_); refine goesL_ (some 44) rfl rfl Tryd.func28 (by kernel_rfl) rfl #[.agg #[.int .i64 ((rd_T49 y208 x38_2).f0), .int .i64 ((rd_T49 y208 x38_2).f1), .string ((rd_T49 y208 x38_2).f2), .slice A213_3 ((rd_T49 y208 x38_2).f3).length c213_3]] rfl (by (try simp only [List.map_toArray, List.map_cons, List.map_nil]); first | done | rfl | (simp only [List.length_drop, List.length_take]; rfl)) ?_; (with_reducible refine (bucket_Key.calls k2 ((rd_T49 y208 x38_2).f0) ((rd_T49 y208 x38_2).f1) ((rd_T49 y208 x38_2).f2) _ _ ((rd_T49 y208 x38_2).f3) t215 t216 _ ?side1 ?side2 ?side3 A26.out).mono ?_); (case side1 => repeat (first | exact ((Kd.V_reads' (by (with_reducible repeat (first | apply Kd.V_alloc | apply Kd.V_drewN | apply Kd.V_drew)); exact (Kd.V_mono (Kd.V_far (p := ⟨gb214, 3, none⟩) (Kd.V_far (p := ⟨gb214, 2, none⟩) (Kd.V_far (p := ⟨gb214, 1, none⟩) (Kd.V_far (p := ⟨gb214, 0, none⟩) (Kd.V_mono HL213_3.out (fun k_ hk => (⟨hk, hk.2⟩ : _ ∧ k_ ≠ gb214))) (fun _ hk => hk.2) (.int .i64 ((rd_T49 y208 x38_2).f0))) (fun _ hk => hk.2) (.int .i64 ((rd_T49 y208 x38_2).f1))) (fun _ hk => hk.2) (.string ((rd_T49 y208 x38_2).f2))) (fun _ hk => hk.2) (.slice A213_3 ((rd_T49 y208 x38_2).f3).length c213_3)) (fun _ h_ => h_.1)))).2.2) | (with_reducible refine Kd.C_alloc ?_ _) | (with_reducible refine Kd.C_drewN ?_ _) | (with_reducible refine Kd.C_drew ?_))); (case side2 => exact HC213_3.out); (case side3 => exact GL.below HGL.out (by repeat (first | (with_reducible first | exact HB.out | apply below_alloc | apply pw_below_drewN | apply below_drew1 | refine below_set ?_ GE196.out | refine below_set ?_ GE214.out) | exact HB.out))); rintro e w39 ⟨rfl, hb⟩; refine ⟨_, rfl, ?_⟩; have n0_ := Aside0.mk (Kd.N_below (by (with_reducible repeat (first | apply Kd.N_alloc | apply Kd.N_drewN | apply Kd.N_drew)); exact (Kd.N_mono (Kd.N_far (p := ⟨gb214, 3, none⟩) (Kd.N_far (p := ⟨gb214, 2, none⟩) (Kd.N_far (p := ⟨gb214, 1, none⟩) (Kd.N_far (p := ⟨gb214, 0, none⟩) (Kd.N_mono HO_36.out (fun k_ hk => (⟨hk, hk.2⟩ : _ ∧ k_ ≠ gb214))) (fun _ hk => hk.2) (.int .i64 ((rd_T49 y208 x38_2).f0))) (fun _ hk => hk.2) (.int .i64 ((rd_T49 y208 x38_2).f1))) (fun _ hk => hk.2) (.string ((rd_T49 y208 x38_2).f2))) (fun _ hk => hk.2) (.slice A213_3 ((rd_T49 y208 x38_2).f3).length c213_3)) (fun _ h_ => h_.1))) hb); have n1_ := Aside0.mk (Kd.V_below (by (with_reducible repeat (first | apply Kd.V_alloc | apply Kd.V_drewN | apply Kd.V_drew)); exact (Kd.V_mono (Kd.V_far (p := ⟨gb214, 3, none⟩) (Kd.V_far (p := ⟨gb214, 2, none⟩) (Kd.V_far (p := ⟨gb214, 1, none⟩) (Kd.V_far (p := ⟨gb214, 0, none⟩) (Kd.V_mono HO_197003.out (fun k_ hk => (⟨hk, hk.2⟩ : _ ∧ k_ ≠ gb214))) (fun _ hk => hk.2) (.int .i64 ((rd_T49 y208 x38_2).f0))) (fun _ hk => hk.2) (.int .i64 ((rd_T49 y208 x38_2).f1))) (fun _ hk => hk.2) (.string ((rd_T49 y208 x38_2).f2))) (fun _ hk => hk.2) (.slice A213_3 ((rd_T49 y208 x38_2).f3).length c213_3)) (fun _ h_ => h_.1))) hb); have n2_ := Aside0.mk (Kd.V_below (by (with_reducible repeat (first | apply Kd.V_alloc | apply Kd.V_drewN | apply Kd.V_drew)); exact (Kd.V_mono (Kd.V_far (p := ⟨gb214, 3, none⟩) (Kd.V_far (p := ⟨gb214, 2, none⟩) (Kd.V_far (p := ⟨gb214, 1, none⟩) (Kd.V_far (p := ⟨gb214, 0, none⟩) (Kd.V_mono HL213_3.out (fun k_ hk => (⟨hk, hk.2⟩ : _ ∧ k_ ≠ gb214))) (fun _ hk => hk.2) (.int .i64 ((rd_T49 y208 x38_2).f0))) (fun _ hk => hk.2) (.int .i64 ((rd_T49 y208 x38_2).f1))) (fun _ hk => hk.2) (.string ((rd_T49 y208 x38_2).f2))) (fun _ hk => hk.2) (.slice A213_3 ((rd_T49 y208 x38_2).f3).length c213_3)) (fun _ h_ => h_.1))) hb); have n3_ := Aside0.mk (blk_below (g := gb196) (o := .cells #[.int .i64 a2_0, .int .i64 a2_1, .string a2_2, .slice A2_3 l2_3.length c2_3] 49 (0, 0)) (by (with_reducible repeat (first | refine blk_drewN ?_ _ | refine blk_drew ?_ | refine blk_alloc ?_ _)); refine blk_far ?_ NB196_214.out _; (with_reducible repeat (first | refine blk_drewN ?_ _ | refine blk_drew ?_ | refine blk_alloc ?_ _)); refine blk_far ?_ NB196_214.out _; (with_reducible repeat (first | refine blk_drewN ?_ _ | refine blk_drew ?_ | refine blk_alloc ?_ _)); refine blk_far ?_ NB196_214.out _; (with_reducible repeat (first | refine blk_drewN ?_ _ | refine blk_drew ?_ | refine blk_alloc ?_ _)); refine blk_far ?_ NB196_214.out _; (with_reducible repeat (first | refine blk_drewN ?_ _ | refine blk_drew ?_ | refine blk_alloc ?_ _)); exact BK196.out) hb); have n4_ := Aside0.mk (Kd.C_below ((Kd.V_reads' (by (with_reducible repeat (first | apply Kd.V_alloc | apply Kd.V_drewN | apply Kd.V_drew)); exact (Kd.V_mono (Kd.V_far (p := ⟨gb214, 3, none⟩) (Kd.V_far (p := ⟨gb214, 2, none⟩) (Kd.V_far (p := ⟨gb214, 1, none⟩) (Kd.V_far (p := ⟨gb214, 0, none⟩) (Kd.V_mono HL213_3.out (fun k_ hk => (⟨hk, hk.2⟩ : _ ∧ k_ ≠ gb214))) (fun _ hk => hk.2) (.int .i64 ((rd_T49 y208 x38_2).f0))) (fun _ hk => hk.2) (.int .i64 ((rd_T49 y208 x38_2).f1))) (fun _ hk => hk.2) (.string ((rd_T49 y208 x38_2).f2))) (fun _ hk => hk.2) (.slice A213_3 ((rd_T49 y208 x38_2).f3).length c213_3)) (fun _ h_ => h_.1)))).2.2) hb); have n5_ := Aside0.mk (blk_below (g := gb214) (o := .cells #[.int .i64 ((rd_T49 y208 x38_2).f0), .int .i64 ((rd_T49 y208 x38_2).f1), .string ((rd_T49 y208 x38_2).f2), .slice A213_3 ((rd_T49 y208 x38_2).f3).length c213_3] 49 (0, 0)) (by (with_reducible repeat (first | refine blk_drewN ?_ _ | refine blk_drew ?_ | refine blk_alloc ?_ _)); refine blk_put (cs := #[.int .i64 ((rd_T49 y208 x38_2).f0), .int .i64 ((rd_T49 y208 x38_2).f1), .string ((rd_T49 y208 x38_2).f2), .slice none 0 0]) ?_ 3 _ rfl; (with_reducible repeat (first | refine blk_drewN ?_ _ | refine blk_drew ?_ | refine blk_alloc ?_ _)); refine blk_put (cs := #[.int .i64 ((rd_T49 y208 x38_2).f0), .int .i64 ((rd_T49 y208 x38_2).f1), .string (⟨#[]⟩ : ByteArray), .slice none 0 0]) ?_ 2 _ rfl; (with_reducible repeat (first | refine blk_drewN ?_ _ | refine blk_drew ?_ | refine blk_alloc ?_ _)); refine blk_put (cs := #[.int .i64 ((rd_T49 y208 x38_2).f0), .int .i64 0, .string (⟨#[]⟩ : ByteArray), .slice none 0 0]) ?_ 1 _ rfl; (with_reducible repeat (first | refine blk_drewN ?_ _ | refine blk_drew ?_ | refine blk_alloc ?_ _)); refine blk_put (cs := #[.int .i64 0, .int .i64 0, .string (⟨#[]⟩ : ByteArray), .slice none 0 0]) ?_ 0 _ rfl; (with_reducible repeat (first | refine blk_drewN ?_ _ | refine blk_drew ?_ | refine blk_alloc ?_ _)); exact BK214.out) hb); have n6_ := Aside0.mk (below_step (by repeat (first | (with_reducible first | exact HB.out | apply below_alloc | apply pw_below_drewN | apply below_drew1 | refine below_set ?_ GE196.out | refine below_set ?_ GE214.out) | exact HB.out)) hb); clear HO_36; clear HO_197003; clear HL213_3; clear BK196; clear HR213_3; clear BK214; clear HB; have HO_36 := n0_; have HO_197003 := n1_; have HL213_3 := n2_; have BK196 := n3_; have HR213_3 := n4_; have BK214 := n5_; have HB := n6_; clear n0_ n1_ n2_ n3_ n4_ n5_ n6_; (try clear hb); (try clear hb2); (try clear hk); (try clear hi); (try clear hge); have hcz40_0 : w39.cell? ⟨gb214, 0, none⟩ = some (.int .i64 ((rd_T49 y208 x38_2).f0)) := (blk_cell BK214.out 0).trans rfl; have hcz40_1 : w39.cell? ⟨gb214, 1, none⟩ = some (.int .i64 ((rd_T49 y208 x38_2).f1)) := (blk_cell BK214.out 1).trans rfl; have hcz40_2 : w39.cell? ⟨gb214, 2, none⟩ = some (.string ((rd_T49 y208 x38_2).f2)) := (blk_cell BK214.out 2).trans rfl; have hcz40_3 : w39.cell? ⟨gb214, 3, none⟩ = some (.slice A213_3 ((rd_T49 y208 x38_2).f3).length c213_3) := (blk_cell BK214.out 3).trans rfl; have hfz40_0 := blk_frozen BK214.out 0; have hfz40_1 := blk_frozen BK214.out 1; have hfz40_2 := blk_frozen BK214.out 2; have hfz40_3 := blk_frozen BK214.out 3) | ((with_reducible refine gate_callee (f := 29) rfl ?_); refine goesL_ (some 49) rfl rfl Tryd.func29 (by kernel_rfl) rfl #[.agg #[.int .i64 ((rd_T49 y208 x38_2).f0), .int .i64 ((rd_T49 y208 x38_2).f1), .string ((rd_T49 y208 x38_2).f2), .slice A213_3 ((rd_T49 y208 x38_2).f3).length c213_3]] rfl (by (try simp only [List.map_toArray, List.map_cons, List.map_nil]); first | done | rfl | (simp only [List.length_drop, List.length_take]; rfl)) ?_; (with_reducible refine (flagstoneref13_Key.calls ((rd_T49 y208 x38_2).f0) ((rd_T49 y208 x38_2).f1) ((rd_T49 y208 x38_2).f2) _ _ ((rd_T49 y208 x38_2).f3) t217 t218 _ ?side1 ?side2 A27.out).mono ?_); (case side1 => repeat (first | exact (by repeat (first | (with_reducible exact HR213_3.out) | (with_reducible refine Kd.C_alloc ?_ _) | (with_reducible refine Kd.C_drewN ?_ _) | (with_reducible refine Kd.C_drew ?_) | exact HR213_3.out)) | (with_reducible refine Kd.C_alloc ?_ _) | (with_reducible refine Kd.C_drewN ?_ _) | (with_reducible refine Kd.C_drew ?_))); (case side2 => exact HC213_3.out); rintro e w41 ⟨rfl, hb⟩; refine ⟨_, rfl, ?_⟩; have n0_ := Aside0.mk (Kd.N_below (by (with_reducible repeat (first | apply Kd.N_alloc | apply Kd.N_drewN | apply Kd.N_drew)); exact HO_36.out) hb); have n1_ := Aside0.mk (Kd.V_below (by (with_reducible repeat (first | apply Kd.V_alloc | apply Kd.V_drewN | apply Kd.V_drew)); exact HO_197003.out) hb); have n2_ := Aside0.mk (Kd.V_below (by (with_reducible repeat (first | apply Kd.V_alloc | apply Kd.V_drewN | apply Kd.V_drew)); exact HL213_3.out) hb); have n3_ := Aside0.mk (blk_below (g := gb196) (o := .cells #[.int .i64 a2_0, .int .i64 a2_1, .string a2_2, .slice A2_3 l2_3.length c2_3] 49 (0, 0)) (by (with_reducible repeat (first | refine blk_drewN ?_ _ | refine blk_drew ?_ | refine blk_alloc ?_ _)); exact BK196.out) hb); have n4_ := Aside0.mk (Kd.C_below (by repeat (first | (with_reducible exact HR213_3.out) | (with_reducible refine Kd.C_alloc ?_ _) | (with_reducible refine Kd.C_drewN ?_ _) | (with_reducible refine Kd.C_drew ?_) | exact HR213_3.out)) hb); have n5_ := Aside0.mk (blk_below (g := gb214) (o := .cells #[.int .i64 ((rd_T49 y208 x38_2).f0), .int .i64 ((rd_T49 y208 x38_2).f1), .string ((rd_T49 y208 x38_2).f2), .slice A213_3 ((rd_T49 y208 x38_2).f3).length c213_3] 49 (0, 0)) (by (with_reducible repeat (first | refine blk_drewN ?_ _ | refine blk_drew ?_ | refine blk_alloc ?_ _)); exact BK214.out) hb); have n6_ := Aside0.mk (below_step (by repeat (first | (with_reducible first | exact HB.out | apply below_alloc | apply pw_below_drewN | apply below_drew1 | refine below_set ?_ GE196.out | refine below_set ?_ GE214.out) | exact HB.out)) hb); clear HO_36; clear HO_197003; clear HL213_3; clear BK196; clear HR213_3; clear BK214; clear HB; have HO_36 := n0_; have HO_197003 := n1_; have HL213_3 := n2_; have BK196 := n3_; have HR213_3 := n4_; have BK214 := n5_; have HB := n6_; clear n0_ n1_ n2_ n3_ n4_ n5_ n6_; (try clear hb); (try clear hb2); (try clear hk); (try clear hi); (try clear hge)))
                        go_roundg k2
                        case measure => have := HJ6.out; have := HK2.out; omega
                        case rel => exact ⟨(wrap64 (x38_2 + 1)), (by first | rfl | (simp; done) | (simp [*]; done)), H', ⟨by have := HJ6.out; have := HK2.out; omega⟩, ⟨by (with_reducible repeat (first | apply Kd.N_alloc | apply Kd.N_drewN | apply Kd.N_drew)); exact Kd.N_mono HO_36.out (fun _ hk => ⟨hk.1.1, hk.1.2⟩)⟩, ⟨by (with_reducible repeat (first | apply Kd.V_alloc | apply Kd.V_drewN | apply Kd.V_drew)); exact Kd.V_mono HO_197003.out (fun _ hk => ⟨hk.1.1, ⟨hk.1.2.1, hk.1.2.2⟩⟩)⟩, ⟨by (with_reducible repeat (first | refine blk_drewN ?_ _ | refine blk_drew ?_ | refine blk_alloc ?_ _)); exact BK196.out⟩, ⟨by repeat (first | (with_reducible first | exact HB.out | apply below_alloc | apply pw_below_drewN | apply below_drew1 | refine below_set ?_ GE196.out | refine below_set ?_ GE214.out) | exact HB.out)⟩⟩
                    · rw [if_neg c28] at H
                      have c28b0 : (t215.toList == t217.toList) = false := beq_eq_false_iff_ne.mpr c28
                      have c28b1 : (t215.toList != t217.toList) = true := bne_iff_ne.mpr c28
                      obtain rfl := Option.some.inj H
                      have p213 : 0 ≤ (x38_2 : Int) := of_decide_eq_true (by first | (with_reducible assumption) | assumption)
                      have q213 : x38_2 < (y208.length : Int) := of_decide_eq_true (by first | (with_reducible assumption) | assumption)
                      obtain ⟨ad213, A213_3, c213_3, e213, hx213_0, hx213_1, hx213_2, hx213_3, hl213_3, hi213_3⟩ := at_T49 (Kd.N_reads' HO_36.out).2.2 x38_2 p213 q213
                      cases e213
                      obtain ⟨ce213, hce213, hMe213, hcc213⟩ := Kd.N_get HO_36.out z49 x38_2 p213 (by first | exact q213 | exact of_decide_eq_true (by first | (with_reducible assumption) | assumption) | (have e_ := (Kd.N_reads' HO_36.out).1; omega))
                      obtain ⟨ua213_3, uc213_3, rfl, ul213_3, ge213_3⟩ := k49_openF hMe213
                      have hv213_3 := hcc213 3 _ rfl
                      rw [add_field _ _ 3 (by omega)] at hv213_3
                      replace hv213_3 := Option.some.inj (hv213_3.symm.trans hx213_3)
                      injection hv213_3 with hva_ hvn_ hvc_
                      rw [hva_] at ge213_3
                      rw [hvc_] at ul213_3
                      have HL213_3 := Aside0.mk (show Kd.V Kd.string 9 _ w.heap.size _ _ ((rd_T49 y208 x38_2).f3) from Kd.V_mk ul213_3 ge213_3)
                      clear hva_ hvn_ hvc_ ge213_3 ul213_3
                      clear hcc213 hce213
                      have HR213_3 := Aside0.mk hi213_3
                      have HC213_3 := Aside0.mk hl213_3
                      clear hi213_3 hl213_3
                      replace p213 := eq_true p213
                      replace q213 := eq_true q213
                      go_wp2_with (first | ((with_reducible refine gate_dst (N := 10) rfl ?_); (try (refine gate_guard (by rfl) ?_; dsimp only)); refine box_event ?hg (N := 10) ?hd (cs := #[.int .i64 0, .int .i64 0, .string (⟨#[]⟩ : ByteArray), .slice none 0 0]) (t := 49) ?hr ?_; (case hd => rfl); (case hg => rfl); (case hr => first | (go_simp; done) | (go_simp; rfl)); intro gb214 hg w42 hbox hb; have n0_ := Aside0.mk (Kd.N_below (Kd.N_elderB (by (with_reducible repeat (first | apply Kd.N_alloc | apply Kd.N_drewN | apply Kd.N_drew)); exact HO_36.out) gb214 (Nat.le_of_eq hg.symm)) hb); have n1_ := Aside0.mk (Kd.V_below (Kd.V_elderB (by (with_reducible repeat (first | apply Kd.V_alloc | apply Kd.V_drewN | apply Kd.V_drew)); exact HO_197003.out) gb214 (Nat.le_of_eq hg.symm)) hb); have n2_ := Aside0.mk (Kd.V_below (Kd.V_elderB (by (with_reducible repeat (first | apply Kd.V_alloc | apply Kd.V_drewN | apply Kd.V_drew)); exact HL213_3.out) gb214 (Nat.le_of_eq hg.symm)) hb); have n3_ := Aside0.mk (blk_below (g := gb196) (o := .cells #[.int .i64 a2_0, .int .i64 a2_1, .string a2_2, .slice A2_3 l2_3.length c2_3] 49 (0, 0)) (by (with_reducible repeat (first | refine blk_drewN ?_ _ | refine blk_drew ?_ | refine blk_alloc ?_ _)); exact BK196.out) hb); have n4_ := Aside0.mk (Kd.C_below (by repeat (first | (with_reducible exact HR213_3.out) | (with_reducible refine Kd.C_alloc ?_ _) | (with_reducible refine Kd.C_drewN ?_ _) | (with_reducible refine Kd.C_drew ?_) | exact HR213_3.out)) hb); have n5_ := Aside0.mk (below_step (by repeat (first | (with_reducible first | exact HB.out | apply below_alloc | apply pw_below_drewN | apply below_drew1 | refine below_set ?_ GE196.out) | exact HB.out)) hb); have n6_ := Aside0.mk (hbox); have n7_ := Aside0.mk ((by rw [hg]; exact (below_size (by repeat (first | (with_reducible first | exact HB.out | apply below_alloc | apply pw_below_drewN | apply below_drew1 | refine below_set ?_ GE196.out) | exact HB.out))) : w.heap.size ≤ gb214)); have n8_ := Aside0.mk ((by rw [hg]; exact (below_size (by repeat (first | (with_reducible first | exact HB.out | apply below_alloc | apply pw_below_drewN | apply below_drew1 | refine below_set ?_ GE196.out) | exact HB.out))) : w.heap.size ≤ gb214)); have n9_ := Aside0.mk ((by rw [hg]; exact Nat.ne_of_lt (blk_lt (g := gb196) (o := .cells #[.int .i64 a2_0, .int .i64 a2_1, .string a2_2, .slice A2_3 l2_3.length c2_3] 49 (0, 0)) (by (with_reducible repeat (first | refine blk_drewN ?_ _ | refine blk_drew ?_ | refine blk_alloc ?_ _)); exact BK196.out)) : gb196 ≠ gb214)); have n10_ := Aside0.mk ((by rw [hg]; exact Nat.ne_of_gt (blk_lt (g := gb196) (o := .cells #[.int .i64 a2_0, .int .i64 a2_1, .string a2_2, .slice A2_3 l2_3.length c2_3] 49 (0, 0)) (by (with_reducible repeat (first | refine blk_drewN ?_ _ | refine blk_drew ?_ | refine blk_alloc ?_ _)); exact BK196.out)) : gb214 ≠ gb196)); clear HO_36; clear HO_197003; clear HL213_3; clear BK196; clear HR213_3; clear HB; have HO_36 := n0_; have HO_197003 := n1_; have HL213_3 := n2_; have BK196 := n3_; have HR213_3 := n4_; have HB := n5_; have BK214 := n6_; have GW214 := n7_; have GE214 := n8_; have NB196_214 := n9_; have NB214_196 := n10_; clear n0_ n1_ n2_ n3_ n4_ n5_ n6_ n7_ n8_ n9_ n10_; clear hb hbox hg; have hnb43 := NB214_196.out; have hnc43 := NB196_214.out; have hcz44_0 : w42.cell? ⟨gb214, 0, none⟩ = some (.int .i64 0) := (blk_cell BK214.out 0).trans rfl; have hcz44_1 : w42.cell? ⟨gb214, 1, none⟩ = some (.int .i64 0) := (blk_cell BK214.out 1).trans rfl; have hcz44_2 : w42.cell? ⟨gb214, 2, none⟩ = some (.string (⟨#[]⟩ : ByteArray)) := (blk_cell BK214.out 2).trans rfl; have hcz44_3 : w42.cell? ⟨gb214, 3, none⟩ = some (.slice none 0 0) := (blk_cell BK214.out 3).trans rfl; have hfz44_0 := blk_frozen BK214.out 0; have hfz44_1 := blk_frozen BK214.out 1; have hfz44_2 := blk_frozen BK214.out 2; have hfz44_3 := blk_frozen BK214.out 3) | ((with_reducible refine gate_callee (f := 28) rfl ?_); refine goesL_ (some 44) rfl rfl Tryd.func28 (by kernel_rfl) rfl #[.agg #[.int .i64 ((rd_T49 y208 x38_2).f0), .int .i64 ((rd_T49 y208 x38_2).f1), .string ((rd_T49 y208 x38_2).f2), .slice A213_3 ((rd_T49 y208 x38_2).f3).length c213_3]] rfl (by (try simp only [List.map_toArray, List.map_cons, List.map_nil]); first | done | rfl | (simp only [List.length_drop, List.length_take]; rfl)) ?_; (with_reducible refine (bucket_Key.calls k2 ((rd_T49 y208 x38_2).f0) ((rd_T49 y208 x38_2).f1) ((rd_T49 y208 x38_2).f2) _ _ ((rd_T49 y208 x38_2).f3) t215 t216 _ ?side1 ?side2 ?side3 A26.out).mono ?_); (case side1 => repeat (first | exact ((Kd.V_reads' (by (with_reducible repeat (first | apply Kd.V_alloc | apply Kd.V_drewN | apply Kd.V_drew)); exact (Kd.V_mono (Kd.V_far (p := ⟨gb214, 3, none⟩) (Kd.V_far (p := ⟨gb214, 2, none⟩) (Kd.V_far (p := ⟨gb214, 1, none⟩) (Kd.V_far (p := ⟨gb214, 0, none⟩) (Kd.V_mono HL213_3.out (fun k_ hk => (⟨hk, hk.2⟩ : _ ∧ k_ ≠ gb214))) (fun _ hk => hk.2) (.int .i64 ((rd_T49 y208 x38_2).f0))) (fun _ hk => hk.2) (.int .i64 ((rd_T49 y208 x38_2).f1))) (fun _ hk => hk.2) (.string ((rd_T49 y208 x38_2).f2))) (fun _ hk => hk.2) (.slice A213_3 ((rd_T49 y208 x38_2).f3).length c213_3)) (fun _ h_ => h_.1)))).2.2) | (with_reducible refine Kd.C_alloc ?_ _) | (with_reducible refine Kd.C_drewN ?_ _) | (with_reducible refine Kd.C_drew ?_))); (case side2 => exact HC213_3.out); (case side3 => exact GL.below HGL.out (by repeat (first | (with_reducible first | exact HB.out | apply below_alloc | apply pw_below_drewN | apply below_drew1 | refine below_set ?_ GE196.out | refine below_set ?_ GE214.out) | exact HB.out))); rintro e w45 ⟨rfl, hb⟩; refine ⟨_, rfl, ?_⟩; have n0_ := Aside0.mk (Kd.N_below (by (with_reducible repeat (first | apply Kd.N_alloc | apply Kd.N_drewN | apply Kd.N_drew)); exact (Kd.N_mono (Kd.N_far (p := ⟨gb214, 3, none⟩) (Kd.N_far (p := ⟨gb214, 2, none⟩) (Kd.N_far (p := ⟨gb214, 1, none⟩) (Kd.N_far (p := ⟨gb214, 0, none⟩) (Kd.N_mono HO_36.out (fun k_ hk => (⟨hk, hk.2⟩ : _ ∧ k_ ≠ gb214))) (fun _ hk => hk.2) (.int .i64 ((rd_T49 y208 x38_2).f0))) (fun _ hk => hk.2) (.int .i64 ((rd_T49 y208 x38_2).f1))) (fun _ hk => hk.2) (.string ((rd_T49 y208 x38_2).f2))) (fun _ hk => hk.2) (.slice A213_3 ((rd_T49 y208 x38_2).f3).length c213_3)) (fun _ h_ => h_.1))) hb); have n1_ := Aside0.mk (Kd.V_below (by (with_reducible repeat (first | apply Kd.V_alloc | apply Kd.V_drewN | apply Kd.V_drew)); exact (Kd.V_mono (Kd.V_far (p := ⟨gb214, 3, none⟩) (Kd.V_far (p := ⟨gb214, 2, none⟩) (Kd.V_far (p := ⟨gb214, 1, none⟩) (Kd.V_far (p := ⟨gb214, 0, none⟩) (Kd.V_mono HO_197003.out (fun k_ hk => (⟨hk, hk.2⟩ : _ ∧ k_ ≠ gb214))) (fun _ hk => hk.2) (.int .i64 ((rd_T49 y208 x38_2).f0))) (fun _ hk => hk.2) (.int .i64 ((rd_T49 y208 x38_2).f1))) (fun _ hk => hk.2) (.string ((rd_T49 y208 x38_2).f2))) (fun _ hk => hk.2) (.slice A213_3 ((rd_T49 y208 x38_2).f3).length c213_3)) (fun _ h_ => h_.1))) hb); have n2_ := Aside0.mk (Kd.V_below (by (with_reducible repeat (first | apply Kd.V_alloc | apply Kd.V_drewN | apply Kd.V_drew)); exact (Kd.V_mono (Kd.V_far (p := ⟨gb214, 3, none⟩) (Kd.V_far (p := ⟨gb214, 2, none⟩) (Kd.V_far (p := ⟨gb214, 1, none⟩) (Kd.V_far (p := ⟨gb214, 0, none⟩) (Kd.V_mono HL213_3.out (fun k_ hk => (⟨hk, hk.2⟩ : _ ∧ k_ ≠ gb214))) (fun _ hk => hk.2) (.int .i64 ((rd_T49 y208 x38_2).f0))) (fun _ hk => hk.2) (.int .i64 ((rd_T49 y208 x38_2).f1))) (fun _ hk => hk.2) (.string ((rd_T49 y208 x38_2).f2))) (fun _ hk => hk.2) (.slice A213_3 ((rd_T49 y208 x38_2).f3).length c213_3)) (fun _ h_ => h_.1))) hb); have n3_ := Aside0.mk (blk_below (g := gb196) (o := .cells #[.int .i64 a2_0, .int .i64 a2_1, .string a2_2, .slice A2_3 l2_3.length c2_3] 49 (0, 0)) (by (with_reducible repeat (first | refine blk_drewN ?_ _ | refine blk_drew ?_ | refine blk_alloc ?_ _)); refine blk_far ?_ NB196_214.out _; (with_reducible repeat (first | refine blk_drewN ?_ _ | refine blk_drew ?_ | refine blk_alloc ?_ _)); refine blk_far ?_ NB196_214.out _; (with_reducible repeat (first | refine blk_drewN ?_ _ | refine blk_drew ?_ | refine blk_alloc ?_ _)); refine blk_far ?_ NB196_214.out _; (with_reducible repeat (first | refine blk_drewN ?_ _ | refine blk_drew ?_ | refine blk_alloc ?_ _)); refine blk_far ?_ NB196_214.out _; (with_reducible repeat (first | refine blk_drewN ?_ _ | refine blk_drew ?_ | refine blk_alloc ?_ _)); exact BK196.out) hb); have n4_ := Aside0.mk (Kd.C_below ((Kd.V_reads' (by (with_reducible repeat (first | apply Kd.V_alloc | apply Kd.V_drewN | apply Kd.V_drew)); exact (Kd.V_mono (Kd.V_far (p := ⟨gb214, 3, none⟩) (Kd.V_far (p := ⟨gb214, 2, none⟩) (Kd.V_far (p := ⟨gb214, 1, none⟩) (Kd.V_far (p := ⟨gb214, 0, none⟩) (Kd.V_mono HL213_3.out (fun k_ hk => (⟨hk, hk.2⟩ : _ ∧ k_ ≠ gb214))) (fun _ hk => hk.2) (.int .i64 ((rd_T49 y208 x38_2).f0))) (fun _ hk => hk.2) (.int .i64 ((rd_T49 y208 x38_2).f1))) (fun _ hk => hk.2) (.string ((rd_T49 y208 x38_2).f2))) (fun _ hk => hk.2) (.slice A213_3 ((rd_T49 y208 x38_2).f3).length c213_3)) (fun _ h_ => h_.1)))).2.2) hb); have n5_ := Aside0.mk (blk_below (g := gb214) (o := .cells #[.int .i64 ((rd_T49 y208 x38_2).f0), .int .i64 ((rd_T49 y208 x38_2).f1), .string ((rd_T49 y208 x38_2).f2), .slice A213_3 ((rd_T49 y208 x38_2).f3).length c213_3] 49 (0, 0)) (by (with_reducible repeat (first | refine blk_drewN ?_ _ | refine blk_drew ?_ | refine blk_alloc ?_ _)); refine blk_put (cs := #[.int .i64 ((rd_T49 y208 x38_2).f0), .int .i64 ((rd_T49 y208 x38_2).f1), .string ((rd_T49 y208 x38_2).f2), .slice none 0 0]) ?_ 3 _ rfl; (with_reducible repeat (first | refine blk_drewN ?_ _ | refine blk_drew ?_ | refine blk_alloc ?_ _)); refine blk_put (cs := #[.int .i64 ((rd_T49 y208 x38_2).f0), .int .i64 ((rd_T49 y208 x38_2).f1), .string (⟨#[]⟩ : ByteArray), .slice none 0 0]) ?_ 2 _ rfl; (with_reducible repeat (first | refine blk_drewN ?_ _ | refine blk_drew ?_ | refine blk_alloc ?_ _)); refine blk_put (cs := #[.int .i64 ((rd_T49 y208 x38_2).f0), .int .i64 0, .string (⟨#[]⟩ : ByteArray), .slice none 0 0]) ?_ 1 _ rfl; (with_reducible repeat (first | refine blk_drewN ?_ _ | refine blk_drew ?_ | refine blk_alloc ?_ _)); refine blk_put (cs := #[.int .i64 0, .int .i64 0, .string (⟨#[]⟩ : ByteArray), .slice none 0 0]) ?_ 0 _ rfl; (with_reducible repeat (first | refine blk_drewN ?_ _ | refine blk_drew ?_ | refine blk_alloc ?_ _)); exact BK214.out) hb); have n6_ := Aside0.mk (below_step (by repeat (first | (with_reducible first | exact HB.out | apply below_alloc | apply pw_below_drewN | apply below_drew1 | refine below_set ?_ GE196.out | refine below_set ?_ GE214.out) | exact HB.out)) hb); clear HO_36; clear HO_197003; clear HL213_3; clear BK196; clear HR213_3; clear BK214; clear HB; have HO_36 := n0_; have HO_197003 := n1_; have HL213_3 := n2_; have BK196 := n3_; have HR213_3 := n4_; have BK214 := n5_; have HB := n6_; clear n0_ n1_ n2_ n3_ n4_ n5_ n6_; (try clear hb); (try clear hb2); (try clear hk); (try clear hi); (try clear hge); have hcz46_0 : w45.cell? ⟨gb214, 0, none⟩ = some (.int .i64 ((rd_T49 y208 x38_2).f0)) := (blk_cell BK214.out 0).trans rfl; have hcz46_1 : w45.cell? ⟨gb214, 1, none⟩ = some (.int .i64 ((rd_T49 y208 x38_2).f1)) := (blk_cell BK214.out 1).trans rfl; have hcz46_2 : w45.cell? ⟨gb214, 2, none⟩ = some (.string ((rd_T49 y208 x38_2).f2)) := (blk_cell BK214.out 2).trans rfl; have hcz46_3 : w45.cell? ⟨gb214, 3, none⟩ = some (.slice A213_3 ((rd_T49 y208 x38_2).f3).length c213_3) := (blk_cell BK214.out 3).trans rfl; have hfz46_0 := blk_frozen BK214.out 0; have hfz46_1 := blk_frozen BK214.out 1; have hfz46_2 := blk_frozen BK214.out 2; have hfz46_3 := blk_frozen BK214.out 3) | ((with_reducible refine gate_callee (f := 29) rfl ?_); refine goesL_ (some 49) rfl rfl Tryd.func29 (by kernel_rfl) rfl #[.agg #[.int .i64 ((rd_T49 y208 x38_2).f0), .int .i64 ((rd_T49 y208 x38_2).f1), .string ((rd_T49 y208 x38_2).f2), .slice A213_3 ((rd_T49 y208 x38_2).f3).length c213_3]] rfl (by (try simp only [List.map_toArray, List.map_cons, List.map_nil]); first | done | rfl | (simp only [List.length_drop, List.length_take]; rfl)) ?_; (with_reducible refine (flagstoneref13_Key.calls ((rd_T49 y208 x38_2).f0) ((rd_T49 y208 x38_2).f1) ((rd_T49 y208 x38_2).f2) _ _ ((rd_T49 y208 x38_2).f3) t217 t218 _ ?side1 ?side2 A27.out).mono ?_); (case side1 => repeat (first | exact (by repeat (first | (with_reducible exact HR213_3.out) | (with_reducible refine Kd.C_alloc ?_ _) | (with_reducible refine Kd.C_drewN ?_ _) | (with_reducible refine Kd.C_drew ?_) | exact HR213_3.out)) | (with_reducible refine Kd.C_alloc ?_ _) | (with_reducible refine Kd.C_drewN ?_ _) | (with_reducible refine Kd.C_drew ?_))); (case side2 => exact HC213_3.out); rintro e w47 ⟨rfl, hb⟩; refine ⟨_, rfl, ?_⟩; have n0_ := Aside0.mk (Kd.N_below (by (with_reducible repeat (first | apply Kd.N_alloc | apply Kd.N_drewN | apply Kd.N_drew)); exact HO_36.out) hb); have n1_ := Aside0.mk (Kd.V_below (by (with_reducible repeat (first | apply Kd.V_alloc | apply Kd.V_drewN | apply Kd.V_drew)); exact HO_197003.out) hb); have n2_ := Aside0.mk (Kd.V_below (by (with_reducible repeat (first | apply Kd.V_alloc | apply Kd.V_drewN | apply Kd.V_drew)); exact HL213_3.out) hb); have n3_ := Aside0.mk (blk_below (g := gb196) (o := .cells #[.int .i64 a2_0, .int .i64 a2_1, .string a2_2, .slice A2_3 l2_3.length c2_3] 49 (0, 0)) (by (with_reducible repeat (first | refine blk_drewN ?_ _ | refine blk_drew ?_ | refine blk_alloc ?_ _)); exact BK196.out) hb); have n4_ := Aside0.mk (Kd.C_below (by repeat (first | (with_reducible exact HR213_3.out) | (with_reducible refine Kd.C_alloc ?_ _) | (with_reducible refine Kd.C_drewN ?_ _) | (with_reducible refine Kd.C_drew ?_) | exact HR213_3.out)) hb); have n5_ := Aside0.mk (blk_below (g := gb214) (o := .cells #[.int .i64 ((rd_T49 y208 x38_2).f0), .int .i64 ((rd_T49 y208 x38_2).f1), .string ((rd_T49 y208 x38_2).f2), .slice A213_3 ((rd_T49 y208 x38_2).f3).length c213_3] 49 (0, 0)) (by (with_reducible repeat (first | refine blk_drewN ?_ _ | refine blk_drew ?_ | refine blk_alloc ?_ _)); exact BK214.out) hb); have n6_ := Aside0.mk (below_step (by repeat (first | (with_reducible first | exact HB.out | apply below_alloc | apply pw_below_drewN | apply below_drew1 | refine below_set ?_ GE196.out | refine below_set ?_ GE214.out) | exact HB.out)) hb); clear HO_36; clear HO_197003; clear HL213_3; clear BK196; clear HR213_3; clear BK214; clear HB; have HO_36 := n0_; have HO_197003 := n1_; have HL213_3 := n2_; have BK196 := n3_; have HR213_3 := n4_; have BK214 := n5_; have HB := n6_; clear n0_ n1_ n2_ n3_ n4_ n5_ n6_; (try clear hb); (try clear hb2); (try clear hk); (try clear hi); (try clear hge)))
                      go_ret
                      exact ⟨by first | rfl | (simp [errW_none, errW_some] <;> rfl) | (simp [*, errW_none, errW_some] <;> rfl), by repeat (first | (with_reducible first | exact HB.out | apply below_alloc | apply pw_below_drewN | apply below_drew1 | refine below_set ?_ GE196.out | refine below_set ?_ GE214.out) | exact HB.out)⟩
                  · rw [if_neg c25] at H
                    exact absurd H (by simp)
                · rw [if_neg c24] at H
                  exact absurd H (by simp)
              · rw [if_neg c23] at H
                have c23b0 : decide (x38_2 < (y208.length : Int)) = false := decide_eq_false c23
                clear c23
                replace H := Option.bind_eq_some_iff.mp H
                obtain ⟨t211, A480, H⟩ := H
                replace H : ((flagstoneref13_Of.f k2 a0 a1).bind fun t212 => (if t211 = t212 then (if t211 ≥ 0 then (some (decide (t211 < 10000))) else (some false)) else (some false))) = some r := H
                have A48 := Aside0.mk A480
                clear A480
                replace H := Option.bind_eq_some_iff.mp H
                obtain ⟨t212, A490, H⟩ := H
                replace H : (if t211 = t212 then (if t211 ≥ 0 then (some (decide (t211 < 10000))) else (some false)) else (some false)) = some r := H
                have A49 := Aside0.mk A490
                clear A490
                by_cases c50 : t211 = t212
                · rw [if_pos c50] at H
                  have c50b0 : (t211 == t212) = true := beq_iff_eq.mpr c50
                  have c50b1 : (t211 != t212) = false := bne_eq_false_iff_eq.mpr c50
                  clear c50
                  by_cases c51 : t211 ≥ 0
                  · rw [if_pos c51] at H
                    have c51b0 : decide (0 ≤ t211) = true := decide_eq_true c51
                    clear c51
                    obtain rfl := Option.some.inj H
                    go_wp2_with (first | ((with_reducible refine gate_callee (f := 30) rfl ?_); refine goesL_ (some 63) rfl rfl Tryd.func30 (by kernel_rfl) rfl #[.string a0, .string a1] rfl (by (try simp only [List.map_toArray, List.map_cons, List.map_nil]); first | done | rfl | (simp only [List.length_drop, List.length_take]; rfl)) ?_; (with_reducible refine (bucket_Of.calls k2 a0 a1 t211 _ A48.out).mono ?_); rintro e w52 ⟨rfl, hb⟩; refine ⟨_, rfl, ?_⟩; have n0_ := Aside0.mk (Kd.N_below (by (with_reducible repeat (first | apply Kd.N_alloc | apply Kd.N_drewN | apply Kd.N_drew)); exact HO_36.out) hb); have n1_ := Aside0.mk (Kd.V_below (by (with_reducible repeat (first | apply Kd.V_alloc | apply Kd.V_drewN | apply Kd.V_drew)); exact HO_197003.out) hb); have n2_ := Aside0.mk (blk_below (g := gb196) (o := .cells #[.int .i64 a2_0, .int .i64 a2_1, .string a2_2, .slice A2_3 l2_3.length c2_3] 49 (0, 0)) (by (with_reducible repeat (first | refine blk_drewN ?_ _ | refine blk_drew ?_ | refine blk_alloc ?_ _)); exact BK196.out) hb); have n3_ := Aside0.mk (below_step (by repeat (first | (with_reducible first | exact HB.out | apply below_alloc | apply pw_below_drewN | apply below_drew1 | refine below_set ?_ GE196.out) | exact HB.out)) hb); clear HO_36; clear HO_197003; clear BK196; clear HB; have HO_36 := n0_; have HO_197003 := n1_; have BK196 := n2_; have HB := n3_; clear n0_ n1_ n2_ n3_; (try clear hb); (try clear hb2); (try clear hk); (try clear hi); (try clear hge)) | ((with_reducible refine gate_callee (f := 31) rfl ?_); refine goesL_ (some 67) rfl rfl Tryd.func31 (by kernel_rfl) rfl #[.string a0, .string a1] rfl (by (try simp only [List.map_toArray, List.map_cons, List.map_nil]); first | done | rfl | (simp only [List.length_drop, List.length_take]; rfl)) ?_; (with_reducible refine (flagstoneref13_Of.calls k2 a0 a1 t212 _ A49.out).mono ?_); rintro e w53 ⟨rfl, hb⟩; refine ⟨_, rfl, ?_⟩; have n0_ := Aside0.mk (Kd.N_below (by (with_reducible repeat (first | apply Kd.N_alloc | apply Kd.N_drewN | apply Kd.N_drew)); exact HO_36.out) hb); have n1_ := Aside0.mk (Kd.V_below (by (with_reducible repeat (first | apply Kd.V_alloc | apply Kd.V_drewN | apply Kd.V_drew)); exact HO_197003.out) hb); have n2_ := Aside0.mk (blk_below (g := gb196) (o := .cells #[.int .i64 a2_0, .int .i64 a2_1, .string a2_2, .slice A2_3 l2_3.length c2_3] 49 (0, 0)) (by (with_reducible repeat (first | refine blk_drewN ?_ _ | refine blk_drew ?_ | refine blk_alloc ?_ _)); exact BK196.out) hb); have n3_ := Aside0.mk (below_step (by repeat (first | (with_reducible first | exact HB.out | apply below_alloc | apply pw_below_drewN | apply below_drew1 | refine below_set ?_ GE196.out) | exact HB.out)) hb); clear HO_36; clear HO_197003; clear BK196; clear HB; have HO_36 := n0_; have HO_197003 := n1_; have BK196 := n2_; have HB := n3_; clear n0_ n1_ n2_ n3_; (try clear hb); (try clear hb2); (try clear hk); (try clear hi); (try clear hge)))
                    go_ret
                    exact ⟨by first | rfl | (simp [errW_none, errW_some] <;> rfl) | (simp [*, errW_none, errW_some] <;> rfl), by repeat (first | (with_reducible first | exact HB.out | apply below_alloc | apply pw_below_drewN | apply below_drew1 | refine below_set ?_ GE196.out) | exact HB.out)⟩
                  · rw [if_neg c51] at H
                    have c51b0 : decide (0 ≤ t211) = false := decide_eq_false c51
                    clear c51
                    obtain rfl := Option.some.inj H
                    go_wp2_with (first | ((with_reducible refine gate_callee (f := 30) rfl ?_); refine goesL_ (some 63) rfl rfl Tryd.func30 (by kernel_rfl) rfl #[.string a0, .string a1] rfl (by (try simp only [List.map_toArray, List.map_cons, List.map_nil]); first | done | rfl | (simp only [List.length_drop, List.length_take]; rfl)) ?_; (with_reducible refine (bucket_Of.calls k2 a0 a1 t211 _ A48.out).mono ?_); rintro e w54 ⟨rfl, hb⟩; refine ⟨_, rfl, ?_⟩; have n0_ := Aside0.mk (Kd.N_below (by (with_reducible repeat (first | apply Kd.N_alloc | apply Kd.N_drewN | apply Kd.N_drew)); exact HO_36.out) hb); have n1_ := Aside0.mk (Kd.V_below (by (with_reducible repeat (first | apply Kd.V_alloc | apply Kd.V_drewN | apply Kd.V_drew)); exact HO_197003.out) hb); have n2_ := Aside0.mk (blk_below (g := gb196) (o := .cells #[.int .i64 a2_0, .int .i64 a2_1, .string a2_2, .slice A2_3 l2_3.length c2_3] 49 (0, 0)) (by (with_reducible repeat (first | refine blk_drewN ?_ _ | refine blk_drew ?_ | refine blk_alloc ?_ _)); exact BK196.out) hb); have n3_ := Aside0.mk (below_step (by repeat (first | (with_reducible first | exact HB.out | apply below_alloc | apply pw_below_drewN | apply below_drew1 | refine below_set ?_ GE196.out) | exact HB.out)) hb); clear HO_36; clear HO_197003; clear BK196; clear HB; have HO_36 := n0_; have HO_197003 := n1_; have BK196 := n2_; have HB := n3_; clear n0_ n1_ n2_ n3_; (try clear hb); (try clear hb2); (try clear hk); (try clear hi); (try clear hge)) | ((with_reducible refine gate_callee (f := 31) rfl ?_); refine goesL_ (some 67) rfl rfl Tryd.func31 (by kernel_rfl) rfl #[.string a0, .string a1] rfl (by (try simp only [List.map_toArray, List.map_cons, List.map_nil]); first | done | rfl | (simp only [List.length_drop, List.length_take]; rfl)) ?_; (with_reducible refine (flagstoneref13_Of.calls k2 a0 a1 t212 _ A49.out).mono ?_); rintro e w55 ⟨rfl, hb⟩; refine ⟨_, rfl, ?_⟩; have n0_ := Aside0.mk (Kd.N_below (by (with_reducible repeat (first | apply Kd.N_alloc | apply Kd.N_drewN | apply Kd.N_drew)); exact HO_36.out) hb); have n1_ := Aside0.mk (Kd.V_below (by (with_reducible repeat (first | apply Kd.V_alloc | apply Kd.V_drewN | apply Kd.V_drew)); exact HO_197003.out) hb); have n2_ := Aside0.mk (blk_below (g := gb196) (o := .cells #[.int .i64 a2_0, .int .i64 a2_1, .string a2_2, .slice A2_3 l2_3.length c2_3] 49 (0, 0)) (by (with_reducible repeat (first | refine blk_drewN ?_ _ | refine blk_drew ?_ | refine blk_alloc ?_ _)); exact BK196.out) hb); have n3_ := Aside0.mk (below_step (by repeat (first | (with_reducible first | exact HB.out | apply below_alloc | apply pw_below_drewN | apply below_drew1 | refine below_set ?_ GE196.out) | exact HB.out)) hb); clear HO_36; clear HO_197003; clear BK196; clear HB; have HO_36 := n0_; have HO_197003 := n1_; have BK196 := n2_; have HB := n3_; clear n0_ n1_ n2_ n3_; (try clear hb); (try clear hb2); (try clear hk); (try clear hi); (try clear hge)))
                    go_ret
                    exact ⟨by first | rfl | (simp [errW_none, errW_some] <;> rfl) | (simp [*, errW_none, errW_some] <;> rfl), by repeat (first | (with_reducible first | exact HB.out | apply below_alloc | apply pw_below_drewN | apply below_drew1 | refine below_set ?_ GE196.out) | exact HB.out)⟩
                · rw [if_neg c50] at H
                  have c50b0 : (t211 == t212) = false := beq_eq_false_iff_ne.mpr c50
                  have c50b1 : (t211 != t212) = true := bne_iff_ne.mpr c50
                  obtain rfl := Option.some.inj H
                  go_wp2_with (first | ((with_reducible refine gate_callee (f := 30) rfl ?_); refine goesL_ (some 63) rfl rfl Tryd.func30 (by kernel_rfl) rfl #[.string a0, .string a1] rfl (by (try simp only [List.map_toArray, List.map_cons, List.map_nil]); first | done | rfl | (simp only [List.length_drop, List.length_take]; rfl)) ?_; (with_reducible refine (bucket_Of.calls k2 a0 a1 t211 _ A48.out).mono ?_); rintro e w56 ⟨rfl, hb⟩; refine ⟨_, rfl, ?_⟩; have n0_ := Aside0.mk (Kd.N_below (by (with_reducible repeat (first | apply Kd.N_alloc | apply Kd.N_drewN | apply Kd.N_drew)); exact HO_36.out) hb); have n1_ := Aside0.mk (Kd.V_below (by (with_reducible repeat (first | apply Kd.V_alloc | apply Kd.V_drewN | apply Kd.V_drew)); exact HO_197003.out) hb); have n2_ := Aside0.mk (blk_below (g := gb196) (o := .cells #[.int .i64 a2_0, .int .i64 a2_1, .string a2_2, .slice A2_3 l2_3.length c2_3] 49 (0, 0)) (by (with_reducible repeat (first | refine blk_drewN ?_ _ | refine blk_drew ?_ | refine blk_alloc ?_ _)); exact BK196.out) hb); have n3_ := Aside0.mk (below_step (by repeat (first | (with_reducible first | exact HB.out | apply below_alloc | apply pw_below_drewN | apply below_drew1 | refine below_set ?_ GE196.out) | exact HB.out)) hb); clear HO_36; clear HO_197003; clear BK196; clear HB; have HO_36 := n0_; have HO_197003 := n1_; have BK196 := n2_; have HB := n3_; clear n0_ n1_ n2_ n3_; (try clear hb); (try clear hb2); (try clear hk); (try clear hi); (try clear hge)) | ((with_reducible refine gate_callee (f := 31) rfl ?_); refine goesL_ (some 67) rfl rfl Tryd.func31 (by kernel_rfl) rfl #[.string a0, .string a1] rfl (by (try simp only [List.map_toArray, List.map_cons, List.map_nil]); first | done | rfl | (simp only [List.length_drop, List.length_take]; rfl)) ?_; (with_reducible refine (flagstoneref13_Of.calls k2 a0 a1 t212 _ A49.out).mono ?_); rintro e w57 ⟨rfl, hb⟩; refine ⟨_, rfl, ?_⟩; have n0_ := Aside0.mk (Kd.N_below (by (with_reducible repeat (first | apply Kd.N_alloc | apply Kd.N_drewN | apply Kd.N_drew)); exact HO_36.out) hb); have n1_ := Aside0.mk (Kd.V_below (by (with_reducible repeat (first | apply Kd.V_alloc | apply Kd.V_drewN | apply Kd.V_drew)); exact HO_197003.out) hb); have n2_ := Aside0.mk (blk_below (g := gb196) (o := .cells #[.int .i64 a2_0, .int .i64 a2_1, .string a2_2, .slice A2_3 l2_3.length c2_3] 49 (0, 0)) (by (with_reducible repeat (first | refine blk_drewN ?_ _ | refine blk_drew ?_ | refine blk_alloc ?_ _)); exact BK196.out) hb); have n3_ := Aside0.mk (below_step (by repeat (first | (with_reducible first | exact HB.out | apply below_alloc | apply pw_below_drewN | apply below_drew1 | refine below_set ?_ GE196.out) | exact HB.out)) hb); clear HO_36; clear HO_197003; clear BK196; clear HB; have HO_36 := n0_; have HO_197003 := n1_; have BK196 := n2_; have HB := n3_; clear n0_ n1_ n2_ n3_; (try clear hb); (try clear hb2); (try clear hk); (try clear hi); (try clear hge)))
                  go_ret
                  exact ⟨by first | rfl | (simp [errW_none, errW_some] <;> rfl) | (simp [*, errW_none, errW_some] <;> rfl), by repeat (first | (with_reducible first | exact HB.out | apply below_alloc | apply pw_below_drewN | apply below_drew1 | refine below_set ?_ GE196.out) | exact HB.out)⟩
  · replace c6 := Bool.eq_false_iff.mpr c6
    subst c6
    have H1 : (some false) = some r := by rw [if_neg (show ¬ (false = true) by decide)] at H; exact H
    clear H
    have H := H1
    clear H1
    obtain rfl := Option.some.inj H
    go_enter Tryd.func8, Tryd.ntmps8
    go_wp2_with (first | ((with_reducible refine gate_dst (N := 6) rfl ?_); (try (refine gate_guard (by rfl) ?_; dsimp only)); refine box_event ?hg (N := 6) ?hd (cs := #[.int .i64 a2_0, .int .i64 a2_1, .string a2_2, .slice A2_3 l2_3.length c2_3]) (t := 49) ?hr ?_; (case hd => rfl); (case hg => rfl); (case hr => first | (go_simp; done) | (go_simp; rfl)); intro gb196 hg w58 hbox hb; have n0_ := Aside0.mk (Kd.V_below (Kd.V_elderB (by (with_reducible repeat (first | apply Kd.V_alloc | apply Kd.V_drewN | apply Kd.V_drew)); exact HO2_3.out) gb196 (Nat.le_of_eq hg.symm)) hb); have n1_ := Aside0.mk (below_step (by repeat (first | (with_reducible first | exact HB.out | apply below_alloc | apply pw_below_drewN | apply below_drew1) | exact HB.out)) hb); have n2_ := Aside0.mk (hbox); have n3_ := Aside0.mk ((by rw [hg]; exact (below_size (by repeat (first | (with_reducible first | exact HB.out | apply below_alloc | apply pw_below_drewN | apply below_drew1) | exact HB.out))) : w.heap.size ≤ gb196)); have n4_ := Aside0.mk ((by rw [hg]; exact (below_size (by repeat (first | (with_reducible first | exact HB.out | apply below_alloc | apply pw_below_drewN | apply below_drew1) | exact HB.out))) : w.heap.size ≤ gb196)); clear HO2_3; clear HB; have HO2_3 := n0_; have HB := n1_; have BK196 := n2_; have GW196 := n3_; have GE196 := n4_; clear n0_ n1_ n2_ n3_ n4_; clear hb hbox hg) | ((with_reducible refine gate_callee (f := 10) rfl ?_); refine goesL_ (some 16) rfl rfl Tryd.func10 (by kernel_rfl) rfl #[] rfl (by (try simp only [List.map_toArray, List.map_cons, List.map_nil]); first | done | rfl | (simp only [List.length_drop, List.length_take]; rfl)) ?_; (with_reducible refine (flagstonelaw13_awake.calls  false _ ?side1 A5.out).mono ?_); (case side1 => exact GL.below HGL.out (by repeat (first | (with_reducible first | exact HB.out | apply below_alloc | apply pw_below_drewN | apply below_drew1 | refine below_set ?_ GE196.out) | exact HB.out))); rintro e w59 ⟨rfl, hb⟩; refine ⟨_, rfl, ?_⟩; have n0_ := Aside0.mk (Kd.V_below (by (with_reducible repeat (first | apply Kd.V_alloc | apply Kd.V_drewN | apply Kd.V_drew)); exact HO2_3.out) hb); have n1_ := Aside0.mk (blk_below (g := gb196) (o := .cells #[.int .i64 a2_0, .int .i64 a2_1, .string a2_2, .slice A2_3 l2_3.length c2_3] 49 (0, 0)) (by (with_reducible repeat (first | refine blk_drewN ?_ _ | refine blk_drew ?_ | refine blk_alloc ?_ _)); exact BK196.out) hb); have n2_ := Aside0.mk (below_step (by repeat (first | (with_reducible first | exact HB.out | apply below_alloc | apply pw_below_drewN | apply below_drew1 | refine below_set ?_ GE196.out) | exact HB.out)) hb); clear HO2_3; clear BK196; clear HB; have HO2_3 := n0_; have BK196 := n1_; have HB := n2_; clear n0_ n1_ n2_; (try clear hb); (try clear hb2); (try clear hk); (try clear hi); (try clear hge)))
    go_ret
    exact ⟨by first | rfl | (simp [errW_none, errW_some] <;> rfl) | (simp [*, errW_none, errW_some] <;> rfl), by repeat (first | (with_reducible first | exact HB.out | apply below_alloc | apply pw_below_drewN | apply below_drew1 | refine below_set ?_ GE196.out) | exact HB.out)⟩

end Go.Proofs.YtefglphdiimhnaaDoor.Q
