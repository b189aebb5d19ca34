import Derived.Test.YtefglphdiimhnaaDoorQ
import Derived.Test.YtefglphdiimhnaaDoorRB
import Derived.Test.YtefglphdiimhnaaDoorPV2
import Derived.Test.YtefglphdiimhnaaDoorPS
import Derived.Test.YtefglphdiimhnaaDoorSame
import Derived.Test.YtefglphdiimhnaaDoorFar
set_option linter.unusedVariables false
set_option linter.unusedSimpArgs false
namespace Go.Proofs.YtefglphdiimhnaaDoor.Q
open Go Go.RowKit Go.Proofs.YtefglphdiimhnaaDoor.Plain Go.Proofs.YtefglphdiimhnaaDoorW.PrintWords Go.Proofs.YtefglphdiimhnaaDoorW.PrintLast Go.Proofs.YtefglphdiimhnaaDoorW.PrintMore
set_option maxHeartbeats 8000000 in
set_option maxRecDepth 100000 in
theorem reweighs_law (A0 : Option Addr) (c0 : Nat) (l0 : List S69) (A1 : Option Addr) (c1 : Nat) (l1 : List Int) (A2 : Option Addr) (c2 : Nat) (l2 : List Int) (w : World) (hr0 : Kd.C k69 w A0 l0.length l0) (hc0 : l0.length ≤ c0) (hr1 : Kd.C (Kd.int .i64) w A1 l1.length l1) (hc1 : l1.length ≤ c1) (hr2 : Kd.C (Kd.int .u8) w A2 l2.length l2) (hc2 : l2.length ≤ c2) (hl2 : ∀ x ∈ l2, 0 ≤ x ∧ x < 256) (hGL : GL w) :
    Calls Tryd.prog 3 #[.slice A0 l0.length c0, .slice A1 l1.length c1, .slice A2 l2.length c2] w fun e w' => e = .returned (.bool true) ∧ Below w.heap.size w w' := by
  have HR0 := Aside0.mk hr0
  have HC0 := Aside0.mk hc0
  have HR1 := Aside0.mk hr1
  have HC1 := Aside0.mk hc1
  have HR2 := Aside0.mk hr2
  have HC2 := Aside0.mk hc2
  have HGL := Aside0.mk hGL
  clear hr0 hc0 hr1 hc1 hr2 hc2 hGL
  obtain ⟨K, hK⟩ : ∃ K : Nat, K = 400000 := ⟨_, rfl⟩
  obtain ⟨bs, e0, cv0⟩ := new_okm 60 (by omega) (by omega) hl2
  obtain ⟨v, p1, e1, v0, v9, cv1⟩ := next_ok cv0 (n := 8) (by omega)
  obtain ⟨N, hN⟩ : ∃ N : Int, N = 1 + v := ⟨_, rfl⟩
  have hn : wrap64 (1 + v) = N := by rw [hN]; exact w64 (by omega) (by omega)
  obtain ⟨L, p2, e2, sL, lL, cv2⟩ := split_ok (k := K) (by omega) cv1 (n := N) (by omega) (by omega)
  have HWt := Aside0.mk (show ∀ p, CV bs p → ∃ W p', flagstonelaw13_weights.f K bs p N = some (W, p') ∧ okW N W ∧ CV bs p' from fun p hp => weights2_ok (by omega) hp (by omega) (by omega))
  have HRW := Aside0.mk (show ∀ (L : List S69) (W : List Int), ∃ R e, bucket_Reweigh.f K L W = some (R, e) ∧ flagstoneref13_Reweigh.f K L W = some (R, e) ∧ R.length ≤ 16 from fun L W => reweigh_both (by omega))
  have HSM := Aside0.mk (show ∀ a : List S69, a.length ≤ 16 → flagstoneref6_SameRanges.f K a a = some true from fun a h => same_any (by omega) (by omega))
  obtain ⟨W1, p3, e3, -, cv3⟩ := HWt.out p2 cv2
  have HB := Aside0.mk (Below.refl w.heap.size w)
  have E0 := Aside0.mk e0
  have E1 := Aside0.mk e1
  have E2 := Aside0.mk e2
  have E3 := Aside0.mk e3
  have HCV := Aside0.mk cv3
  have hNN := Aside0.mk hn
  clear e0 e1 e2 e3 cv0 cv1 cv2 cv3 sL hN hl2 v0 v9 hK lL hn
  go_enter Tryd.func3, Tryd.ntmps3
  go_wp2_with fail
  refine (flagstonelaw13_awake.calls true _ HGL.out rfl).mono ?_
  rintro e w1 ⟨rfl, hb1⟩
  have HB1 := Aside0.mk (below_step HB.out hb1)
  clear HB hb1
  by_cases hlong : (l0.length : Int) > 30
  · have hl1b := decide_eq_true hlong
    go_wp2_with fail
    go_ret
    exact ⟨rfl, HB1.out⟩
  have hl1b := decide_eq_false hlong
  clear hlong
  by_cases hlong : (l1.length : Int) > 20
  · have hl2b := decide_eq_true hlong
    go_wp2_with fail
    go_ret
    exact ⟨rfl, HB1.out⟩
  have hl2b := decide_eq_false hlong
  clear hlong
  go_wp2_with fail
  refine (flagstonedraw_New.calls A2 c2 l2 60 bs 0 w _ HB1.out HR2.out HC2.out E0.out).mono ?_
  rintro e w2 ⟨g, rfl, hi2, hb2, -⟩
  have HI2 := Aside0.mk hi2
  have HB2 := Aside0.mk hb2
  clear hi2 hb2 HB1
  go_wp2_with fail
  refine (flagstonedraw_Codes_Next.calls g bs 0 8 v p1 w _ HI2.out HB2.out E1.out).mono ?_
  rintro e w3 ⟨rfl, hi3, hb3, -⟩
  have HI3 := Aside0.mk hi3
  have HB3 := Aside0.mk hb3
  clear hi3 hb3 HI2 HB2
  go_wp2_with fail
  rw [hNN.out]
  refine (flagstonedraw_Codes_Split.calls K g bs p1 N L p2 w _ HI3.out HB3.out E2.out).mono ?_
  rintro e w4 ⟨v1, rfl, ho4, hi4, hb4, hk4⟩
  have HX4 := Aside0.mk (Far.of ho4 HI3.out.lt)
  have HI4 := Aside0.mk hi4
  have HB4 := Aside0.mk hb4
  obtain ⟨A4, c4, rfl⟩ := Kd.R_slice ho4
  clear ho4 hi4 hb4 hk4 HI3 HB3
  go_wp2_with fail
  refine (flagstonelaw13_weights.calls K g bs p2 N W1 p3 w _ HI4.out HB4.out E3.out).mono ?_
  rintro e w5 ⟨v5, rfl, ho5, hi5, hb5, hk5⟩
  have HW5 := Aside0.mk (Far.of ho5 HI4.out.lt)
  have HX5 := Aside0.mk (HX4.out.keep hk5)
  have HI5 := Aside0.mk hi5
  have HB5 := Aside0.mk hb5
  obtain ⟨A5, c5, rfl⟩ := Kd.R_slice ho5
  clear ho5 hi5 hb5 hk5 HI4 HB4 HX4
  go_wp2_with fail
  go_loopw [9, 10, 11] (fun x y t wr => ∃ (q : Nat) (X : List S69) (A : Option Addr) (c : Nat) (W : List Int) (A' : Option Addr) (c' : Nat) (p : Int), t = .int .i64 (q : Int) ∧ x = .slice A X.length c ∧ y = .slice A' W.length c' ∧ q ≤ 3 ∧ Aside0 (Far k69 69 wr g (.slice A X.length c) X) ∧ Aside0 (Far (Kd.int .i64) 3 wr g (.slice A' W.length c') W) ∧ Aside0 (IsS71 w wr g bs p) ∧ Aside0 (CV bs p) ∧ Aside0 (Below w.heap.size w wr)) (fun _ _ t _ => 3 - (intOf t).toNat)
  case atStart => exact ⟨0, L, A4, c4, W1, A5, c5, p3, rfl, rfl, rfl, by omega, HX5, HW5, HI5, HCV, HB5⟩
  case round =>
    obtain ⟨q, X, A, c, W, A', c', p, rfl, rfl, rfl, hq, HX, HW, HI, HCp, HBr⟩ := hrel
    have HXr := Aside0.mk (Kd.R_reads' HX.out)
    have HWr := Aside0.mk (Kd.R_reads' HW.out)
    by_cases hlt : q < 3
    · have hd : decide ((q : Int) < 3) = true := decide_eq_true (by omega)
      obtain ⟨R, er, f1, f2, f3⟩ := HRW.out X W
      obtain ⟨W2, p6, f4, -, f5⟩ := HWt.out p HCp.out
      have F1 := Aside0.mk f1
      have F2 := Aside0.mk f2
      have F3 := Aside0.mk (HSM.out R f3)
      have F4 := Aside0.mk f4
      have F5 := Aside0.mk f5
      clear f1 f2 f3 f4 f5
      go_wp2_with fail
      refine (bucket_Reweigh.calls K A c X A' c' W R er _ HXr.out.2.2 HXr.out.2.1 HWr.out.2.2 HWr.out.2.1 F1.out).mono ?_
      rintro e w6 ⟨v6, rfl, ho6, hb6⟩
      have HO6 := Aside0.mk (Far.of ho6 HI.out.lt)
      obtain ⟨A6, c6, rfl⟩ := Kd.R_slice ho6
      have HX6 := Aside0.mk (HX.out.below hb6)
      have HW6 := Aside0.mk (HW.out.below hb6)
      have HI6 := Aside0.mk (HI.out.below hb6)
      have HB6 := Aside0.mk (below_step HBr.out hb6)
      have HX6r := Aside0.mk (Kd.R_reads' HX6.out)
      have HW6r := Aside0.mk (Kd.R_reads' HW6.out)
      clear ho6 hb6 HX HW HI HXr HWr HBr
      go_wp2_with fail
      refine (flagstoneref13_Reweigh.calls K A c X A' c' W R er _ HX6r.out.2.2 HX6r.out.2.1 HW6r.out.2.2 HW6r.out.2.1 F2.out).mono ?_
      rintro e w7 ⟨v7, rfl, ho7, hb7⟩
      obtain ⟨A7, c7, rfl⟩ := Kd.R_slice ho7
      have HP7 := Aside0.mk (Kd.R_reads' ho7)
      have HO7 := Aside0.mk (HO6.out.below hb7)
      have HX7 := Aside0.mk (HX6.out.below hb7)
      have HI7 := Aside0.mk (HI6.out.below hb7)
      have HB7 := Aside0.mk (below_step HB6.out hb7)
      have HO7r := Aside0.mk (Kd.R_reads' HO7.out)
      clear ho7 hb7 HX6 HW6 HI6 HX6r HW6r HB6 HO6
      have hee : (er != er) = false := by simp
      go_wp2_with fail
      refine (flagstoneref6_SameRanges.calls K A6 c6 R A7 c7 R true _ HO7r.out.2.2 HO7r.out.2.1 HP7.out.2.2 HP7.out.2.1 F3.out).mono ?_
      rintro e w8 ⟨rfl, hb8⟩
      have HO8 := Aside0.mk (HO7.out.below hb8.below)
      have HX8 := Aside0.mk (HX7.out.below hb8.below)
      have HI8 := Aside0.mk (HI7.out.below hb8.below)
      have HB8 := Aside0.mk (below_step HB7.out hb8.below)
      clear hb8 HO7 HX7 HI7 HB7 HP7 HO7r
      by_cases hz : er = 0
      · have hz1 : (er == 0) = true := by rw [hz]; rfl
        clear hz
        go_wp2_with fail
        refine (flagstonelaw13_weights.calls K g bs p N W2 p6 w _ HI8.out HB8.out F4.out).mono ?_
        rintro e w9 ⟨v9, rfl, ho9, hi9, hb9, hk9⟩
        have HW9 := Aside0.mk (Far.of ho9 HI8.out.lt)
        have HO9 := Aside0.mk (HO8.out.keep hk9)
        have HI9 := Aside0.mk hi9
        have HB9 := Aside0.mk hb9
        obtain ⟨A9, c9, rfl⟩ := Kd.R_slice ho9
        clear ho9 hi9 hb9 hk9 HO8 HX8 HI8 HB8
        go_wp2_with fail
        go_roundw
        case measure => simp [intOf]; omega
        case rel => exact ⟨q + 1, R, A6, c6, W2, A9, c9, p6, by go_num, rfl, rfl, by omega, HO9, HW9, HI9, F5, HB9⟩
      · have hz1 : (er == 0) = false := beq_eq_false_iff_ne.mpr hz
        clear hz
        go_wp2_with fail
        refine (flagstonelaw13_weights.calls K g bs p N W2 p6 w _ HI8.out HB8.out F4.out).mono ?_
        rintro e w9 ⟨v9, rfl, ho9, hi9, hb9, hk9⟩
        have HW9 := Aside0.mk (Far.of ho9 HI8.out.lt)
        have HX9 := Aside0.mk (HX8.out.keep hk9)
        have HI9 := Aside0.mk hi9
        have HB9 := Aside0.mk hb9
        obtain ⟨A9, c9, rfl⟩ := Kd.R_slice ho9
        clear ho9 hi9 hb9 hk9 HO8 HX8 HI8 HB8
        go_wp2_with fail
        go_roundw
        case measure => simp [intOf]; omega
        case rel => exact ⟨q + 1, X, A, c, W2, A9, c9, p6, by go_num, rfl, rfl, by omega, HX9, HW9, HI9, F5, HB9⟩
    · have e2 : q = 3 := by omega
      subst e2
      clear HX5 HW5 HI5 HCV HB5 E0 E1 E2 E3 HX HW HI HCp
      go_wp2_with fail
      obtain ⟨o, ho⟩ : ∃ o, o = Obj.cells #[Value.slice A0 l0.length c0, Value.slice A X.length c] 22 := ⟨_, rfl⟩
      have HXb := Aside0.mk (show (wr.alloc o).heap[wr.heap.size]? = some (.cells #[Value.slice A0 l0.length c0, Value.slice A X.length c] 22 (0, 0)) by rw [heap_alloc_new, ho])
      have HX1 := Aside0.mk (Kd.C_alloc HXr.out.2.2 o)
      have HW1 := Aside0.mk (Kd.C_alloc HWr.out.2.2 o)
      have HB1 := Aside0.mk (below_alloc HBr.out o)
      have HR0' := Aside0.mk (Kd.C_below HR0.out HB1.out)
      have HR1' := Aside0.mk (Kd.C_below HR1.out HB1.out)
      have HXl := Aside0.mk HXr.out.2.1
      have HWl := Aside0.mk HWr.out.2.1
      have HXs := Aside0.mk (show wr.heap.size < (wr.alloc o).heap.size by rw [World.size_alloc]; omega)
      rw [← ho]
      clear ho HXr HWr HBr hq hlt
      generalize wr.heap.size = Xb at HXb HXs ⊢
      generalize wr.alloc o = wa at HXb HX1 HW1 HB1 HR0' HR1' HXs ⊢
      go_loopw [80] (fun v wr => ∃ q : Nat, v = .int .i64 (q : Int) ∧ q ≤ 2 ∧ Aside0 (Below wa.heap.size wa wr)) (fun v _ => 2 - (intOf v).toNat)
      case atStart => exact ⟨0, rfl, by omega, ⟨Below.refl _ _⟩⟩
      case round =>
        obtain ⟨q, rfl, hq, HB⟩ := hrel
        by_cases hlt : q < 2
        · obtain ⟨xs, Ax, cx, hcell, hC, hcl⟩ : ∃ (xs : List S69) (Ax : Option Addr) (cx : Nat), wr.cell? ⟨Xb, q, none⟩ = some (.slice Ax xs.length cx) ∧ Aside0 (Kd.C k69 wr Ax xs.length xs) ∧ Aside0 (xs.length ≤ cx) := by
            have hblk : wr.heap[Xb]? = some (.cells #[Value.slice A0 l0.length c0, Value.slice A X.length c] 22 (0, 0)) := (HB.out.block Xb HXs.out).trans HXb.out
            rcases q with _ | _ | q
            · exact ⟨l0, A0, c0, by rw [blk_cell hblk]; rfl, ⟨Kd.C_below HR0'.out HB.out⟩, HC0⟩
            · exact ⟨X, A, c, by rw [blk_cell hblk]; rfl, ⟨Kd.C_below HX1.out HB.out⟩, HXl⟩
            · omega
          have hd : decide ((q : Int) < 2) = true := decide_eq_true (by omega)
          have HR1w := Aside0.mk (Kd.C_below HR1'.out HB.out)
          have HW1w := Aside0.mk (Kd.C_below HW1.out HB.out)
          go_wp2_with fail
          obtain ⟨o, ho⟩ : ∃ o, o = Obj.cells #[Value.slice A1 l1.length c1, Value.slice A' W.length c'] 23 := ⟨_, rfl⟩
          have HYb := Aside0.mk (show (wr.alloc o).heap[wr.heap.size]? = some (.cells #[Value.slice A1 l1.length c1, Value.slice A' W.length c'] 23 (0, 0)) by rw [heap_alloc_new, ho])
          have HC7 := Aside0.mk (Kd.C_alloc hC.out o)
          have HR7 := Aside0.mk (Kd.C_alloc HR1w.out o)
          have HW7 := Aside0.mk (Kd.C_alloc HW1w.out o)
          have HB7 := Aside0.mk (show Below wa.heap.size wa (wr.alloc o) from below_alloc HB.out o)
          have HYs := Aside0.mk (show wr.heap.size < (wr.alloc o).heap.size by rw [World.size_alloc]; omega)
          rw [← ho]
          clear ho hC HR1w HW1w HB hcell
          generalize wr.heap.size = Yb at HYb HYs ⊢
          generalize wr.alloc o = wc at HYb HC7 HR7 HW7 HB7 HYs ⊢
          go_loopw [88] (fun v wr => ∃ q : Nat, v = .int .i64 (q : Int) ∧ q ≤ 2 ∧ Aside0 (Below wc.heap.size wc wr)) (fun v _ => 2 - (intOf v).toNat)
          case atStart => exact ⟨0, rfl, by omega, ⟨Below.refl _ _⟩⟩
          case round =>
            obtain ⟨q2, rfl, hq2, HB⟩ := hrel
            by_cases hlt2 : q2 < 2
            · obtain ⟨ys, Ay, cy, hcell, hD, hdl⟩ : ∃ (ys : List Int) (Ay : Option Addr) (cy : Nat), wr.cell? ⟨Yb, q2, none⟩ = some (.slice Ay ys.length cy) ∧ Aside0 (Kd.C (Kd.int .i64) wr Ay ys.length ys) ∧ Aside0 (ys.length ≤ cy) := by
                have hblk : wr.heap[Yb]? = some (.cells #[Value.slice A1 l1.length c1, Value.slice A' W.length c'] 23 (0, 0)) := (HB.out.block Yb HYs.out).trans HYb.out
                rcases q2 with _ | _ | q2
                · exact ⟨l1, A1, c1, by rw [blk_cell hblk]; rfl, ⟨Kd.C_below HR7.out HB.out⟩, HC1⟩
                · exact ⟨W, A', c', by rw [blk_cell hblk]; rfl, ⟨Kd.C_below HW7.out HB.out⟩, HWl⟩
                · omega
              have hd2 : decide ((q2 : Int) < 2) = true := decide_eq_true (by omega)
              have HC8 := Aside0.mk (Kd.C_below HC7.out HB.out)
              obtain ⟨R, er, f1, f2, f3⟩ := HRW.out xs ys
              have F1 := Aside0.mk f1
              have F2 := Aside0.mk f2
              have F3 := Aside0.mk (HSM.out R f3)
              clear f1 f2 f3
              go_wp2_with fail
              refine (bucket_Reweigh.calls K Ax cx xs Ay cy ys R er _ HC8.out hcl.out hD.out hdl.out F1.out).mono ?_
              rintro e w6 ⟨v6, rfl, ho6, hb6⟩
              obtain ⟨A6, c6, rfl⟩ := Kd.R_slice ho6
              have HO6 := Aside0.mk (Kd.R_reads' ho6)
              have HC9 := Aside0.mk (Kd.C_below HC8.out hb6)
              have HD9 := Aside0.mk (Kd.C_below hD.out hb6)
              have HB9 := Aside0.mk (below_step HB.out hb6)
              clear ho6 hb6 HC8 hD HB
              go_wp2_with fail
              refine (flagstoneref13_Reweigh.calls K Ax cx xs Ay cy ys R er _ HC9.out hcl.out HD9.out hdl.out F2.out).mono ?_
              rintro e w7 ⟨v7, rfl, ho7, hb7⟩
              obtain ⟨A7, c7, rfl⟩ := Kd.R_slice ho7
              have HO7 := Aside0.mk (Kd.R_reads' ho7)
              have HO6b := Aside0.mk (Kd.C_below HO6.out.2.2 hb7)
              have HB10 := Aside0.mk (below_step HB9.out hb7)
              clear ho7 hb7 HC9 HD9 HB9
              have hee : (er != er) = false := by simp
              go_wp2_with fail
              refine (flagstoneref6_SameRanges.calls K A6 c6 R A7 c7 R true _ HO6b.out HO6.out.2.1 HO7.out.2.2 HO7.out.2.1 F3.out).mono ?_
              rintro e w8 ⟨rfl, hb8⟩
              have HB11 := Aside0.mk (below_step HB10.out hb8.below)
              clear hb8 HB10 HO6b HO7 HO6
              go_wp2_with fail
              go_roundw
              case measure => simp [intOf]; omega
              case rel => exact ⟨q2 + 1, by go_num, by omega, HB11⟩
            · have e3 : q2 = 2 := by omega
              subst e3
              go_wp2_with fail
              go_roundw
              case measure => simp [intOf]; omega
              case rel => exact ⟨q + 1, by go_num, by omega, ⟨below_step HB7.out HB.out⟩⟩
        · have e2 : q = 2 := by omega
          subst e2
          go_wp2_with fail
          go_ret
          exact ⟨rfl, below_step HB1.out HB.out⟩
end Go.Proofs.YtefglphdiimhnaaDoor.Q
