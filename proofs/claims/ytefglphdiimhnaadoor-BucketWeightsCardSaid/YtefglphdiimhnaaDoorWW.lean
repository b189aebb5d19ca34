import Derived.Test.YtefglphdiimhnaaDoorQ
import Derived.Test.YtefglphdiimhnaaDoorPW
import Derived.Test.YtefglphdiimhnaaDoorPV
set_option linter.unusedVariables false
set_option linter.unusedSimpArgs false
namespace Go.Proofs.YtefglphdiimhnaaDoor.Q
open Go Go.RowKit Go.Proofs.YtefglphdiimhnaaDoor.Plain Go.Proofs.YtefglphdiimhnaaDoorW.PrintWords Go.Proofs.YtefglphdiimhnaaDoorW.PrintLast Go.Proofs.YtefglphdiimhnaaDoorW.PrintMore
set_option maxHeartbeats 8000000 in
set_option maxRecDepth 100000 in
theorem weights_law (A0 : Option Addr) (c0 : Nat) (l0 : List Int) (A1 : Option Addr) (c1 : Nat) (l1 : List Int) (w : World) (hr0 : Kd.C (Kd.int .i64) w A0 l0.length l0) (hc0 : l0.length ≤ c0) (hr1 : Kd.C (Kd.int .u8) w A1 l1.length l1) (hc1 : l1.length ≤ c1) (hl1 : ∀ x ∈ l1, 0 ≤ x ∧ x < 256) (hGL : GL w) :
    Calls Tryd.prog 6 #[.slice A0 l0.length c0, .slice A1 l1.length c1] w fun e w' => e = .returned (.bool true) ∧ Below w.heap.size w w' := by
  have HR0 := Aside0.mk hr0
  have HC0 := Aside0.mk hc0
  have HR1 := Aside0.mk hr1
  have HC1 := Aside0.mk hc1
  have HGL := Aside0.mk hGL
  clear hr0 hc0 hr1 hc1 hGL
  obtain ⟨bs, e0, cv0⟩ := new_ok hl1
  obtain ⟨v, p1, e1, v0, v9, cv1⟩ := next_ok cv0 (n := 9) (by omega)
  obtain ⟨W, p2, e2, hW⟩ := weights_ok (k := 100) (by omega) cv1 (n := 1 + v) (by omega) (by omega)
  have hn : wrap64 (1 + v) = 1 + v := w64 (by omega) (by omega)
  rw [← hn] at e2
  have hWl := Aside0.mk (show W.length ≤ 1000 by have := hW.1; omega)
  have HB := Aside0.mk (Below.refl w.heap.size w)
  have E0 := Aside0.mk e0
  have E1 := Aside0.mk e1
  have E2 := Aside0.mk e2
  clear e0 e1 e2 cv0 cv1 hW hn hl1 v0 v9
  go_enter Tryd.func6, Tryd.ntmps6
  go_wp2_with fail
  refine (flagstonelaw13_awake.calls true _ HGL.out rfl).mono ?_
  rintro e w1 ⟨rfl, hb1⟩
  have HB1 := Aside0.mk (below_step HB.out hb1)
  clear HB hb1
  by_cases hlong : (l0.length : Int) > 20
  · have hl1b := decide_eq_true hlong
    go_wp2_with fail
    go_ret
    exact ⟨rfl, HB1.out⟩
  · have hl1b := decide_eq_false hlong
    go_wp2_with fail
    refine (flagstonedraw_New.calls A1 c1 l1 40 bs 0 w _ HB1.out HR1.out HC1.out E0.out).mono ?_
    rintro e w2 ⟨g, rfl, hi2, hb2, -⟩
    have HI2 := Aside0.mk hi2
    have HB2 := Aside0.mk hb2
    clear hi2 hb2 HB1
    go_wp2_with fail
    refine (flagstonedraw_Codes_Next.calls g bs 0 9 v p1 w _ HI2.out HB2.out E1.out).mono ?_
    rintro e w3 ⟨rfl, hi3, hb3, -⟩
    have HI3 := Aside0.mk hi3
    have HB3 := Aside0.mk hb3
    clear hi3 hb3 HI2 HB2
    go_wp2_with fail
    refine (flagstonelaw13_weights.calls 100 g bs p1 (wrap64 (1 + v)) W p2 w _ HI3.out HB3.out E2.out).mono ?_
    rintro e w4 ⟨v1, rfl, ho4, hi4, hb4, -⟩
    obtain ⟨A2, c2, rfl⟩ := Kd.R_slice ho4
    have HO4 := Aside0.mk (Kd.R_reads' ho4)
    have HB4 := Aside0.mk hb4
    clear ho4 hi4 hb4 HI3 HB3
    go_wp2_with fail
    obtain ⟨o, ho⟩ : ∃ o, o = Obj.cells #[Value.slice A0 l0.length c0, Value.slice A2 W.length c2] 23 := ⟨_, rfl⟩
    have HX := Aside0.mk (show (w4.alloc o).heap[w4.heap.size]? = some (.cells #[Value.slice A0 l0.length c0, Value.slice A2 W.length c2] 23 (0, 0)) by rw [heap_alloc_new, ho])
    have HC2 := Aside0.mk (Kd.C_alloc HO4.out.2.2 o)
    have HB5 := Aside0.mk (below_alloc HB4.out o)
    have HR5 := Aside0.mk (Kd.C_below HR0.out HB5.out)
    have HL2 := Aside0.mk HO4.out.2.1
    have HXs := Aside0.mk (show w4.heap.size < (w4.alloc o).heap.size by rw [World.size_alloc]; omega)
    rw [← ho]
    clear ho HO4 HB4
    generalize w4.heap.size = X at HX HXs ⊢
    generalize w4.alloc o = w5 at HX HC2 HB5 HR5 HXs ⊢
    go_loopw [31] (fun v wr => ∃ q : Nat, v = .int .i64 (q : Int) ∧ q ≤ 2 ∧ Aside0 (Below w5.heap.size w5 wr)) (fun v _ => 2 - (intOf v).toNat)
    case atStart => exact ⟨0, rfl, by omega, ⟨Below.refl _ _⟩⟩
    case round =>
      obtain ⟨q, rfl, hq, HB⟩ := hrel
      by_cases hlt : q < 2
      · obtain ⟨xs, A, c, hcell, hC, hcl, hlen⟩ : ∃ (xs : List Int) (A : Option Addr) (c : Nat), wr.cell? ⟨X, q, none⟩ = some (.slice A xs.length c) ∧ Aside0 (Kd.C (Kd.int .i64) wr A xs.length xs) ∧ Aside0 (xs.length ≤ c) ∧ xs.length ≤ 1000 := by
          have hblk : wr.heap[X]? = some (.cells #[Value.slice A0 l0.length c0, Value.slice A2 W.length c2] 23 (0, 0)) := (HB.out.block X HXs.out).trans HX.out
          rcases q with _ | _ | q
          · exact ⟨l0, A0, c0, by rw [blk_cell hblk]; rfl, ⟨Kd.C_below HR5.out HB.out⟩, HC0, by omega⟩
          · exact ⟨W, A2, c2, by rw [blk_cell hblk]; rfl, ⟨Kd.C_below HC2.out HB.out⟩, HL2, hWl.out⟩
          · omega
        have hd : decide ((q : Int) < 2) = true := decide_eq_true (by omega)
        obtain ⟨L, er, f1, f2, hL, hok⟩ := from_any (xs := xs) (k := 100) (by omega)
        have F1 := Aside0.mk f1
        have F2 := Aside0.mk f2
        have HOK := Aside0.mk hok
        have HLL := Aside0.mk hL
        clear f1 f2 hok hL
        go_wp2_with fail
        refine (bucket_FromWeights.calls 100 A c xs L er _ hC.out hcl.out F1.out).mono ?_
        rintro e w6 ⟨v6, rfl, ho6, hb6⟩
        obtain ⟨A6, c6, rfl⟩ := Kd.R_slice ho6
        have HO6 := Aside0.mk (Kd.R_reads' ho6)
        have HB6 := Aside0.mk (below_step HB.out hb6)
        have HC6 := Aside0.mk (Kd.C_below hC.out hb6)
        clear ho6 hb6
        go_wp2_with fail
        refine (flagstoneref13_FromWeights.calls 100 A c xs L er _ HC6.out hcl.out F2.out).mono ?_
        rintro e w7 ⟨v7, rfl, ho7, hb7⟩
        obtain ⟨A7, c7, rfl⟩ := Kd.R_slice ho7
        have HO7 := Aside0.mk (Kd.R_reads' ho7)
        have HB7 := Aside0.mk (below_step HB6.out hb7)
        have HC7 := Aside0.mk (Kd.C_below HC6.out hb7)
        have HD7 := Aside0.mk (Kd.C_below HO6.out.2.2 hb7)
        clear ho7 hb7
        have hee : (er == er) = true := beq_self_eq_true er
        have hen : (er != er) = false := by simp
        go_wp2_with fail
        refine (flagstoneref6_SameRanges.calls 1000 A6 c6 L A7 c7 L true _ HD7.out HO6.out.2.1 HO7.out.2.2 HO7.out.2.1 (same_any (by have := HLL.out; omega) (by have := HLL.out; omega))).mono ?_
        rintro e w8 ⟨rfl, hb8⟩
        have HB8 := Aside0.mk (below_step HB7.out hb8.below)
        have HC8 := Aside0.mk (Kd.C_below HC7.out hb8.below)
        have HD8 := Aside0.mk (Kd.C_below HD7.out hb8.below)
        clear hb8
        by_cases hz : er = 0
        · obtain ⟨h8, hW8, rfl⟩ := HOK.out hz
          subst hz
          go_wp2_with fail
          refine (bucket_Weights.calls A6 c6 (fwL xs 0 0) (xs.length : Int) xs _ HD8.out HO6.out.2.1 (weights_back h8 hW8)).mono ?_
          rintro e w9 ⟨v9, rfl, ho9, hb9⟩
          obtain ⟨A9, c9, rfl⟩ := Kd.R_slice ho9
          have HO9 := Aside0.mk (Kd.R_reads' ho9)
          have HB9 := Aside0.mk (below_step HB8.out hb9)
          have HC9 := Aside0.mk (Kd.C_below HC8.out hb9)
          clear ho9 hb9
          clear hC HC6 HC7 HC8 HD7 HD8 HB6 HB7 HB8 HO6 HO7
          go_wp2_with fail
          go_loopw [62] (fun t wz => ∃ p : Nat, t = .int .i64 (p : Int) ∧ p ≤ xs.length ∧ Aside0 (Below w9.heap.size w9 wz)) (fun t _ => xs.length - (intOf t).toNat)
          case atStart => exact ⟨0, rfl, by omega, ⟨Below.refl _ _⟩⟩
          case round =>
            obtain ⟨p, rfl, hp, HBz⟩ := hrel
            by_cases hpl : p < xs.length
            · obtain ⟨ad, ea, hcx⟩ := Kd.at_int (Kd.C_below HC9.out HBz.out) (p : Int) (by omega) (by omega)
              cases ea
              obtain ⟨ad9, ea9, hcx9⟩ := Kd.at_int (Kd.C_below HO9.out.2.2 HBz.out) (p : Int) (by omega) (by omega)
              cases ea9
              have hdp : decide ((p : Int) < (xs.length : Int)) = true := decide_eq_true (by omega)
              have hdq : decide ((xs.length : Int) ≤ (p : Int)) = false := decide_eq_false (by omega)
              have hxx : (rd xs (p : Int) != rd xs (p : Int)) = false := by simp
              rw [show (p : Int).toNat = p by omega] at hcx hcx9
              go_wp2_with fail
              go_quiet (fail)
              go_wp2_with fail
              go_roundw
              case measure => simp [intOf]; omega
              case rel => exact ⟨p + 1, by go_num, by omega, ⟨pw_below_drewN HBz.out nq⟩⟩
            · have e3 : p = xs.length := by omega
              subst e3
              go_wp2_with fail
              go_roundw
              case measure => simp [intOf]; omega
              case rel => exact ⟨q + 1, by go_num, by omega, ⟨below_step HB9.out HBz.out⟩⟩
        · have hz1 : (er == 0) = false := beq_eq_false_iff_ne.mpr hz
          have hz2 : (er != 0) = true := bne_iff_ne.mpr hz
          go_wp2_with fail
          go_roundw
          case measure => simp [intOf]; omega
          case rel => exact ⟨q + 1, by go_num, by omega, HB8⟩
      · have e2 : q = 2 := by omega
        subst e2
        go_wp2_with fail
        go_ret
        exact ⟨rfl, below_step HB5.out HB.out⟩
end Go.Proofs.YtefglphdiimhnaaDoor.Q
