import Derived.Test.YtefglphdiimhnaaDoorQ
import Derived.Test.YtefglphdiimhnaaDoorPM
import Derived.Test.YtefglphdiimhnaaDoorPS
set_option linter.unusedVariables false
set_option linter.unusedSimpArgs false
namespace Go.Proofs.YtefglphdiimhnaaDoor.Q
open Go Go.RowKit Go.Proofs.YtefglphdiimhnaaDoor.Plain Go.Proofs.YtefglphdiimhnaaDoorW.PrintWords Go.Proofs.YtefglphdiimhnaaDoorW.PrintLast Go.Proofs.YtefglphdiimhnaaDoorW.PrintMore
/-- What three splits have to do with one another. -/
theorem dist_facts {K : Nat} (hK : 400000 ≤ K) {x y z l : List S69} (hx : okS 4 0 0 x) (hy : okS 4 0 0 y) (lx : x.length ≤ 5) (ly : y.length ≤ 5) (lz : z.length ≤ 5) (ll : l.length ≤ 30) :
    ∃ (xy yz xz lx' : Int) (W : List Int) (R : List S69) (er : Int), bucket_Moved.f x y = some xy ∧ bucket_Moved.f y z = some yz ∧ bucket_Moved.f x z = some xz ∧ flagstoneref13_Moved.f K x y = some xy ∧ bucket_Moved.f l x = some lx' ∧ flagstoneref13_Moved.f K l x = some lx' ∧ bucket_Moved.f y x = some xy ∧ bucket_Moved.f x x = some 0 ∧ xz ≤ xy + yz ∧ 0 ≤ xy ∧ xy ≤ 10000 ∧ 0 ≤ yz ∧ yz ≤ 10000 ∧
      bucket_Weights.f y 4 = some W ∧ (W.length : Int) = 4 ∧ bucket_Reweigh.f K x W = some (R, er) ∧ (er = 19 ∨ er = 0 ∧ ∃ d, bucket_Moved.f x R = some d ∧ d ≤ xy) := by
  obtain ⟨R, er, h1, h2⟩ := nearest (n := 4) (k := K) (by omega) (by omega) hx hy (by omega) (by omega)
  refine ⟨_, _, _, _, _, R, er, rfl, rfl, rfl, refmoved_ok (by omega) (by omega) (by omega) (by omega), rfl, refmoved_ok (by omega) (by omega) (by omega) (by omega), ?_, ?_, ne_tri _ _ _ _, (cntNe_bd _ _ _).1, (cntNe_bd _ _ _).2, (cntNe_bd _ _ _).1, (cntNe_bd _ _ _).2, rfl, ?_, h1, h2⟩
  · show some _ = some _
    rw [neq_symm]
  · show some _ = some _
    rw [ne_self]
  · exact (split_weights (n := 4) (by omega) hy).1.1
set_option maxHeartbeats 8000000 in
set_option maxRecDepth 100000 in
theorem distance_law (A0 : Option Addr) (c0 : Nat) (l0 : List S69) (A1 : Option Addr) (c1 : Nat) (l1 : List Int) (A2 : Option Addr) (c2 : Nat) (l2 : List Int) (A3 : Option Addr) (c3 : Nat) (l3 : List Int) (w : World) (hr0 : Kd.C k69 w A0 l0.length l0) (hc0 : l0.length ≤ c0) (hr1 : Kd.C (Kd.int .u8) w A1 l1.length l1) (hc1 : l1.length ≤ c1) (hr2 : Kd.C (Kd.int .u8) w A2 l2.length l2) (hc2 : l2.length ≤ c2) (hr3 : Kd.C (Kd.int .u8) w A3 l3.length l3) (hc3 : l3.length ≤ c3)
    (hl1 : ∀ x ∈ l1, 0 ≤ x ∧ x < 256) (hl2 : ∀ x ∈ l2, 0 ≤ x ∧ x < 256) (hl3 : ∀ x ∈ l3, 0 ≤ x ∧ x < 256) (hGL : GL w) :
    Calls Tryd.prog 5 #[.slice A0 l0.length c0, .slice A1 l1.length c1, .slice A2 l2.length c2, .slice A3 l3.length c3] w fun e w' => e = .returned (.bool true) ∧ Below w.heap.size w w' := by
  have HR0 := Aside0.mk hr0
  have HC0 := Aside0.mk hc0
  have HR1 := Aside0.mk hr1
  have HC1 := Aside0.mk hc1
  have HR2 := Aside0.mk hr2
  have HC2 := Aside0.mk hc2
  have HR3 := Aside0.mk hr3
  have HC3 := Aside0.mk hc3
  have HGL := Aside0.mk hGL
  clear hr0 hc0 hr1 hc1 hr2 hc2 hr3 hc3 hGL
  obtain ⟨K, hK⟩ : ∃ K : Nat, K = 400000 := ⟨_, rfl⟩
  obtain ⟨b1, e1, v1⟩ := new_okm 20 (by omega) (by omega) hl1
  obtain ⟨b2, e2, v2⟩ := new_okm 20 (by omega) (by omega) hl2
  obtain ⟨b3, e3, v3⟩ := new_okm 20 (by omega) (by omega) hl3
  obtain ⟨x, p1, s1, ox, lx, -⟩ := split_ok (k := K) (by omega) v1 (n := 4) (by omega) (by omega)
  obtain ⟨y, p2, s2, oy, ly, -⟩ := split_ok (k := K) (by omega) v2 (n := 4) (by omega) (by omega)
  obtain ⟨z, p3, s3, oz, lz, -⟩ := split_ok (k := K) (by omega) v3 (n := 4) (by omega) (by omega)
  have HF := Aside0.mk (show l0.length ≤ 30 → _ from fun h => dist_facts (K := K) (by omega) ox oy lx ly lz h)
  have HB := Aside0.mk (Below.refl w.heap.size w)
  have E1 := Aside0.mk e1
  have E2 := Aside0.mk e2
  have E3 := Aside0.mk e3
  have S1 := Aside0.mk s1
  have S2 := Aside0.mk s2
  have S3 := Aside0.mk s3
  clear e1 e2 e3 s1 s2 s3 v1 v2 v3 ox oy oz lx ly lz hl1 hl2 hl3 hK
  go_enter Tryd.func5, Tryd.ntmps5
  go_wp2_with fail
  refine (flagstonelaw13_awake.calls true _ HGL.out rfl).mono ?_
  rintro e w1 ⟨rfl, hb1⟩
  have HB1 := Aside0.mk (below_step HB.out hb1)
  clear HB hb1
  by_cases hlong : (l0.length : Int) > 30
  · have hl1b := decide_eq_true hlong
    go_wp2_with fail
    go_ret
    exact ⟨rfl, HB1.out⟩
  have hl1b := decide_eq_false hlong
  obtain ⟨xy, yz, xz, lx', W, R, er, f1, f2, f3, f4, f5, f6, f7, f8, f9, f10, f11, f12, f13, f14, f15, f16, f17⟩ := HF.out (by omega)
  have F1 := Aside0.mk f1
  have F2 := Aside0.mk f2
  have F3 := Aside0.mk f3
  have F4 := Aside0.mk f4
  have F5 := Aside0.mk f5
  have F6 := Aside0.mk f6
  have F7 := Aside0.mk f7
  have F8 := Aside0.mk f8
  have F14 := Aside0.mk f14
  have F15 := Aside0.mk f15
  have F16 := Aside0.mk f16
  have F17 := Aside0.mk f17
  have hxz : decide (xz > xy + yz) = false := decide_eq_false (by omega)
  clear f1 f2 f3 f4 f5 f6 f7 f8 f14 f15 f16 f17 hlong HF
  have HBw1 := HB1
  clear HB1
  have HR0w1 := Aside0.mk (Kd.C_below HR0.out HBw1.out)
  go_wp2_with fail
  have HA := Aside0.mk (Kd.C_below HR1.out HBw1.out)
  have HWW := Aside0.mk (Below.refl w1.heap.size w1)
  refine (flagstonedraw_New.calls A1 c1 l1 20 b1 0 w1 _ HWW.out HA.out HC1.out E1.out).mono ?_
  rintro e w2 ⟨g0, rfl, hi, hb, hbb⟩
  have HI := Aside0.mk hi
  have HBN := Aside0.mk hb
  clear hi hb hbb HWW HA
  go_wp2_with fail
  refine (flagstonedraw_Codes_Split.calls K g0 b1 0 4 x p1 w1 _ HI.out HBN.out S1.out).mono ?_
  rintro e w3 ⟨vv, rfl, ho, hi, hb, -⟩
  obtain ⟨AX, cX, rfl⟩ := Kd.R_slice ho
  have HOX := Aside0.mk (Kd.R_reads' ho)
  have HLX := Aside0.mk HOX.out.2.1
  clear HI HBN hi ho
  have HBw3 := Aside0.mk (below_step HBw1.out hb)
  have HR0w3 := Aside0.mk (Kd.C_below HR0w1.out hb)
  clear hb HBw1 HR0w1
  have HXw3 := Aside0.mk HOX.out.2.2
  clear HOX
  go_wp2_with fail
  have HA := Aside0.mk (Kd.C_below HR2.out HBw3.out)
  have HWW := Aside0.mk (Below.refl w3.heap.size w3)
  refine (flagstonedraw_New.calls A2 c2 l2 20 b2 0 w3 _ HWW.out HA.out HC2.out E2.out).mono ?_
  rintro e w4 ⟨g1, rfl, hi, hb, hbb⟩
  have HI := Aside0.mk hi
  have HBN := Aside0.mk hb
  clear hi hb hbb HWW HA
  go_wp2_with fail
  refine (flagstonedraw_Codes_Split.calls K g1 b2 0 4 y p2 w3 _ HI.out HBN.out S2.out).mono ?_
  rintro e w5 ⟨vv, rfl, ho, hi, hb, -⟩
  obtain ⟨AY, cY, rfl⟩ := Kd.R_slice ho
  have HOY := Aside0.mk (Kd.R_reads' ho)
  have HLY := Aside0.mk HOY.out.2.1
  clear HI HBN hi ho
  have HBw5 := Aside0.mk (below_step HBw3.out hb)
  have HR0w5 := Aside0.mk (Kd.C_below HR0w3.out hb)
  have HXw5 := Aside0.mk (Kd.C_below HXw3.out hb)
  clear hb HBw3 HR0w3 HXw3
  have HYw5 := Aside0.mk HOY.out.2.2
  clear HOY
  go_wp2_with fail
  have HA := Aside0.mk (Kd.C_below HR3.out HBw5.out)
  have HWW := Aside0.mk (Below.refl w5.heap.size w5)
  refine (flagstonedraw_New.calls A3 c3 l3 20 b3 0 w5 _ HWW.out HA.out HC3.out E3.out).mono ?_
  rintro e w6 ⟨g2, rfl, hi, hb, hbb⟩
  have HI := Aside0.mk hi
  have HBN := Aside0.mk hb
  clear hi hb hbb HWW HA
  go_wp2_with fail
  refine (flagstonedraw_Codes_Split.calls K g2 b3 0 4 z p3 w5 _ HI.out HBN.out S3.out).mono ?_
  rintro e w7 ⟨vv, rfl, ho, hi, hb, -⟩
  obtain ⟨AZ, cZ, rfl⟩ := Kd.R_slice ho
  have HOZ := Aside0.mk (Kd.R_reads' ho)
  have HLZ := Aside0.mk HOZ.out.2.1
  clear HI HBN hi ho
  have HBw7 := Aside0.mk (below_step HBw5.out hb)
  have HR0w7 := Aside0.mk (Kd.C_below HR0w5.out hb)
  have HXw7 := Aside0.mk (Kd.C_below HXw5.out hb)
  have HYw7 := Aside0.mk (Kd.C_below HYw5.out hb)
  clear hb HBw5 HR0w5 HXw5 HYw5
  have HZw7 := Aside0.mk HOZ.out.2.2
  clear HOZ
  go_wp2_with fail
  refine (bucket_Moved.calls AX cX x AY cY y xy _ HXw7.out HLX.out HYw7.out HLY.out F1.out).mono ?_
  rintro e w8 ⟨rfl, hb⟩
  have HBw8 := Aside0.mk (below_step HBw7.out hb)
  have HR0w8 := Aside0.mk (Kd.C_below HR0w7.out hb)
  have HXw8 := Aside0.mk (Kd.C_below HXw7.out hb)
  have HYw8 := Aside0.mk (Kd.C_below HYw7.out hb)
  have HZw8 := Aside0.mk (Kd.C_below HZw7.out hb)
  clear hb HBw7 HR0w7 HXw7 HYw7 HZw7
  go_wp2_with fail
  refine (bucket_Moved.calls AY cY y AZ cZ z yz _ HYw8.out HLY.out HZw8.out HLZ.out F2.out).mono ?_
  rintro e w9 ⟨rfl, hb⟩
  have HBw9 := Aside0.mk (below_step HBw8.out hb)
  have HR0w9 := Aside0.mk (Kd.C_below HR0w8.out hb)
  have HXw9 := Aside0.mk (Kd.C_below HXw8.out hb)
  have HYw9 := Aside0.mk (Kd.C_below HYw8.out hb)
  have HZw9 := Aside0.mk (Kd.C_below HZw8.out hb)
  clear hb HBw8 HR0w8 HXw8 HYw8 HZw8
  go_wp2_with fail
  refine (bucket_Moved.calls AX cX x AZ cZ z xz _ HXw9.out HLX.out HZw9.out HLZ.out F3.out).mono ?_
  rintro e w10 ⟨rfl, hb⟩
  have HBw10 := Aside0.mk (below_step HBw9.out hb)
  have HR0w10 := Aside0.mk (Kd.C_below HR0w9.out hb)
  have HXw10 := Aside0.mk (Kd.C_below HXw9.out hb)
  have HYw10 := Aside0.mk (Kd.C_below HYw9.out hb)
  have HZw10 := Aside0.mk (Kd.C_below HZw9.out hb)
  clear hb HBw9 HR0w9 HXw9 HYw9 HZw9
  have q1 : (xy != xy) = false := by simp
  have q2 : (lx' != lx') = false := by simp
  go_wp2_with fail
  refine (flagstoneref13_Moved.calls K AX cX x AY cY y xy _ HXw10.out HLX.out HYw10.out HLY.out F4.out).mono ?_
  rintro e w11 ⟨rfl, hb⟩
  have HBw11 := Aside0.mk (below_step HBw10.out hb)
  have HR0w11 := Aside0.mk (Kd.C_below HR0w10.out hb)
  have HXw11 := Aside0.mk (Kd.C_below HXw10.out hb)
  have HYw11 := Aside0.mk (Kd.C_below HYw10.out hb)
  have HZw11 := Aside0.mk (Kd.C_below HZw10.out hb)
  clear hb HBw10 HR0w10 HXw10 HYw10 HZw10
  go_wp2_with fail
  refine (bucket_Moved.calls A0 c0 l0 AX cX x lx' _ HR0w11.out HC0.out HXw11.out HLX.out F5.out).mono ?_
  rintro e w12 ⟨rfl, hb⟩
  have HBw12 := Aside0.mk (below_step HBw11.out hb)
  have HR0w12 := Aside0.mk (Kd.C_below HR0w11.out hb)
  have HXw12 := Aside0.mk (Kd.C_below HXw11.out hb)
  have HYw12 := Aside0.mk (Kd.C_below HYw11.out hb)
  have HZw12 := Aside0.mk (Kd.C_below HZw11.out hb)
  clear hb HBw11 HR0w11 HXw11 HYw11 HZw11
  go_wp2_with fail
  refine (flagstoneref13_Moved.calls K A0 c0 l0 AX cX x lx' _ HR0w12.out HC0.out HXw12.out HLX.out F6.out).mono ?_
  rintro e w13 ⟨rfl, hb⟩
  have HBw13 := Aside0.mk (below_step HBw12.out hb)
  have HR0w13 := Aside0.mk (Kd.C_below HR0w12.out hb)
  have HXw13 := Aside0.mk (Kd.C_below HXw12.out hb)
  have HYw13 := Aside0.mk (Kd.C_below HYw12.out hb)
  have HZw13 := Aside0.mk (Kd.C_below HZw12.out hb)
  clear hb HBw12 HR0w12 HXw12 HYw12 HZw12
  go_wp2_with fail
  refine (bucket_Moved.calls AY cY y AX cX x xy _ HYw13.out HLY.out HXw13.out HLX.out F7.out).mono ?_
  rintro e w14 ⟨rfl, hb⟩
  have HBw14 := Aside0.mk (below_step HBw13.out hb)
  have HR0w14 := Aside0.mk (Kd.C_below HR0w13.out hb)
  have HXw14 := Aside0.mk (Kd.C_below HXw13.out hb)
  have HYw14 := Aside0.mk (Kd.C_below HYw13.out hb)
  have HZw14 := Aside0.mk (Kd.C_below HZw13.out hb)
  clear hb HBw13 HR0w13 HXw13 HYw13 HZw13
  go_wp2_with fail
  refine (bucket_Moved.calls AX cX x AX cX x 0 _ HXw14.out HLX.out HXw14.out HLX.out F8.out).mono ?_
  rintro e w15 ⟨rfl, hb⟩
  have HBw15 := Aside0.mk (below_step HBw14.out hb)
  have HR0w15 := Aside0.mk (Kd.C_below HR0w14.out hb)
  have HXw15 := Aside0.mk (Kd.C_below HXw14.out hb)
  have HYw15 := Aside0.mk (Kd.C_below HYw14.out hb)
  have HZw15 := Aside0.mk (Kd.C_below HZw14.out hb)
  clear hb HBw14 HR0w14 HXw14 HYw14 HZw14
  go_wp2_with fail
  refine (bucket_Weights.calls AY cY y 4 W _ HYw15.out HLY.out F14.out).mono ?_
  rintro e w16 ⟨vv, rfl, ho, hb⟩
  obtain ⟨AW, cW, rfl⟩ := Kd.R_slice ho
  have HOW := Aside0.mk (Kd.R_reads' ho)
  have HLW := Aside0.mk HOW.out.2.1
  clear ho
  have HBw16 := Aside0.mk (below_step HBw15.out hb)
  have HR0w16 := Aside0.mk (Kd.C_below HR0w15.out hb)
  have HXw16 := Aside0.mk (Kd.C_below HXw15.out hb)
  have HYw16 := Aside0.mk (Kd.C_below HYw15.out hb)
  have HZw16 := Aside0.mk (Kd.C_below HZw15.out hb)
  clear hb HBw15 HR0w15 HXw15 HYw15 HZw15
  have HWw16 := Aside0.mk HOW.out.2.2
  have q3 : ((W.length : Int) != 4) = false := by rw [F15.out]; rfl
  clear HOW
  go_wp2_with fail
  refine (bucket_Reweigh.calls K AX cX x AW cW W R er _ HXw16.out HLX.out HWw16.out HLW.out F16.out).mono ?_
  rintro e w17 ⟨vv, rfl, ho, hb⟩
  obtain ⟨AR, cR, rfl⟩ := Kd.R_slice ho
  have HOR := Aside0.mk (Kd.R_reads' ho)
  have HLR := Aside0.mk HOR.out.2.1
  clear ho
  have HBw17 := Aside0.mk (below_step HBw16.out hb)
  have HR0w17 := Aside0.mk (Kd.C_below HR0w16.out hb)
  have HXw17 := Aside0.mk (Kd.C_below HXw16.out hb)
  have HYw17 := Aside0.mk (Kd.C_below HYw16.out hb)
  have HZw17 := Aside0.mk (Kd.C_below HZw16.out hb)
  have HWw17 := Aside0.mk (Kd.C_below HWw16.out hb)
  clear hb HBw16 HR0w16 HXw16 HYw16 HZw16 HWw16
  have HRw17 := Aside0.mk HOR.out.2.2
  clear HOR
  by_cases h19 : er = 19
  · have q4 : (er == 19) = true := by rw [h19]; rfl
    clear h19
    go_wp2_with fail
    go_ret
    exact ⟨rfl, HBw17.out⟩
  · have q4 : (er == 19) = false := beq_eq_false_iff_ne.mpr h19
    obtain ⟨h0, d, m1, m2⟩ := F17.out.resolve_left h19
    have M1 := Aside0.mk m1
    have q5 : (er == 0) = true := by rw [h0]; rfl
    have q6 : decide (d ≤ xy) = true := decide_eq_true m2
    clear h0 m1 h19
    go_wp2_with fail
    refine (bucket_Moved.calls AX cX x AR cR R d _ HXw17.out HLX.out HRw17.out HLR.out M1.out).mono ?_
    rintro e wz ⟨rfl, hb⟩
    have HBz := Aside0.mk (below_step HBw17.out hb)
    clear hb
    go_wp2_with fail
    go_ret
    exact ⟨rfl, HBz.out⟩
end Go.Proofs.YtefglphdiimhnaaDoor.Q
