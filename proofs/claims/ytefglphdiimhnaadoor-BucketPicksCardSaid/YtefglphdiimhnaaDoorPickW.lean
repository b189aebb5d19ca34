import Derived.Test.YtefglphdiimhnaaDoorQ
import Derived.Test.YtefglphdiimhnaaDoorPP
set_option linter.unusedVariables false
set_option linter.unusedSimpArgs false
namespace Go.Proofs.YtefglphdiimhnaaDoor.Q
open Go Go.RowKit Go.Proofs.YtefglphdiimhnaaDoor.Plain Go.Proofs.YtefglphdiimhnaaDoorW.PrintWords Go.Proofs.YtefglphdiimhnaaDoorW.PrintLast Go.Proofs.YtefglphdiimhnaaDoorW.PrintMore
set_option maxHeartbeats 8000000 in
set_option maxRecDepth 100000 in
theorem picks_law (A0 : Option Addr) (c0 : Nat) (l0 : List S69) (b n : Int) (A3 : Option Addr) (c3 : Nat) (l3 : List Int) (w : World) (hr0 : Kd.C k69 w A0 l0.length l0) (hc0 : l0.length ≤ c0) (hr3 : Kd.C (Kd.int .u8) w A3 l3.length l3) (hc3 : l3.length ≤ c3) (hl3 : ∀ x ∈ l3, 0 ≤ x ∧ x < 256) (hb0 : -9223372036854775808 ≤ b) (hb1 : b ≤ 9223372036854775807) (hGL : GL w) :
    Calls Tryd.prog 4 #[.slice A0 l0.length c0, .int .i64 b, .int .i64 n, .slice A3 l3.length c3] w fun e w' => e = .returned (.bool true) ∧ Below w.heap.size w w' := by
  have HR0 := Aside0.mk hr0
  have HC0 := Aside0.mk hc0
  have HR3 := Aside0.mk hr3
  have HC3 := Aside0.mk hc3
  have HGL := Aside0.mk hGL
  clear hr0 hc0 hr3 hc3 hGL
  obtain ⟨K, hK⟩ : ∃ K : Nat, K = 400000 := ⟨_, rfl⟩
  obtain ⟨bs, e0, cv0⟩ := new_ok hl3
  obtain ⟨v, p1, e1, v0, v9, cv1⟩ := next_ok cv0 (n := 8) (by omega)
  have hn : wrap64 (1 + v) = 1 + v := w64 (by omega) (by omega)
  obtain ⟨L, p2, e2, sL, lL, cv2⟩ := split_ok (k := K) (by omega) cv1 (n := 1 + v) (by omega) (by omega)
  obtain ⟨m, e3, hm⟩ := mod_ok (x := b) hb0 hb1
  rw [← hn] at e2
  have HB := Aside0.mk (Below.refl w.heap.size w)
  have E0 := Aside0.mk e0
  have E1 := Aside0.mk e1
  have E2 := Aside0.mk e2
  have E3 := Aside0.mk e3
  have hKK := Aside0.mk hK
  have hLl := Aside0.mk lL
  clear e0 e1 e2 e3 cv0 cv1 cv2 sL hn hl3 v0 v9 hb0 hb1 hm hK lL
  go_enter Tryd.func4, Tryd.ntmps4
  go_wp2_with fail
  refine (flagstonelaw13_awake.calls true _ HGL.out rfl).mono ?_
  rintro e w1 ⟨rfl, hb1⟩
  have HB1 := Aside0.mk (below_step HB.out hb1)
  clear HB hb1
  by_cases hlong : (l0.length : Int) > 30
  · have hl1b := decide_eq_true hlong
    go_wp2_with fail
    go_ret
    exact ⟨rfl, HB1.out⟩
  · have hl1b := decide_eq_false hlong
    have hl0 : l0.length ≤ 30 := by omega
    have hL0 := Aside0.mk hl0
    clear hlong hl0
    go_wp2_with fail
    refine (flagstonedraw_New.calls A3 c3 l3 40 bs 0 w _ HB1.out HR3.out HC3.out E0.out).mono ?_
    rintro e w2 ⟨g, rfl, hi2, hb2, -⟩
    have HI2 := Aside0.mk hi2
    have HB2 := Aside0.mk hb2
    clear hi2 hb2 HB1
    go_wp2_with fail
    refine (flagstonedraw_Codes_Next.calls g bs 0 8 v p1 w _ HI2.out HB2.out E1.out).mono ?_
    rintro e w3 ⟨rfl, hi3, hb3, -⟩
    have HI3 := Aside0.mk hi3
    have HB3 := Aside0.mk hb3
    clear hi3 hb3 HI2 HB2
    go_wp2_with fail
    refine (flagstonedraw_Codes_Split.calls K g bs p1 (wrap64 (1 + v)) L p2 w _ HI3.out HB3.out E2.out).mono ?_
    rintro e w4 ⟨v1, rfl, ho4, hi4, hb4, -⟩
    obtain ⟨A2, c2, rfl⟩ := Kd.R_slice ho4
    have HO4 := Aside0.mk (Kd.R_reads' ho4)
    have HB4 := Aside0.mk hb4
    clear ho4 hi4 hb4 HI3 HB3
    go_wp2_with fail
    refine (flagstonedraw_Mod.calls b 10000 (m : Int) _ E3.out).mono ?_
    rintro e w5 ⟨rfl, hd5⟩
    have HB5' := Aside0.mk (below_step HB4.out hd5.below)
    have HC5' := Aside0.mk (Kd.C_below HO4.out.2.2 hd5.below)
    have HL2 := Aside0.mk HO4.out.2.1
    clear hd5 HB4 HO4
    go_wp2_with fail
    obtain ⟨o, ho⟩ : ∃ o, o = Obj.cells #[Value.slice A0 l0.length c0, Value.slice A2 L.length c2] 22 := ⟨_, rfl⟩
    have HX := Aside0.mk (show (w5.alloc o).heap[w5.heap.size]? = some (.cells #[Value.slice A0 l0.length c0, Value.slice A2 L.length c2] 22 (0, 0)) by rw [heap_alloc_new, ho])
    have HC2 := Aside0.mk (Kd.C_alloc HC5'.out o)
    have HB6 := Aside0.mk (below_alloc HB5'.out o)
    have HR6 := Aside0.mk (Kd.C_below HR0.out HB6.out)
    have HXs := Aside0.mk (show w5.heap.size < (w5.alloc o).heap.size by rw [World.size_alloc]; omega)
    rw [← ho]
    clear ho HC5' HB5'
    generalize w5.heap.size = X at HX HXs ⊢
    generalize w5.alloc o = w6 at HX HC2 HB6 HR6 HXs ⊢
    go_loopw [39] (fun v wr => ∃ q : Nat, v = .int .i64 (q : Int) ∧ q ≤ 2 ∧ Aside0 (Below w6.heap.size w6 wr)) (fun v _ => 2 - (intOf v).toNat)
    case atStart => exact ⟨0, rfl, by omega, ⟨Below.refl _ _⟩⟩
    case round =>
      obtain ⟨q, rfl, hq, HB⟩ := hrel
      by_cases hlt : q < 2
      · obtain ⟨xs, A, c, hcell, hC, hcl, hlen⟩ : ∃ (xs : List S69) (A : Option Addr) (c : Nat), wr.cell? ⟨X, q, none⟩ = some (.slice A xs.length c) ∧ Aside0 (Kd.C k69 wr A xs.length xs) ∧ Aside0 (xs.length ≤ c) ∧ Aside0 (xs.length ≤ 30) := by
          have hblk : wr.heap[X]? = some (.cells #[Value.slice A0 l0.length c0, Value.slice A2 L.length c2] 22 (0, 0)) := (HB.out.block X HXs.out).trans HX.out
          rcases q with _ | _ | q
          · exact ⟨l0, A0, c0, by rw [blk_cell hblk]; rfl, ⟨Kd.C_below HR6.out HB.out⟩, HC0, hL0⟩
          · exact ⟨L, A2, c2, by rw [blk_cell hblk]; rfl, ⟨Kd.C_below HC2.out HB.out⟩, HL2, ⟨by have := hLl.out; omega⟩⟩
          · omega
        have hd : decide ((q : Int) < 2) = true := decide_eq_true (by omega)
        obtain ⟨pa, f1, f2⟩ := pick_both (L := xs) (k := K) b (by have := hlen.out; have := hKK.out; omega) (by have := hlen.out; omega)
        obtain ⟨pb, f3, f4⟩ := pick_both (L := xs) (k := K) (m : Int) (by have := hlen.out; have := hKK.out; omega) (by have := hlen.out; omega)
        have F1 := Aside0.mk f1
        have F2 := Aside0.mk f2
        have F3 := Aside0.mk f3
        have F4 := Aside0.mk f4
        have hpa : (pa != pa) = false := by simp
        have hpb : (pb != pb) = false := by simp
        clear f1 f2 f3 f4
        go_wp2_with fail
        refine (bucket_Pick.calls K A c xs b pa _ hC.out hcl.out F1.out).mono ?_
        rintro e w7 ⟨rfl, hb7⟩
        have HB7 := Aside0.mk (below_step HB.out hb7)
        have HC7 := Aside0.mk (Kd.C_below hC.out hb7)
        clear hb7
        go_wp2_with fail
        refine (flagstoneref13_Pick.calls K A c xs b pa _ HC7.out hcl.out F2.out).mono ?_
        rintro e w8 ⟨rfl, hd8⟩
        have HB8 := Aside0.mk (below_step HB7.out hd8.below)
        have HC8 := Aside0.mk (Kd.C_below HC7.out hd8.below)
        clear hd8
        go_wp2_with fail
        refine (bucket_Pick.calls K A c xs (m : Int) pb _ HC8.out hcl.out F3.out).mono ?_
        rintro e w9 ⟨rfl, hb9⟩
        have HB9 := Aside0.mk (below_step HB8.out hb9)
        have HC9 := Aside0.mk (Kd.C_below HC8.out hb9)
        clear hb9
        go_wp2_with fail
        refine (flagstoneref13_Pick.calls K A c xs (m : Int) pb _ HC9.out hcl.out F4.out).mono ?_
        rintro e w10 ⟨rfl, hd10⟩
        have HB10 := Aside0.mk (below_step HB9.out hd10.below)
        have HC10 := Aside0.mk (Kd.C_below HC9.out hd10.below)
        clear hd10 HB7 HB8 HB9 HC7 HC8 HC9 F1 F2 F3 F4 hC
        go_wp2_with fail
        obtain ⟨o2, ho2⟩ : ∃ o, o = Obj.cells #[Value.int .i64 n, Value.int .i64 (wrap64 (1 + v)), Value.int .i64 3] 3 := ⟨_, rfl⟩
        have HX2 := Aside0.mk (show (w10.alloc o2).heap[w10.heap.size]? = some (.cells #[Value.int .i64 n, Value.int .i64 (wrap64 (1 + v)), Value.int .i64 3] 3 (0, 0)) by rw [heap_alloc_new, ho2])
        have HC11 := Aside0.mk (Kd.C_alloc HC10.out o2)
        have HB11 := Aside0.mk (show Below w6.heap.size w6 (w10.alloc o2) from below_alloc HB10.out o2)
        have HXs2 := Aside0.mk (show w10.heap.size < (w10.alloc o2).heap.size by rw [World.size_alloc]; omega)
        rw [← ho2]
        clear ho2 HC10 HB10
        generalize w10.heap.size = X2 at HX2 HXs2 ⊢
        generalize w10.alloc o2 = w11 at HX2 HC11 HB11 HXs2 ⊢
        go_loopw [63] (fun v wz => ∃ q : Nat, v = .int .i64 (q : Int) ∧ q ≤ 3 ∧ Aside0 (Below w11.heap.size w11 wz)) (fun v _ => 3 - (intOf v).toNat)
        case atStart => exact ⟨0, rfl, by omega, ⟨Below.refl _ _⟩⟩
        case round =>
          obtain ⟨q2, rfl, hq2, HBz⟩ := hrel
          by_cases hlt2 : q2 < 3
          · obtain ⟨qn, hcell2⟩ : ∃ qn : Int, wr.cell? ⟨X2, q2, none⟩ = some (.int .i64 qn) := by
              have hblk : wr.heap[X2]? = some (.cells #[Value.int .i64 n, Value.int .i64 (wrap64 (1 + v)), Value.int .i64 3] 3 (0, 0)) := (HBz.out.block X2 HXs2.out).trans HX2.out
              rcases q2 with _ | _ | _ | q2
              · exact ⟨_, by rw [blk_cell hblk]; rfl⟩
              · exact ⟨_, by rw [blk_cell hblk]; rfl⟩
              · exact ⟨_, by rw [blk_cell hblk]; rfl⟩
              · omega
            have hd2 : decide ((q2 : Int) < 3) = true := decide_eq_true (by omega)
            obtain ⟨C, g1, g2, gC⟩ := weights_both (L := xs) (k := K) qn (by have := hlen.out; omega) (by have := hlen.out; have := hKK.out; omega)
            have G1 := Aside0.mk g1
            have G2 := Aside0.mk g2
            have HCl := Aside0.mk gC
            have HC12 := Aside0.mk (Kd.C_below HC11.out HBz.out)
            clear g1 g2 gC
            go_wp2_with fail
            refine (bucket_Weights.calls A c xs qn C _ HC12.out hcl.out G1.out).mono ?_
            rintro e w13 ⟨v13, rfl, ho13, hb13⟩
            obtain ⟨A13, c13, rfl⟩ := Kd.R_slice ho13
            have HO13 := Aside0.mk (Kd.R_reads' ho13)
            have HB13 := Aside0.mk (below_step HBz.out hb13)
            have HC13 := Aside0.mk (Kd.C_below HC12.out hb13)
            clear ho13 hb13
            go_wp2_with fail
            refine (flagstoneref13_Weights.calls K A c xs qn C _ HC13.out hcl.out G2.out).mono ?_
            rintro e w14 ⟨v14, rfl, ho14, hb14⟩
            obtain ⟨A14, c14, rfl⟩ := Kd.R_slice ho14
            have HO14 := Aside0.mk (Kd.R_reads' ho14)
            have HB14 := Aside0.mk (below_step HB13.out hb14)
            have HC14 := Aside0.mk (Kd.C_below HO13.out.2.2 hb14)
            clear ho14 hb14
            have hll : ((C.length : Int) != (C.length : Int)) = false := by simp
            have hl1000 := HCl.out
            clear HC12 HC13 HB13
            go_wp2_with fail
            go_loopw [80] (fun t wz => ∃ p : Nat, t = .int .i64 (p : Int) ∧ p ≤ C.length ∧ Aside0 (Below w14.heap.size w14 wz)) (fun t _ => C.length - (intOf t).toNat)
            case atStart => exact ⟨0, rfl, by omega, ⟨Below.refl _ _⟩⟩
            case round =>
              obtain ⟨p, rfl, hp, HBy⟩ := hrel
              by_cases hpl : p < C.length
              · obtain ⟨ad, ea, hcx⟩ := Kd.at_int (Kd.C_below HC14.out HBy.out) (p : Int) (by omega) (by omega)
                cases ea
                obtain ⟨ad9, ea9, hcx9⟩ := Kd.at_int (Kd.C_below HO14.out.2.2 HBy.out) (p : Int) (by omega) (by omega)
                cases ea9
                have hdp : decide ((p : Int) < (C.length : Int)) = true := decide_eq_true (by omega)
                have hxx : (rd C (p : Int) != rd C (p : Int)) = false := by simp
                rw [show (p : Int).toNat = p by omega] at hcx hcx9
                go_wp2_with fail
                go_quiet (fail)
                go_wp2_with fail
                go_roundw
                case measure => simp [intOf]; omega
                case rel => exact ⟨p + 1, by go_num, by omega, ⟨pw_below_drewN HBy.out nq⟩⟩
              · have e3 : p = C.length := by omega
                subst e3
                go_wp2_with fail
                go_roundw
                case measure => simp [intOf]; omega
                case rel => exact ⟨q2 + 1, by go_num, by omega, ⟨below_step HB14.out HBy.out⟩⟩
          · have e3 : q2 = 3 := by omega
            subst e3
            go_wp2_with fail
            go_roundw
            case measure => simp [intOf]; omega
            case rel => exact ⟨q + 1, by go_num, by omega, ⟨below_step HB11.out HBz.out⟩⟩
      · have e2 : q = 2 := by omega
        subst e2
        go_wp2_with fail
        go_ret
        exact ⟨rfl, below_step HB6.out HB.out⟩
end Go.Proofs.YtefglphdiimhnaaDoor.Q
