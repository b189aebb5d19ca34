-- printed by wip/hp.py (the session's driver of the print, with hand-proved contracts)
import Derived.Test.YtefglphdiimhnaaDoorQ0
import Derived.Test.YtefglphdiimhnaaDoorQ8
namespace Go.Proofs.YtefglphdiimhnaaDoor.Q
open Go.RowKit Go.Proofs.YtefglphdiimhnaaDoorW.PrintWords Go.Proofs.YtefglphdiimhnaaDoorW.PrintLast Go.Proofs.YtefglphdiimhnaaDoorW.PrintMore
attribute [local go_sem] max2_int min2_int max_two min_two max_three min_three max_four min_four   -- for this text's walks alone
set_option linter.unusedVariables false
set_option linter.unusedSimpArgs false

/-! ### flagstoneref13_Weights: function 22 -/
def flagstoneref13_Weights.l0 : Nat → Int → List Int → List Int → Int → Option (List Int)
  | 0, _, _, _, _ => none
  | k + 1, x1, x5, x6, x7 => if x7 < (x6.length : Int) then (if 0 ≤ x7 then (if (rd x6 x7) ≥ 1 then (if (rd x6 x7) ≤ x1 then (if 0 ≤ (wrap64 ((rd x6 x7) - 1)) then (if (wrap64 ((rd x6 x7) - 1)) < (x5.length : Int) then (flagstoneref13_Weights.l0 k x1 (x5.set ((wrap64 ((rd x6 x7) - 1)) : Int).toNat (wrap64 ((rd x5 (wrap64 ((rd x6 x7) - 1))) + 1))) x6 (wrap64 (x7 + 1))) else (none)) else (none)) else (flagstoneref13_Weights.l0 k x1 x5 x6 (wrap64 (x7 + 1)))) else (flagstoneref13_Weights.l0 k x1 x5 x6 (wrap64 (x7 + 1)))) else (none)) else (some x5)
def flagstoneref13_Weights.f (k : Nat) (l0 : List (S69)) (a1 : Int) : Option (List Int) := if 0 ≤ (mx 0 (mn a1 8)) then (if (mx 0 (mn a1 8) : Int).toNat ≤ 35184372088832 then ((flagstoneref13_All.f k l0).bind fun t221 => (flagstoneref13_Weights.l0 k (mx 0 (mn a1 8)) (List.replicate (mx 0 (mn a1 8) : Int).toNat 0) t221 0)) else (none)) else (none)
theorem flagstoneref13_Weights.mono_l : ∀ k, (∀ y0 y1 y2 y3, LeO (flagstoneref13_Weights.l0 k y0 y1 y2 y3) (flagstoneref13_Weights.l0 (k + 1) y0 y1 y2 y3))
  | 0 => fun _ _ _ _ r h => by simp [flagstoneref13_Weights.l0] at h
  | k + 1 => by
    have ih0 := flagstoneref13_Weights.mono_l k
    · intro y0 y1 y2 y3
      unfold flagstoneref13_Weights.l0
      repeat' first
      | (with_reducible exact ih0 _ _ _ _)
      | (with_reducible exact flagstoneref13_All.mono _ _)
      | (with_reducible exact LeO.refl _)
      | (with_reducible exact LeO.none _)
      | (with_reducible refine LeO.ite ?_ ?_)
      | (with_reducible refine LeO.bind ?_ (fun _ => ?_))
      | exact ih0 _ _ _ _
      | exact flagstoneref13_All.mono _ _
      | exact LeO.none _
      | refine LeO.ite ?_ ?_
      | refine LeO.bind ?_ (fun _ => ?_)
theorem flagstoneref13_Weights.mono : ∀ a0 a1 k, LeO (flagstoneref13_Weights.f k a0 a1) (flagstoneref13_Weights.f (k + 1) a0 a1) := by
  intro a0 a1 k
  have ih0 := flagstoneref13_Weights.mono_l k
  unfold flagstoneref13_Weights.f
  repeat' first
      | (with_reducible exact ih0 _ _ _ _)
      | (with_reducible exact flagstoneref13_All.mono _ _)
      | (with_reducible exact LeO.refl _)
      | (with_reducible exact LeO.none _)
      | (with_reducible refine LeO.ite ?_ ?_)
      | (with_reducible refine LeO.bind ?_ (fun _ => ?_))
      | exact ih0 _ _ _ _
      | exact flagstoneref13_All.mono _ _
      | exact LeO.none _
      | refine LeO.ite ?_ ?_
      | refine LeO.bind ?_ (fun _ => ?_)
set_option maxHeartbeats 8000000 in
set_option maxRecDepth 100000 in
theorem flagstoneref13_Weights.calls (k : Nat) (A0 : Option Addr) (c0 : Nat) (l0 : List (S69)) (a1 : Int) (r : List Int) (w : World) (hr0 : Kd.C k69 w A0 l0.length l0) (hc0 : l0.length ≤ c0) (h : flagstoneref13_Weights.f k l0 a1 = some r) :
    Calls Tryd.prog 22 #[.slice A0 l0.length c0, .int .i64 a1] w fun e w' => ∃ v0_ : Value, e = .returned (v0_) ∧ Kd.R (Kd.int .i64) 3 w' w.heap.size (fun _ => True) v0_ r ∧ Below w.heap.size w w' := by
  have HR0 := Aside0.mk hr0
  have HC0 := Aside0.mk hc0
  clear hr0 hc0
  have HB := Aside0.mk (Below.refl w.heap.size w)
  have H : (if 0 ≤ (mx 0 (mn a1 8)) then (if (mx 0 (mn a1 8) : Int).toNat ≤ 35184372088832 then ((flagstoneref13_All.f k l0).bind fun t221 => (flagstoneref13_Weights.l0 k (mx 0 (mn a1 8)) (List.replicate (mx 0 (mn a1 8) : Int).toNat 0) t221 0)) else (none)) else (none)) = some r := h
  clear h
  obtain ⟨ji3, hji3⟩ : ∃ j_ : Int, (mn a1 8) = j_ := ⟨_, rfl⟩
  replace H : (if 0 ≤ (mx 0 (ji3)) then (if (mx 0 (ji3) : Int).toNat ≤ 35184372088832 then ((flagstoneref13_All.f k l0).bind fun t221 => (flagstoneref13_Weights.l0 k (mx 0 (ji3)) (List.replicate (mx 0 (ji3) : Int).toNat 0) t221 0)) else (none)) else (none)) = some r := by first | (rw [hji3] at H; exact H) | (simp only [hji3] at H ⊢; exact H)
  (try (have hji3h : ji3 ≤ 8 := by (rw [← hji3]; unfold mn; (repeat' split) <;> omega)))
  (try (have hji3g : ji3 ≤ 64 := by omega))
  have hji3_ : (if 8 < a1 then 8 else a1) = ji3 := hji3
  obtain ⟨ji4, hji4⟩ : ∃ j_ : Int, (mx 0 (ji3)) = j_ := ⟨_, rfl⟩
  replace H : (if 0 ≤ (ji4) then (if (ji4 : Int).toNat ≤ 35184372088832 then ((flagstoneref13_All.f k l0).bind fun t221 => (flagstoneref13_Weights.l0 k ji4 (List.replicate (ji4 : Int).toNat 0) t221 0)) else (none)) else (none)) = some r := by first | (rw [hji4] at H; exact H) | (simp only [hji4] at H ⊢; exact H)
  have hji4_ : (if 0 < (ji3) then (ji3) else 0) = ji4 := hji4
  by_cases c5 : 0 ≤ (ji4)
  · rw [if_pos c5] at H
    have c5b0 := eq_true c5
    have c5b1 : decide (0 ≤ (ji4)) = true := decide_eq_true c5
    clear c5
    by_cases c6 : (ji4 : Int).toNat ≤ 35184372088832
    · rw [if_pos c6] at H
      have c6b0 := eq_true c6
      have c6b1 : decide ((ji4 : Int).toNat ≤ 35184372088832) = true := decide_eq_true c6
      clear c6
      obtain ⟨y218, hy218⟩ : ∃ y_ : List Int, y_ = (List.replicate (ji4 : Int).toNat 0) := ⟨_, rfl⟩
      replace H : ((flagstoneref13_All.f k l0).bind fun t221 => (flagstoneref13_Weights.l0 k ji4 y218 t221 0)) = some r := by first | (rw [hy218]; with_reducible exact H) | (have H2_ := (Option.bind_some _ _).symm.trans H; rw [hy218]; with_reducible exact H2_) | (have H2_ := (Option.bind_some _ _).symm.trans H; with_reducible exact H2_) | with_reducible exact H | (rw [hy218]; exact H) | exact H
      have Ny218 := Aside0.mk hy218
      clear hy218
      replace H := Option.bind_eq_some_iff.mp H
      obtain ⟨t221, A70, H⟩ := H
      replace H : (flagstoneref13_Weights.l0 k ji4 y218 t221 0) = some r := H
      have A7 := Aside0.mk A70
      clear A70
      have H' := Aside0.mk H
      clear H
      go_enter Tryd.func22, Tryd.ntmps22
      go_wp2_with (first | ((with_reducible refine gate_dst (N := 12) rfl ?_); refine Kd.R_make (Kd.int .i64) _ 3 rfl (N := 12) rfl 23 _ _ rfl ji4 rfl rfl Tryd.underlying23 (.int .i64 0) 8 info3 rfl (by decide) (by omega) 0 (ok := fun _ => True) (okp := fun _ => True) rfl (fun _ hk => hk) trivial (of_decide_eq_true (by first | (with_reducible assumption) | assumption)) (Nat.le_trans (Nat.mul_le_mul_right _ (of_decide_eq_true (by first | (with_reducible assumption) | assumption) : ji4.toNat ≤ 35184372088832)) (by omega)) (Below.refl _ _) (Nat.le_refl _) ?_; intro v219 w8 ho9 hb hg_ hnew_; clear hg_ hnew_; (first | rw [← Ny218.out] at ho9 | (simp only [Int.reduceToNat] at ho9; rw [← Ny218.out] at ho9)); have n0_ := Aside0.mk (Kd.R_lower ho9 (below_size (by repeat (first | (with_reducible first | exact HB.out | apply below_alloc | apply pw_below_drewN | apply below_drew1) | exact HB.out)))); have n1_ := Aside0.mk (below_step (by repeat (first | (with_reducible first | exact HB.out | apply below_alloc | apply pw_below_drewN | apply below_drew1) | exact HB.out)) hb); clear HB; have HO220 := n0_; have HB := n1_; clear n0_ n1_; clear hb ho9) | ((with_reducible refine gate_callee (f := 43) rfl ?_); refine goesL_ (some 14) rfl rfl Tryd.func43 (by kernel_rfl) rfl #[.slice A0 l0.length c0] rfl (by (try simp only [List.map_toArray, List.map_cons, List.map_nil]); first | done | rfl | (simp only [List.length_drop, List.length_take]; rfl)) ?_; (with_reducible refine (flagstoneref13_All.calls k _ _ l0 t221 _ ?side1 ?side2 A7.out).mono ?_); (case side1 => repeat (first | exact (Kd.C_below HR0.out HB.out) | (with_reducible refine Kd.C_alloc ?_ _) | (with_reducible refine Kd.C_drewN ?_ _) | (with_reducible refine Kd.C_drew ?_))); (case side2 => exact HC0.out); rintro e w10 ⟨v222, rfl, ho0, hb⟩; refine ⟨_, rfl, ?_⟩; have n0_ := Aside0.mk (Kd.R_elder' (by (with_reducible repeat (first | apply Kd.R_alloc | apply Kd.R_drewN | apply Kd.R_drew)); exact HO220.out) (Kd.R_base ho0) hb); have n1_ := Aside0.mk (Kd.R_lower (Kd.R_new' ho0 (Kd.R_lt (by (with_reducible repeat (first | apply Kd.R_alloc | apply Kd.R_drewN | apply Kd.R_drew)); exact HO220.out))) (below_size (by repeat (first | (with_reducible first | exact HB.out | apply below_alloc | apply pw_below_drewN | apply below_drew1) | exact HB.out)))); have n2_ := Aside0.mk (below_step (by repeat (first | (with_reducible first | exact HB.out | apply below_alloc | apply pw_below_drewN | apply below_drew1) | exact HB.out)) hb); clear HO220; clear HB; have HO220 := n0_; have HO223 := n1_; have HB := n2_; clear n0_ n1_ n2_; (try clear hb); (try clear hb2); (try clear hk); (try clear hi); (try clear ho0)))
      go_loopg [7] k (fun kq v7 w' => ∃ (x5_1 : List Int) (x7_1 : Int), v7 = .int .i64 x7_1 ∧ Aside0 (flagstoneref13_Weights.l0 kq ji4 x5_1 t221 x7_1 = some r) ∧ Aside0 (kq ≤ k) ∧ Aside0 (Kd.R (Kd.int .i64) 3 w' w.heap.size (fun k_ => some k_ ≠ (v222 : Value).ownBlock) v219 x5_1) ∧ Aside0 (Kd.R (Kd.int .i64) 3 w' w.heap.size (fun k_ => some k_ ≠ (v219 : Value).ownBlock) v222 t221) ∧ Aside0 (Below w.heap.size w w'))
      case atStart => exact ⟨(y218), (0), (by first | rfl | (simp; done) | (simp [*]; done)), H', ⟨Nat.le_refl _⟩, ⟨by (with_reducible repeat (first | apply Kd.R_alloc | apply Kd.R_drewN | apply Kd.R_drew)); exact Kd.R_mono HO220.out (fun _ hk => hk.2)⟩, ⟨by (with_reducible repeat (first | apply Kd.R_alloc | apply Kd.R_drewN | apply Kd.R_drew)); exact Kd.R_mono HO223.out (fun _ hk => hk.2)⟩, ⟨by repeat (first | (with_reducible first | exact HB.out | apply below_alloc | apply pw_below_drewN | apply below_drew1) | exact HB.out)⟩⟩
      case round =>
        clear H'
        try clear c2
        try clear p2
        try clear c4
        try clear c5
        try clear c5b0
        try clear c5b1
        try clear c6
        try clear c6b0
        try clear c6b1
        obtain ⟨x5_1, x7_1, rfl, HA, HK1, HO_5, HO_6, HB⟩ := hrel
        cases gk with
        | zero => exact absurd HA.out (by simp [flagstoneref13_Weights.l0])
        | succ k1 =>
          have H := HA.out
          clear HA
          simp only [flagstoneref13_Weights.l0] at H
          by_cases c11 : x7_1 < (t221.length : Int)
          · rw [if_pos c11] at H
            have c11b0 : decide (x7_1 < (t221.length : Int)) = true := decide_eq_true c11
            clear c11
            by_cases c12 : 0 ≤ x7_1
            · rw [if_pos c12] at H
              have c12b0 : decide (0 ≤ x7_1) = true := decide_eq_true c12
              clear c12
              by_cases c13 : (rd t221 x7_1) ≥ 1
              · rw [if_pos c13] at H
                have c13b0 : decide (1 ≤ (rd t221 x7_1)) = true := decide_eq_true c13
                clear c13
                by_cases c14 : (rd t221 x7_1) ≤ ji4
                · rw [if_pos c14] at H
                  have c14b0 : decide ((rd t221 x7_1) ≤ ji4) = true := decide_eq_true c14
                  clear c14
                  obtain ⟨ji15, hji15⟩ : ∃ j_ : Int, (wrap64 ((rd t221 x7_1) - 1)) = j_ := ⟨_, rfl⟩
                  replace H : (if 0 ≤ (ji15) then (if (ji15) < (x5_1.length : Int) then (flagstoneref13_Weights.l0 k1 ji4 (x5_1.set ((ji15) : Int).toNat (wrap64 ((rd x5_1 (ji15)) + 1))) t221 (wrap64 (x7_1 + 1))) else (none)) else (none)) = some r := by first | (rw [hji15] at H; exact H) | (simp only [hji15] at H ⊢; exact H)
                  have hji15w : (IntKind.i64.wrap ((rd t221 x7_1) - 1)) = ji15 := (i64_w _).trans hji15
                  by_cases c16 : 0 ≤ (ji15)
                  · rw [if_pos c16] at H
                    have c16b0 : decide (0 ≤ (ji15)) = true := decide_eq_true c16
                    clear c16
                    by_cases c17 : (ji15) < (x5_1.length : Int)
                    · rw [if_pos c17] at H
                      have c17b0 : decide ((ji15) < (x5_1.length : Int)) = true := decide_eq_true c17
                      clear c17
                      obtain ⟨y228, hy228⟩ : ∃ y_ : List Int, y_ = (x5_1.set ((ji15) : Int).toNat (wrap64 ((rd x5_1 (ji15)) + 1))) := ⟨_, rfl⟩
                      replace H : (flagstoneref13_Weights.l0 k1 ji4 y228 t221 (wrap64 (x7_1 + 1))) = some r := by first | (rw [hy228]; with_reducible exact H) | (have H2_ := (Option.bind_some _ _).symm.trans H; rw [hy228]; with_reducible exact H2_) | (have H2_ := (Option.bind_some _ _).symm.trans H; with_reducible exact H2_) | with_reducible exact H | (rw [hy228]; exact H) | exact H
                      have Ny228 := Aside0.mk hy228
                      clear hy228
                      have H' := Aside0.mk H
                      clear H
                      obtain ⟨Ao19, co19, eo19⟩ := Kd.R_slice HO_6.out
                      subst eo19
                      have p224 : 0 ≤ (x7_1 : Int) := of_decide_eq_true (by first | (with_reducible assumption) | assumption)
                      have q224 : x7_1 < (t221.length : Int) := of_decide_eq_true (by first | (with_reducible assumption) | assumption)
                      (try (obtain ⟨AoX_, coX_, eoX_⟩ := Kd.R_slice HO_6.out; subst eoX_))
                      obtain ⟨ad224, e224, hx224_0⟩ := Kd.at_int (Kd.R_reads' HO_6.out).2.2 x7_1 p224 q224
                      cases e224
                      replace p224 := eq_true p224
                      replace q224 := eq_true q224
                      have p225 : 0 ≤ (x7_1 : Int) := of_decide_eq_true (by first | (with_reducible assumption) | assumption)
                      have q225 : x7_1 < (t221.length : Int) := of_decide_eq_true (by first | (with_reducible assumption) | assumption)
                      (try (obtain ⟨AoX_, coX_, eoX_⟩ := Kd.R_slice HO_6.out; subst eoX_))
                      obtain ⟨ad225, e225, hx225_0⟩ := Kd.at_int (Kd.R_reads' HO_6.out).2.2 x7_1 p225 q225
                      obtain rfl : ad224 = ad225 := (by injection e225)
                      replace p225 := eq_true p225
                      replace q225 := eq_true q225
                      have p226 : 0 ≤ (x7_1 : Int) := of_decide_eq_true (by first | (with_reducible assumption) | assumption)
                      have q226 : x7_1 < (t221.length : Int) := of_decide_eq_true (by first | (with_reducible assumption) | assumption)
                      (try (obtain ⟨AoX_, coX_, eoX_⟩ := Kd.R_slice HO_6.out; subst eoX_))
                      obtain ⟨ad226, e226, hx226_0⟩ := Kd.at_int (Kd.R_reads' HO_6.out).2.2 x7_1 p226 q226
                      obtain rfl : ad224 = ad226 := (by injection e226)
                      replace p226 := eq_true p226
                      replace q226 := eq_true q226
                      obtain ⟨Ao20, co20, eo20⟩ := Kd.R_slice HO_5.out
                      subst eo20
                      have p227 : 0 ≤ ((ji15) : Int) := of_decide_eq_true (by first | (with_reducible assumption) | assumption)
                      have q227 : (ji15) < (x5_1.length : Int) := of_decide_eq_true (by first | (with_reducible assumption) | assumption)
                      (try (obtain ⟨AoX_, coX_, eoX_⟩ := Kd.R_slice HO_5.out; subst eoX_))
                      obtain ⟨ad227, e227, hx227_0⟩ := Kd.at_int (Kd.R_reads' HO_5.out).2.2 (ji15) p227 q227
                      cases e227
                      replace p227 := eq_true p227
                      replace q227 := eq_true q227
                      have p18 : 0 ≤ ((ji15) : Int) := of_decide_eq_true (by first | (with_reducible assumption) | assumption)
                      have q18 : ((ji15) : Int) < ((x5_1.length : Int) : Int) := of_decide_eq_true (by first | (with_reducible assumption) | assumption)
                      obtain ⟨go18, co18, eo18, gb18, gl18, cl18, HG18⟩ := Kd.R_form HO_5.out (by omega)
                      (first | cases eo18 | (injection eo18 with ea_ en_ ec_; (first | subst ea_ | (injection ea_ with ea_; subst ea_)); subst ec_; clear en_))
                      have GB18 := Aside0.mk gb18
                      have GG18 := Aside0.mk HG18
                      clear gb18 gl18 HG18
                      (first | simp only [add_plain] at hx227_0 | skip)
                      obtain ⟨hx18_0, hf18_0⟩ := Kd.R_celln 0 HO_5.out ((ji15) : Int) p18 q18
                      replace p18 := eq_true p18
                      replace q18 := eq_true q18
                      have HP21 := Kd.R_putg HO_5.out ((ji15) : Int) (wrap64 ((rd x5_1 (ji15)) + 1))
                      go_wp2_with (first | ((with_reducible refine gate_store (t := 3) (p := 43) rfl ?_); refine store_event (t := 3) (p := 43) (v := ?vo_w22) (w1 := (wr.setCell ⟨go18, ((ji15) : Int).toNat, none⟩ (.int .i64 (wrap64 ((rd x5_1 (ji15)) + 1))))) ?hg ?ho ?hn ?hr ?_; (case ho => rfl); (case hg => rfl); (case hn => rfl); (case hr => first | (go_simp; done) | (go_simp; rfl)); intro w22 hw; have hg : wr.grownBy w22 (some go18) := (by rw [hw]; exact HP21.2); have hp_ : Kd.R (Kd.int .i64) 3 w22 w.heap.size (fun k_ => some k_ ≠ (.slice (some ad224) t221.length co19 : Value).ownBlock) (.slice (some ⟨go18, 0, none⟩) x5_1.length co20) y228 := (by rw [hw, Ny228.out]; exact HP21.1); clear HP21; have n0_ := Aside0.mk (hp_); have n1_ := Aside0.mk (Kd.R_after (v := (.slice (some ⟨go18, 0, none⟩) x5_1.length co20)) (v1 := (.slice (some ⟨go18, 0, none⟩) x5_1.length co20)) (ok := (fun _ => True)) (by (with_reducible repeat (first | apply Kd.R_alloc | apply Kd.R_drewN | apply Kd.R_drew)); exact Kd.R_mono HO_6.out (fun _ hk => ⟨trivial, hk⟩)) hg (.inl rfl)); have n2_ := Aside0.mk ((by rw [hw]; exact below_set (HB.out) GB18.out : Below w.heap.size w w22)); clear HO_5; clear HO_6; clear HB; have HO_5 := n0_; have HO_6 := n1_; have HB := n2_; clear n0_ n1_ n2_; clear hg hw hp_))
                      go_roundg k1
                      case measure => have := HK1.out; omega
                      case rel => exact ⟨(y228), (wrap64 (x7_1 + 1)), (by first | rfl | (simp; done) | (simp [*]; done)), H', ⟨by have := HK1.out; omega⟩, ⟨by (with_reducible repeat (first | apply Kd.R_alloc | apply Kd.R_drewN | apply Kd.R_drew)); exact HO_5.out⟩, ⟨by (with_reducible repeat (first | apply Kd.R_alloc | apply Kd.R_drewN | apply Kd.R_drew)); exact Kd.R_mono HO_6.out (fun _ hk => hk.2)⟩, ⟨by repeat (first | (with_reducible first | exact HB.out | apply below_alloc | apply pw_below_drewN | apply below_drew1) | exact HB.out)⟩⟩
                    · rw [if_neg c17] at H
                      exact absurd H (by simp)
                  · rw [if_neg c16] at H
                    exact absurd H (by simp)
                · rw [if_neg c14] at H
                  have c14b0 : decide ((rd t221 x7_1) ≤ ji4) = false := decide_eq_false c14
                  clear c14
                  have H' := Aside0.mk H
                  clear H
                  obtain ⟨Ao23, co23, eo23⟩ := Kd.R_slice HO_6.out
                  subst eo23
                  have p224 : 0 ≤ (x7_1 : Int) := of_decide_eq_true (by first | (with_reducible assumption) | assumption)
                  have q224 : x7_1 < (t221.length : Int) := of_decide_eq_true (by first | (with_reducible assumption) | assumption)
                  (try (obtain ⟨AoX_, coX_, eoX_⟩ := Kd.R_slice HO_6.out; subst eoX_))
                  obtain ⟨ad224, e224, hx224_0⟩ := Kd.at_int (Kd.R_reads' HO_6.out).2.2 x7_1 p224 q224
                  cases e224
                  replace p224 := eq_true p224
                  replace q224 := eq_true q224
                  have p225 : 0 ≤ (x7_1 : Int) := of_decide_eq_true (by first | (with_reducible assumption) | assumption)
                  have q225 : x7_1 < (t221.length : Int) := of_decide_eq_true (by first | (with_reducible assumption) | assumption)
                  (try (obtain ⟨AoX_, coX_, eoX_⟩ := Kd.R_slice HO_6.out; subst eoX_))
                  obtain ⟨ad225, e225, hx225_0⟩ := Kd.at_int (Kd.R_reads' HO_6.out).2.2 x7_1 p225 q225
                  obtain rfl : ad224 = ad225 := (by injection e225)
                  replace p225 := eq_true p225
                  replace q225 := eq_true q225
                  go_wp2
                  go_roundg k1
                  case measure => have := HK1.out; omega
                  case rel => exact ⟨(x5_1), (wrap64 (x7_1 + 1)), (by first | rfl | (simp; done) | (simp [*]; done)), H', ⟨by have := HK1.out; omega⟩, ⟨by (with_reducible repeat (first | apply Kd.R_alloc | apply Kd.R_drewN | apply Kd.R_drew)); exact HO_5.out⟩, ⟨by (with_reducible repeat (first | apply Kd.R_alloc | apply Kd.R_drewN | apply Kd.R_drew)); exact HO_6.out⟩, ⟨by repeat (first | (with_reducible first | exact HB.out | apply below_alloc | apply pw_below_drewN | apply below_drew1) | exact HB.out)⟩⟩
              · rw [if_neg c13] at H
                have c13b0 : decide (1 ≤ (rd t221 x7_1)) = false := decide_eq_false c13
                clear c13
                have H' := Aside0.mk H
                clear H
                obtain ⟨Ao24, co24, eo24⟩ := Kd.R_slice HO_6.out
                subst eo24
                have p224 : 0 ≤ (x7_1 : Int) := of_decide_eq_true (by first | (with_reducible assumption) | assumption)
                have q224 : x7_1 < (t221.length : Int) := of_decide_eq_true (by first | (with_reducible assumption) | assumption)
                (try (obtain ⟨AoX_, coX_, eoX_⟩ := Kd.R_slice HO_6.out; subst eoX_))
                obtain ⟨ad224, e224, hx224_0⟩ := Kd.at_int (Kd.R_reads' HO_6.out).2.2 x7_1 p224 q224
                cases e224
                replace p224 := eq_true p224
                replace q224 := eq_true q224
                go_wp2
                go_roundg k1
                case measure => have := HK1.out; omega
                case rel => exact ⟨(x5_1), (wrap64 (x7_1 + 1)), (by first | rfl | (simp; done) | (simp [*]; done)), H', ⟨by have := HK1.out; omega⟩, ⟨by (with_reducible repeat (first | apply Kd.R_alloc | apply Kd.R_drewN | apply Kd.R_drew)); exact HO_5.out⟩, ⟨by (with_reducible repeat (first | apply Kd.R_alloc | apply Kd.R_drewN | apply Kd.R_drew)); exact HO_6.out⟩, ⟨by repeat (first | (with_reducible first | exact HB.out | apply below_alloc | apply pw_below_drewN | apply below_drew1) | exact HB.out)⟩⟩
            · rw [if_neg c12] at H
              exact absurd H (by simp)
          · rw [if_neg c11] at H
            have c11b0 : decide (x7_1 < (t221.length : Int)) = false := decide_eq_false c11
            clear c11
            obtain rfl := Option.some.inj H
            obtain ⟨Ao25, co25, eo25⟩ := Kd.R_slice HO_6.out
            subst eo25
            go_wp2
            go_ret
            exact ⟨_, by first | rfl | (simp [errW_none, errW_some] <;> rfl) | (simp only [← hji3, ← hji4]; first | rfl | (simp [errW_none, errW_some] <;> rfl)) | (simp [*, errW_none, errW_some] <;> rfl), by (with_reducible repeat (first | apply Kd.R_alloc | apply Kd.R_drewN | apply Kd.R_drew)); exact Kd.R_mono HO_5.out (fun _ hk => trivial), by repeat (first | (with_reducible first | exact HB.out | apply below_alloc | apply pw_below_drewN | apply below_drew1) | exact HB.out)⟩
    · rw [if_neg c6] at H
      exact absurd H (by simp)
  · rw [if_neg c5] at H
    exact absurd H (by simp)

/-! ### flagstoneref6_Split: function 41 -/
mutual
def flagstoneref6_Split.l0 : Nat → List (S69) → Int → Int → Int → Option (Int)
  | 0, _, _, _, _ => none
  | k + 1, x0, x1, x5, x6 => if x6 < (x0.length : Int) then (if 0 ≤ x6 then (if ((rd_T69 x0 x6).f2) < 1 then (flagstoneref6_Split.j1 k x0 x1 x5 x6 true) else (flagstoneref6_Split.j1 k x0 x1 x5 x6 (decide (((rd_T69 x0 x6).f2) > x1)))) else (none)) else (if x5 = 10000 then (some 0) else (some 3))
def flagstoneref6_Split.j1 : Nat → List (S69) → Int → Int → Int → Bool → Option (Int)
  | 0, _, _, _, _, _ => none
  | k + 1, x0, x1, x5, x6, x30 => if x30 = true then (some 3) else (if 0 ≤ x6 then (if x6 < (x0.length : Int) then (if ((rd_T69 x0 x6).f0) = x5 then (if ((rd_T69 x0 x6).f1) ≤ x5 then (some 9) else (if x6 > 0 then (if 0 ≤ (wrap64 (x6 - 1)) then (if (wrap64 (x6 - 1)) < (x0.length : Int) then (if ((rd_T69 x0 x6).f2) = ((rd_T69 x0 (wrap64 (x6 - 1))).f2) then (some 9) else (flagstoneref6_Split.l0 k x0 x1 ((rd_T69 x0 x6).f1) (wrap64 (x6 + 1)))) else (none)) else (none)) else (flagstoneref6_Split.l0 k x0 x1 ((rd_T69 x0 x6).f1) (wrap64 (x6 + 1))))) else (some 9)) else (none)) else (none))
end
def flagstoneref6_Split.f (k : Nat) (l0 : List (S69)) (a1 : Int) : Option (Int) := if (l0.length : Int) > 16 then (some 5) else (flagstoneref6_Split.l0 k l0 a1 0 0)
theorem flagstoneref6_Split.mono_l : ∀ k, (∀ y0 y1 y2 y3, LeO (flagstoneref6_Split.l0 k y0 y1 y2 y3) (flagstoneref6_Split.l0 (k + 1) y0 y1 y2 y3)) ∧ (∀ y0 y1 y2 y3 y4, LeO (flagstoneref6_Split.j1 k y0 y1 y2 y3 y4) (flagstoneref6_Split.j1 (k + 1) y0 y1 y2 y3 y4))
  | 0 => ⟨fun _ _ _ _ r h => by simp [flagstoneref6_Split.l0] at h, fun _ _ _ _ _ r h => by simp [flagstoneref6_Split.j1] at h⟩
  | k + 1 => by
    obtain ⟨ih0, ih1⟩ := flagstoneref6_Split.mono_l k
    refine ⟨?_, ?_⟩
    · intro y0 y1 y2 y3
      unfold flagstoneref6_Split.l0
      repeat' first
      | (with_reducible exact ih0 _ _ _ _)
      | (with_reducible exact ih1 _ _ _ _ _)
      | (with_reducible exact LeO.refl _)
      | (with_reducible exact LeO.none _)
      | (with_reducible refine LeO.ite ?_ ?_)
      | (with_reducible refine LeO.bind ?_ (fun _ => ?_))
      | exact ih0 _ _ _ _
      | exact ih1 _ _ _ _ _
      | exact LeO.none _
      | refine LeO.ite ?_ ?_
      | refine LeO.bind ?_ (fun _ => ?_)
    · intro y0 y1 y2 y3 y4
      unfold flagstoneref6_Split.j1
      repeat' first
      | (with_reducible exact ih0 _ _ _ _)
      | (with_reducible exact ih1 _ _ _ _ _)
      | (with_reducible exact LeO.refl _)
      | (with_reducible exact LeO.none _)
      | (with_reducible refine LeO.ite ?_ ?_)
      | (with_reducible refine LeO.bind ?_ (fun _ => ?_))
      | exact ih0 _ _ _ _
      | exact ih1 _ _ _ _ _
      | exact LeO.none _
      | refine LeO.ite ?_ ?_
      | refine LeO.bind ?_ (fun _ => ?_)
theorem flagstoneref6_Split.mono : ∀ a0 a1 k, LeO (flagstoneref6_Split.f k a0 a1) (flagstoneref6_Split.f (k + 1) a0 a1) := by
  intro a0 a1 k
  obtain ⟨ih0, ih1⟩ := flagstoneref6_Split.mono_l k
  unfold flagstoneref6_Split.f
  repeat' first
      | (with_reducible exact ih0 _ _ _ _)
      | (with_reducible exact ih1 _ _ _ _ _)
      | (with_reducible exact LeO.refl _)
      | (with_reducible exact LeO.none _)
      | (with_reducible refine LeO.ite ?_ ?_)
      | (with_reducible refine LeO.bind ?_ (fun _ => ?_))
      | exact ih0 _ _ _ _
      | exact ih1 _ _ _ _ _
      | exact LeO.none _
      | refine LeO.ite ?_ ?_
      | refine LeO.bind ?_ (fun _ => ?_)
set_option maxHeartbeats 8000000 in
set_option maxRecDepth 100000 in
theorem flagstoneref6_Split.calls (k : Nat) (A0 : Option Addr) (c0 : Nat) (l0 : List (S69)) (a1 : Int) (r : Int) (w : World) (hr0 : Kd.C k69 w A0 l0.length l0) (hc0 : l0.length ≤ c0) (h : flagstoneref6_Split.f k l0 a1 = some r) :
    Calls Tryd.prog 41 #[.slice A0 l0.length c0, .int .i64 a1] w fun e w' => e = .returned (.int .i64 r) ∧ Drawn0 w w' := by
  have HR0 := Aside0.mk hr0
  have HC0 := Aside0.mk hc0
  clear hr0 hc0
  have H : (if (l0.length : Int) > 16 then (some 5) else (flagstoneref6_Split.l0 k l0 a1 0 0)) = some r := h
  clear h
  by_cases c3 : (l0.length : Int) > 16
  · rw [if_pos c3] at H
    have c3b0 : decide (16 < (l0.length : Int)) = true := decide_eq_true c3
    have c3b1 : decide (16 < l0.length) = true := decide_eq_true (by omega)
    clear c3
    obtain rfl := Option.some.inj H
    go_enter Tryd.func41, Tryd.ntmps41
    go_wp2
    repeat (go_quiet (fail); try go_wp2)
    go_ret
    exact ⟨by first | rfl | (simp; done) | (simp [*]; done), by repeat (first | exact Drawn0.refl _ | apply Drawn0.step)⟩
  · rw [if_neg c3] at H
    have c3b0 : decide (16 < (l0.length : Int)) = false := decide_eq_false c3
    have c3b1 : decide (16 < l0.length) = false := decide_eq_false (by omega)
    clear c3
    have H' := Aside0.mk H
    clear H
    go_enter Tryd.func41, Tryd.ntmps41
    go_wp2
    repeat (go_quiet (fail); try go_wp2)
    go_loopg [5, 6] k (fun kq v5 v6 w' => ∃ (x5_1 : Int) (x6_1 : Int), v5 = .int .i64 x5_1 ∧ v6 = .int .i64 x6_1 ∧ Aside0 (flagstoneref6_Split.l0 kq l0 a1 x5_1 x6_1 = some r) ∧ Aside0 (kq ≤ k) ∧ Drawn0 w w')
    case atStart => exact ⟨(0), (0), (by first | rfl | (simp; done) | (simp [*]; done)), (by first | rfl | (simp; done) | (simp [*]; done)), H', ⟨Nat.le_refl _⟩, by repeat (first | exact Drawn0.refl _ | apply Drawn0.step)⟩
    case round =>
      clear H'
      try clear p2
      try clear c3
      try clear c3b0
      try clear c3b1
      obtain ⟨x5_1, x6_1, rfl, rfl, HA, HK1, ⟨m1, rfl⟩⟩ := hrel
      cases gk with
      | zero => exact absurd HA.out (by simp [flagstoneref6_Split.l0])
      | succ k1 =>
        have H := HA.out
        clear HA
        simp only [flagstoneref6_Split.l0] at H
        by_cases c4 : x6_1 < (l0.length : Int)
        · rw [if_pos c4] at H
          have c4b0 : decide (x6_1 < (l0.length : Int)) = true := decide_eq_true c4
          clear c4
          have HC5 := Aside0.mk H
          clear H
          go_upto_region 7 with (fail)
          repeat (go_quiet (fail); go_upto_region 7 with (fail))
          go_cut [30] (fun v30 wc => ∃ (kq : Nat) (x30_4 : Bool), v30 = .bool x30_4 ∧ Aside0 (flagstoneref6_Split.j1 kq l0 a1 x5_1 x6_1 x30_4 = some r) ∧ Aside0 (kq ≤ k1) ∧ Drawn0 w wc)
          case first =>
            have H := HC5.out
            clear HC5
            by_cases c6 : 0 ≤ x6_1
            · rw [if_pos c6] at H
              have c6b0 : decide (0 ≤ x6_1) = true := decide_eq_true c6
              clear c6
              (first | rw [c6b0] | (simp only [i64_w, i32_w]; rw [c6b0]) | skip)
              by_cases c7 : ((rd_T69 l0 x6_1).f2) < 1
              · rw [if_pos c7] at H
                have c7b0 : decide (((rd_T69 l0 x6_1).f2) < 1) = true := decide_eq_true c7
                clear c7
                have H' := Aside0.mk H
                clear H
                have p229 : 0 ≤ (x6_1 : Int) := of_decide_eq_true (by first | (with_reducible assumption) | assumption)
                have q229 : x6_1 < (l0.length : Int) := of_decide_eq_true (by first | (with_reducible assumption) | assumption)
                obtain ⟨ad229, e229, hx229_0, hx229_1, hx229_2⟩ := at_T69 HR0.out x6_1 p229 q229
                cases e229
                replace p229 := eq_true p229
                replace q229 := eq_true q229
                go_wp2
                repeat (go_quiet (fail); try go_wp2)
                go_meet
                case rel => exact ⟨_, (true), (by first | rfl | (simp; done) | (simp [*]; done)), H', ⟨by have := HK1.out; first | omega | exact Nat.le_refl _⟩, by repeat (first | exact Drawn0.refl _ | apply Drawn0.step)⟩
              · rw [if_neg c7] at H
                have c7b0 : decide (((rd_T69 l0 x6_1).f2) < 1) = false := decide_eq_false c7
                clear c7
                have H' := Aside0.mk H
                clear H
                have p229 : 0 ≤ (x6_1 : Int) := of_decide_eq_true (by first | (with_reducible assumption) | assumption)
                have q229 : x6_1 < (l0.length : Int) := of_decide_eq_true (by first | (with_reducible assumption) | assumption)
                obtain ⟨ad229, e229, hx229_0, hx229_1, hx229_2⟩ := at_T69 HR0.out x6_1 p229 q229
                cases e229
                replace p229 := eq_true p229
                replace q229 := eq_true q229
                have p230 : 0 ≤ (x6_1 : Int) := of_decide_eq_true (by first | (with_reducible assumption) | assumption)
                have q230 : x6_1 < (l0.length : Int) := of_decide_eq_true (by first | (with_reducible assumption) | assumption)
                obtain ⟨ad230, e230, hx230_0, hx230_1, hx230_2⟩ := at_T69 HR0.out x6_1 p230 q230
                obtain rfl : ad229 = ad230 := (by injection e230)
                replace p230 := eq_true p230
                replace q230 := eq_true q230
                go_wp2
                repeat (go_quiet (fail); try go_wp2)
                go_meet
                case rel => exact ⟨_, (decide (((rd_T69 l0 x6_1).f2) > a1)), (by first | rfl | (simp; done) | (simp [*]; done)), H', ⟨by have := HK1.out; first | omega | exact Nat.le_refl _⟩, by repeat (first | exact Drawn0.refl _ | apply Drawn0.step)⟩
            · rw [if_neg c6] at H
              exact absurd H (by simp)
          case rest =>
            clear HC5
            try clear p2
            try clear q2
            try clear hx2
            try clear c3
            try clear c3b0
            try clear c3b1
            try clear c4
            try clear c4b0
            try clear c6
            try clear c6b0
            try clear c7
            try clear c7b0
            try clear hx229_0
            try clear hx229_1
            try clear hx229_2
            try clear hx230_0
            try clear hx230_1
            try clear hx230_2
            try clear p2
            try clear p229
            try clear p230
            try clear q229
            try clear q230
            obtain ⟨kq, x30_4, rfl, HA, HJ4, ⟨mc4, rfl⟩⟩ := hcut
            cases kq with
            | zero => exact absurd HA.out (by simp [flagstoneref6_Split.j1])
            | succ kj4 =>
              have H := HA.out
              clear HA
              simp only [flagstoneref6_Split.j1] at H
              by_cases c8 : x30_4 = true
              · subst c8
                have H1 : (some 3) = some r := by rw [if_pos rfl] at H; exact H
                clear H
                have H := H1
                clear H1
                obtain rfl := Option.some.inj H
                go_wp2
                repeat (go_quiet (fail); try go_wp2)
                go_ret
                exact ⟨by first | rfl | (simp; done) | (simp [*]; done), by repeat (first | exact Drawn0.refl _ | apply Drawn0.step)⟩
              · replace c8 := Bool.eq_false_iff.mpr c8
                subst c8
                have H1 : (if 0 ≤ x6_1 then (if x6_1 < (l0.length : Int) then (if ((rd_T69 l0 x6_1).f0) = x5_1 then (if ((rd_T69 l0 x6_1).f1) ≤ x5_1 then (some 9) else (if x6_1 > 0 then (if 0 ≤ (wrap64 (x6_1 - 1)) then (if (wrap64 (x6_1 - 1)) < (l0.length : Int) then (if ((rd_T69 l0 x6_1).f2) = ((rd_T69 l0 (wrap64 (x6_1 - 1))).f2) then (some 9) else (flagstoneref6_Split.l0 kj4 l0 a1 ((rd_T69 l0 x6_1).f1) (wrap64 (x6_1 + 1)))) else (none)) else (none)) else (flagstoneref6_Split.l0 kj4 l0 a1 ((rd_T69 l0 x6_1).f1) (wrap64 (x6_1 + 1))))) else (some 9)) else (none)) else (none)) = some r := by rw [if_neg (show ¬ (false = true) by decide)] at H; exact H
                clear H
                have H := H1
                clear H1
                by_cases c9 : 0 ≤ x6_1
                · rw [if_pos c9] at H
                  have c9b0 : decide (0 ≤ x6_1) = true := decide_eq_true c9
                  clear c9
                  by_cases c10 : x6_1 < (l0.length : Int)
                  · rw [if_pos c10] at H
                    have c10b0 : decide (x6_1 < (l0.length : Int)) = true := decide_eq_true c10
                    clear c10
                    by_cases c11 : ((rd_T69 l0 x6_1).f0) = x5_1
                    · rw [if_pos c11] at H
                      have c11b0 : (((rd_T69 l0 x6_1).f0) == x5_1) = true := beq_iff_eq.mpr c11
                      have c11b1 : (((rd_T69 l0 x6_1).f0) != x5_1) = false := bne_eq_false_iff_eq.mpr c11
                      clear c11
                      by_cases c12 : ((rd_T69 l0 x6_1).f1) ≤ x5_1
                      · rw [if_pos c12] at H
                        have c12b0 : decide (((rd_T69 l0 x6_1).f1) ≤ x5_1) = true := decide_eq_true c12
                        clear c12
                        obtain rfl := Option.some.inj H
                        have p231 : 0 ≤ (x6_1 : Int) := of_decide_eq_true (by first | (with_reducible assumption) | assumption)
                        have q231 : x6_1 < (l0.length : Int) := of_decide_eq_true (by first | (with_reducible assumption) | assumption)
                        obtain ⟨ad231, e231, hx231_0, hx231_1, hx231_2⟩ := at_T69 HR0.out x6_1 p231 q231
                        cases e231
                        replace p231 := eq_true p231
                        replace q231 := eq_true q231
                        have p232 : 0 ≤ (x6_1 : Int) := of_decide_eq_true (by first | (with_reducible assumption) | assumption)
                        have q232 : x6_1 < (l0.length : Int) := of_decide_eq_true (by first | (with_reducible assumption) | assumption)
                        obtain ⟨ad232, e232, hx232_0, hx232_1, hx232_2⟩ := at_T69 HR0.out x6_1 p232 q232
                        obtain rfl : ad231 = ad232 := (by injection e232)
                        replace p232 := eq_true p232
                        replace q232 := eq_true q232
                        go_wp2
                        repeat (go_quiet (fail); try go_wp2)
                        go_ret
                        exact ⟨by first | rfl | (simp; done) | (simp [*]; done), by repeat (first | exact Drawn0.refl _ | apply Drawn0.step)⟩
                      · rw [if_neg c12] at H
                        have c12b0 : decide (((rd_T69 l0 x6_1).f1) ≤ x5_1) = false := decide_eq_false c12
                        clear c12
                        by_cases c13 : x6_1 > 0
                        · rw [if_pos c13] at H
                          have c13b0 : decide (0 < x6_1) = true := decide_eq_true c13
                          clear c13
                          obtain ⟨ji14, hji14⟩ : ∃ j_ : Int, (wrap64 (x6_1 - 1)) = j_ := ⟨_, rfl⟩
                          replace H : (if 0 ≤ (ji14) then (if (ji14) < (l0.length : Int) then (if ((rd_T69 l0 x6_1).f2) = ((rd_T69 l0 (ji14)).f2) then (some 9) else (flagstoneref6_Split.l0 kj4 l0 a1 ((rd_T69 l0 x6_1).f1) (wrap64 (x6_1 + 1)))) else (none)) else (none)) = some r := by first | (rw [hji14] at H; exact H) | (simp only [hji14] at H ⊢; exact H)
                          have hji14w : (IntKind.i64.wrap (x6_1 - 1)) = ji14 := (i64_w _).trans hji14
                          by_cases c15 : 0 ≤ (ji14)
                          · rw [if_pos c15] at H
                            have c15b0 : decide (0 ≤ (ji14)) = true := decide_eq_true c15
                            clear c15
                            by_cases c16 : (ji14) < (l0.length : Int)
                            · rw [if_pos c16] at H
                              have c16b0 : decide ((ji14) < (l0.length : Int)) = true := decide_eq_true c16
                              clear c16
                              by_cases c17 : ((rd_T69 l0 x6_1).f2) = ((rd_T69 l0 (ji14)).f2)
                              · rw [if_pos c17] at H
                                have c17b0 : (((rd_T69 l0 x6_1).f2) == ((rd_T69 l0 (ji14)).f2)) = true := beq_iff_eq.mpr c17
                                have c17b1 : (((rd_T69 l0 x6_1).f2) != ((rd_T69 l0 (ji14)).f2)) = false := bne_eq_false_iff_eq.mpr c17
                                clear c17
                                obtain rfl := Option.some.inj H
                                have p231 : 0 ≤ (x6_1 : Int) := of_decide_eq_true (by first | (with_reducible assumption) | assumption)
                                have q231 : x6_1 < (l0.length : Int) := of_decide_eq_true (by first | (with_reducible assumption) | assumption)
                                obtain ⟨ad231, e231, hx231_0, hx231_1, hx231_2⟩ := at_T69 HR0.out x6_1 p231 q231
                                cases e231
                                replace p231 := eq_true p231
                                replace q231 := eq_true q231
                                have p232 : 0 ≤ (x6_1 : Int) := of_decide_eq_true (by first | (with_reducible assumption) | assumption)
                                have q232 : x6_1 < (l0.length : Int) := of_decide_eq_true (by first | (with_reducible assumption) | assumption)
                                obtain ⟨ad232, e232, hx232_0, hx232_1, hx232_2⟩ := at_T69 HR0.out x6_1 p232 q232
                                obtain rfl : ad231 = ad232 := (by injection e232)
                                replace p232 := eq_true p232
                                replace q232 := eq_true q232
                                have p233 : 0 ≤ (x6_1 : Int) := of_decide_eq_true (by first | (with_reducible assumption) | assumption)
                                have q233 : x6_1 < (l0.length : Int) := of_decide_eq_true (by first | (with_reducible assumption) | assumption)
                                obtain ⟨ad233, e233, hx233_0, hx233_1, hx233_2⟩ := at_T69 HR0.out x6_1 p233 q233
                                obtain rfl : ad231 = ad233 := (by injection e233)
                                replace p233 := eq_true p233
                                replace q233 := eq_true q233
                                have p234 : 0 ≤ ((ji14) : Int) := of_decide_eq_true (by first | (with_reducible assumption) | assumption)
                                have q234 : (ji14) < (l0.length : Int) := of_decide_eq_true (by first | (with_reducible assumption) | assumption)
                                obtain ⟨ad234, e234, hx234_0, hx234_1, hx234_2⟩ := at_T69 HR0.out (ji14) p234 q234
                                obtain rfl : ad231 = ad234 := (by injection e234)
                                replace p234 := eq_true p234
                                replace q234 := eq_true q234
                                go_wp2
                                repeat (go_quiet (fail); try go_wp2)
                                go_ret
                                exact ⟨by first | rfl | (simp; done) | (simp only [← hji14] <;> (first | rfl | simp)) | (simp [*]; done), by repeat (first | exact Drawn0.refl _ | apply Drawn0.step)⟩
                              · rw [if_neg c17] at H
                                have c17b0 : (((rd_T69 l0 x6_1).f2) == ((rd_T69 l0 (ji14)).f2)) = false := beq_eq_false_iff_ne.mpr c17
                                have c17b1 : (((rd_T69 l0 x6_1).f2) != ((rd_T69 l0 (ji14)).f2)) = true := bne_iff_ne.mpr c17
                                have H' := Aside0.mk H
                                clear H
                                have p231 : 0 ≤ (x6_1 : Int) := of_decide_eq_true (by first | (with_reducible assumption) | assumption)
                                have q231 : x6_1 < (l0.length : Int) := of_decide_eq_true (by first | (with_reducible assumption) | assumption)
                                obtain ⟨ad231, e231, hx231_0, hx231_1, hx231_2⟩ := at_T69 HR0.out x6_1 p231 q231
                                cases e231
                                replace p231 := eq_true p231
                                replace q231 := eq_true q231
                                have p232 : 0 ≤ (x6_1 : Int) := of_decide_eq_true (by first | (with_reducible assumption) | assumption)
                                have q232 : x6_1 < (l0.length : Int) := of_decide_eq_true (by first | (with_reducible assumption) | assumption)
                                obtain ⟨ad232, e232, hx232_0, hx232_1, hx232_2⟩ := at_T69 HR0.out x6_1 p232 q232
                                obtain rfl : ad231 = ad232 := (by injection e232)
                                replace p232 := eq_true p232
                                replace q232 := eq_true q232
                                have p233 : 0 ≤ (x6_1 : Int) := of_decide_eq_true (by first | (with_reducible assumption) | assumption)
                                have q233 : x6_1 < (l0.length : Int) := of_decide_eq_true (by first | (with_reducible assumption) | assumption)
                                obtain ⟨ad233, e233, hx233_0, hx233_1, hx233_2⟩ := at_T69 HR0.out x6_1 p233 q233
                                obtain rfl : ad231 = ad233 := (by injection e233)
                                replace p233 := eq_true p233
                                replace q233 := eq_true q233
                                have p234 : 0 ≤ ((ji14) : Int) := of_decide_eq_true (by first | (with_reducible assumption) | assumption)
                                have q234 : (ji14) < (l0.length : Int) := of_decide_eq_true (by first | (with_reducible assumption) | assumption)
                                obtain ⟨ad234, e234, hx234_0, hx234_1, hx234_2⟩ := at_T69 HR0.out (ji14) p234 q234
                                obtain rfl : ad231 = ad234 := (by injection e234)
                                replace p234 := eq_true p234
                                replace q234 := eq_true q234
                                have p235 : 0 ≤ (x6_1 : Int) := of_decide_eq_true (by first | (with_reducible assumption) | assumption)
                                have q235 : x6_1 < (l0.length : Int) := of_decide_eq_true (by first | (with_reducible assumption) | assumption)
                                obtain ⟨ad235, e235, hx235_0, hx235_1, hx235_2⟩ := at_T69 HR0.out x6_1 p235 q235
                                obtain rfl : ad231 = ad235 := (by injection e235)
                                replace p235 := eq_true p235
                                replace q235 := eq_true q235
                                go_wp2
                                repeat (go_quiet (fail); try go_wp2)
                                go_roundg kj4
                                case measure => have := HK1.out; have := HJ4.out; omega
                                case rel => exact ⟨((rd_T69 l0 x6_1).f1), (wrap64 (x6_1 + 1)), (by first | rfl | (simp; done) | (simp [*]; done)), (by first | rfl | (simp; done) | (simp [*]; done)), H', ⟨by have := HK1.out; have := HJ4.out; omega⟩, by repeat (first | exact Drawn0.refl _ | apply Drawn0.step)⟩
                            · rw [if_neg c16] at H
                              exact absurd H (by simp)
                          · rw [if_neg c15] at H
                            exact absurd H (by simp)
                        · rw [if_neg c13] at H
                          have c13b0 : decide (0 < x6_1) = false := decide_eq_false c13
                          clear c13
                          have H' := Aside0.mk H
                          clear H
                          have p231 : 0 ≤ (x6_1 : Int) := of_decide_eq_true (by first | (with_reducible assumption) | assumption)
                          have q231 : x6_1 < (l0.length : Int) := of_decide_eq_true (by first | (with_reducible assumption) | assumption)
                          obtain ⟨ad231, e231, hx231_0, hx231_1, hx231_2⟩ := at_T69 HR0.out x6_1 p231 q231
                          cases e231
                          replace p231 := eq_true p231
                          replace q231 := eq_true q231
                          have p232 : 0 ≤ (x6_1 : Int) := of_decide_eq_true (by first | (with_reducible assumption) | assumption)
                          have q232 : x6_1 < (l0.length : Int) := of_decide_eq_true (by first | (with_reducible assumption) | assumption)
                          obtain ⟨ad232, e232, hx232_0, hx232_1, hx232_2⟩ := at_T69 HR0.out x6_1 p232 q232
                          obtain rfl : ad231 = ad232 := (by injection e232)
                          replace p232 := eq_true p232
                          replace q232 := eq_true q232
                          have p236 : 0 ≤ (x6_1 : Int) := of_decide_eq_true (by first | (with_reducible assumption) | assumption)
                          have q236 : x6_1 < (l0.length : Int) := of_decide_eq_true (by first | (with_reducible assumption) | assumption)
                          obtain ⟨ad236, e236, hx236_0, hx236_1, hx236_2⟩ := at_T69 HR0.out x6_1 p236 q236
                          obtain rfl : ad231 = ad236 := (by injection e236)
                          replace p236 := eq_true p236
                          replace q236 := eq_true q236
                          go_wp2
                          repeat (go_quiet (fail); try go_wp2)
                          go_roundg kj4
                          case measure => have := HK1.out; have := HJ4.out; omega
                          case rel => exact ⟨((rd_T69 l0 x6_1).f1), (wrap64 (x6_1 + 1)), (by first | rfl | (simp; done) | (simp [*]; done)), (by first | rfl | (simp; done) | (simp [*]; done)), H', ⟨by have := HK1.out; have := HJ4.out; omega⟩, by repeat (first | exact Drawn0.refl _ | apply Drawn0.step)⟩
                    · rw [if_neg c11] at H
                      have c11b0 : (((rd_T69 l0 x6_1).f0) == x5_1) = false := beq_eq_false_iff_ne.mpr c11
                      have c11b1 : (((rd_T69 l0 x6_1).f0) != x5_1) = true := bne_iff_ne.mpr c11
                      obtain rfl := Option.some.inj H
                      have p231 : 0 ≤ (x6_1 : Int) := of_decide_eq_true (by first | (with_reducible assumption) | assumption)
                      have q231 : x6_1 < (l0.length : Int) := of_decide_eq_true (by first | (with_reducible assumption) | assumption)
                      obtain ⟨ad231, e231, hx231_0, hx231_1, hx231_2⟩ := at_T69 HR0.out x6_1 p231 q231
                      cases e231
                      replace p231 := eq_true p231
                      replace q231 := eq_true q231
                      go_wp2
                      repeat (go_quiet (fail); try go_wp2)
                      go_ret
                      exact ⟨by first | rfl | (simp; done) | (simp [*]; done), by repeat (first | exact Drawn0.refl _ | apply Drawn0.step)⟩
                  · rw [if_neg c10] at H
                    exact absurd H (by simp)
                · rw [if_neg c9] at H
                  exact absurd H (by simp)
        · rw [if_neg c4] at H
          have c4b0 : decide (x6_1 < (l0.length : Int)) = false := decide_eq_false c4
          clear c4
          by_cases c18 : x5_1 = 10000
          · rw [if_pos c18] at H
            have c18b0 : (x5_1 == 10000) = true := beq_iff_eq.mpr c18
            have c18b1 : (x5_1 != 10000) = false := bne_eq_false_iff_eq.mpr c18
            clear c18
            obtain rfl := Option.some.inj H
            go_wp2
            repeat (go_quiet (fail); try go_wp2)
            go_ret
            exact ⟨by first | rfl | (simp; done) | (simp [*]; done), by repeat (first | exact Drawn0.refl _ | apply Drawn0.step)⟩
          · rw [if_neg c18] at H
            have c18b0 : (x5_1 == 10000) = false := beq_eq_false_iff_ne.mpr c18
            have c18b1 : (x5_1 != 10000) = true := bne_iff_ne.mpr c18
            obtain rfl := Option.some.inj H
            go_wp2
            repeat (go_quiet (fail); try go_wp2)
            go_ret
            exact ⟨by first | rfl | (simp; done) | (simp [*]; done), by repeat (first | exact Drawn0.refl _ | apply Drawn0.step)⟩

/-! ### flagstoneref13_weights: function 42 -/
def flagstoneref13_weights.l0 : Nat → List Int → Int → Int → Option (Int)
  | 0, _, _, _ => none
  | k + 1, x0, x3, x4 => if x4 < (x0.length : Int) then (if 0 ≤ x4 then (if (rd x0 x4) < 0 then (some 3) else (if (rd x0 x4) > x3 then (some 3) else (flagstoneref13_weights.l0 k x0 (wrap64 (x3 - (rd x0 x4))) (wrap64 (x4 + 1))))) else (none)) else (if x3 = 0 then (some 0) else (some 3))
def flagstoneref13_weights.f (k : Nat) (l0 : List Int) : Option (Int) := if (l0.length : Int) > 8 then (some 5) else (flagstoneref13_weights.l0 k l0 10000 0)
theorem flagstoneref13_weights.mono_l : ∀ k, (∀ y0 y1 y2, LeO (flagstoneref13_weights.l0 k y0 y1 y2) (flagstoneref13_weights.l0 (k + 1) y0 y1 y2))
  | 0 => fun _ _ _ r h => by simp [flagstoneref13_weights.l0] at h
  | k + 1 => by
    have ih0 := flagstoneref13_weights.mono_l k
    · intro y0 y1 y2
      unfold flagstoneref13_weights.l0
      repeat' first
      | (with_reducible exact ih0 _ _ _)
      | (with_reducible exact LeO.refl _)
      | (with_reducible exact LeO.none _)
      | (with_reducible refine LeO.ite ?_ ?_)
      | (with_reducible refine LeO.bind ?_ (fun _ => ?_))
      | exact ih0 _ _ _
      | exact LeO.none _
      | refine LeO.ite ?_ ?_
      | refine LeO.bind ?_ (fun _ => ?_)
theorem flagstoneref13_weights.mono : ∀ a0 k, LeO (flagstoneref13_weights.f k a0) (flagstoneref13_weights.f (k + 1) a0) := by
  intro a0 k
  have ih0 := flagstoneref13_weights.mono_l k
  unfold flagstoneref13_weights.f
  repeat' first
      | (with_reducible exact ih0 _ _ _)
      | (with_reducible exact LeO.refl _)
      | (with_reducible exact LeO.none _)
      | (with_reducible refine LeO.ite ?_ ?_)
      | (with_reducible refine LeO.bind ?_ (fun _ => ?_))
      | exact ih0 _ _ _
      | exact LeO.none _
      | refine LeO.ite ?_ ?_
      | refine LeO.bind ?_ (fun _ => ?_)
set_option maxHeartbeats 8000000 in
set_option maxRecDepth 100000 in
theorem flagstoneref13_weights.calls (k : Nat) (A0 : Option Addr) (c0 : Nat) (l0 : List Int) (r : Int) (w : World) (hr0 : Kd.C (Kd.int .i64) w A0 l0.length l0) (hc0 : l0.length ≤ c0) (h : flagstoneref13_weights.f k l0 = some r) :
    Calls Tryd.prog 42 #[.slice A0 l0.length c0] w fun e w' => e = .returned (.int .i64 r) ∧ Drawn0 w w' := by
  have HR0 := Aside0.mk hr0
  have HC0 := Aside0.mk hc0
  clear hr0 hc0
  have H : (if (l0.length : Int) > 8 then (some 5) else (flagstoneref13_weights.l0 k l0 10000 0)) = some r := h
  clear h
  by_cases c2 : (l0.length : Int) > 8
  · rw [if_pos c2] at H
    have c2b0 : decide (8 < (l0.length : Int)) = true := decide_eq_true c2
    have c2b1 : decide (8 < l0.length) = true := decide_eq_true (by omega)
    clear c2
    obtain rfl := Option.some.inj H
    go_enter Tryd.func42, Tryd.ntmps42
    go_wp2
    go_ret
    exact ⟨by first | rfl | (simp; done) | (simp [*]; done), by repeat (first | exact Drawn0.refl _ | apply Drawn0.step)⟩
  · rw [if_neg c2] at H
    have c2b0 : decide (8 < (l0.length : Int)) = false := decide_eq_false c2
    have c2b1 : decide (8 < l0.length) = false := decide_eq_false (by omega)
    clear c2
    have H' := Aside0.mk H
    clear H
    go_enter Tryd.func42, Tryd.ntmps42
    go_wp2
    go_loopg [3, 4] k (fun kq v3 v4 w' => ∃ (x3_1 : Int) (x4_1 : Int), v3 = .int .i64 x3_1 ∧ v4 = .int .i64 x4_1 ∧ Aside0 (flagstoneref13_weights.l0 kq l0 x3_1 x4_1 = some r) ∧ Aside0 (kq ≤ k) ∧ Drawn0 w w')
    case atStart => exact ⟨(10000), (0), (by first | rfl | (simp; done) | (simp [*]; done)), (by first | rfl | (simp; done) | (simp [*]; done)), H', ⟨Nat.le_refl _⟩, by repeat (first | exact Drawn0.refl _ | apply Drawn0.step)⟩
    case round =>
      clear H'
      try clear c2
      try clear c2b0
      try clear c2b1
      try clear p2
      obtain ⟨x3_1, x4_1, rfl, rfl, HA, HK1, ⟨m1, rfl⟩⟩ := hrel
      cases gk with
      | zero => exact absurd HA.out (by simp [flagstoneref13_weights.l0])
      | succ k1 =>
        have H := HA.out
        clear HA
        simp only [flagstoneref13_weights.l0] at H
        by_cases c3 : x4_1 < (l0.length : Int)
        · rw [if_pos c3] at H
          have c3b0 : decide (x4_1 < (l0.length : Int)) = true := decide_eq_true c3
          clear c3
          by_cases c4 : 0 ≤ x4_1
          · rw [if_pos c4] at H
            have c4b0 : decide (0 ≤ x4_1) = true := decide_eq_true c4
            clear c4
            by_cases c5 : (rd l0 x4_1) < 0
            · rw [if_pos c5] at H
              have c5b0 : decide ((rd l0 x4_1) < 0) = true := decide_eq_true c5
              clear c5
              obtain rfl := Option.some.inj H
              have p237 : 0 ≤ (x4_1 : Int) := of_decide_eq_true (by first | (with_reducible assumption) | assumption)
              have q237 : x4_1 < (l0.length : Int) := of_decide_eq_true (by first | (with_reducible assumption) | assumption)
              obtain ⟨ad237, e237, hx237_0⟩ := Kd.at_int HR0.out x4_1 p237 q237
              cases e237
              replace p237 := eq_true p237
              replace q237 := eq_true q237
              go_wp2
              go_ret
              exact ⟨by first | rfl | (simp; done) | (simp [*]; done), by repeat (first | exact Drawn0.refl _ | apply Drawn0.step)⟩
            · rw [if_neg c5] at H
              have c5b0 : decide ((rd l0 x4_1) < 0) = false := decide_eq_false c5
              clear c5
              by_cases c6 : (rd l0 x4_1) > x3_1
              · rw [if_pos c6] at H
                have c6b0 : decide (x3_1 < (rd l0 x4_1)) = true := decide_eq_true c6
                clear c6
                obtain rfl := Option.some.inj H
                have p237 : 0 ≤ (x4_1 : Int) := of_decide_eq_true (by first | (with_reducible assumption) | assumption)
                have q237 : x4_1 < (l0.length : Int) := of_decide_eq_true (by first | (with_reducible assumption) | assumption)
                obtain ⟨ad237, e237, hx237_0⟩ := Kd.at_int HR0.out x4_1 p237 q237
                cases e237
                replace p237 := eq_true p237
                replace q237 := eq_true q237
                have p238 : 0 ≤ (x4_1 : Int) := of_decide_eq_true (by first | (with_reducible assumption) | assumption)
                have q238 : x4_1 < (l0.length : Int) := of_decide_eq_true (by first | (with_reducible assumption) | assumption)
                obtain ⟨ad238, e238, hx238_0⟩ := Kd.at_int HR0.out x4_1 p238 q238
                obtain rfl : ad237 = ad238 := (by injection e238)
                replace p238 := eq_true p238
                replace q238 := eq_true q238
                go_wp2
                go_ret
                exact ⟨by first | rfl | (simp; done) | (simp [*]; done), by repeat (first | exact Drawn0.refl _ | apply Drawn0.step)⟩
              · rw [if_neg c6] at H
                have c6b0 : decide (x3_1 < (rd l0 x4_1)) = false := decide_eq_false c6
                clear c6
                have H' := Aside0.mk H
                clear H
                have p237 : 0 ≤ (x4_1 : Int) := of_decide_eq_true (by first | (with_reducible assumption) | assumption)
                have q237 : x4_1 < (l0.length : Int) := of_decide_eq_true (by first | (with_reducible assumption) | assumption)
                obtain ⟨ad237, e237, hx237_0⟩ := Kd.at_int HR0.out x4_1 p237 q237
                cases e237
                replace p237 := eq_true p237
                replace q237 := eq_true q237
                have p238 : 0 ≤ (x4_1 : Int) := of_decide_eq_true (by first | (with_reducible assumption) | assumption)
                have q238 : x4_1 < (l0.length : Int) := of_decide_eq_true (by first | (with_reducible assumption) | assumption)
                obtain ⟨ad238, e238, hx238_0⟩ := Kd.at_int HR0.out x4_1 p238 q238
                obtain rfl : ad237 = ad238 := (by injection e238)
                replace p238 := eq_true p238
                replace q238 := eq_true q238
                have p239 : 0 ≤ (x4_1 : Int) := of_decide_eq_true (by first | (with_reducible assumption) | assumption)
                have q239 : x4_1 < (l0.length : Int) := of_decide_eq_true (by first | (with_reducible assumption) | assumption)
                obtain ⟨ad239, e239, hx239_0⟩ := Kd.at_int HR0.out x4_1 p239 q239
                obtain rfl : ad237 = ad239 := (by injection e239)
                replace p239 := eq_true p239
                replace q239 := eq_true q239
                go_wp2
                go_roundg k1
                case measure => have := HK1.out; omega
                case rel => exact ⟨(wrap64 (x3_1 - (rd l0 x4_1))), (wrap64 (x4_1 + 1)), (by first | rfl | (simp; done) | (simp [*]; done)), (by first | rfl | (simp; done) | (simp [*]; done)), H', ⟨by have := HK1.out; omega⟩, by repeat (first | exact Drawn0.refl _ | apply Drawn0.step)⟩
          · rw [if_neg c4] at H
            exact absurd H (by simp)
        · rw [if_neg c3] at H
          have c3b0 : decide (x4_1 < (l0.length : Int)) = false := decide_eq_false c3
          clear c3
          by_cases c7 : x3_1 = 0
          · rw [if_pos c7] at H
            have c7b0 : (x3_1 == 0) = true := beq_iff_eq.mpr c7
            have c7b1 : (x3_1 != 0) = false := bne_eq_false_iff_eq.mpr c7
            clear c7
            obtain rfl := Option.some.inj H
            go_wp2
            go_ret
            exact ⟨by first | rfl | (simp; done) | (simp [*]; done), by repeat (first | exact Drawn0.refl _ | apply Drawn0.step)⟩
          · rw [if_neg c7] at H
            have c7b0 : (x3_1 == 0) = false := beq_eq_false_iff_ne.mpr c7
            have c7b1 : (x3_1 != 0) = true := bne_iff_ne.mpr c7
            obtain rfl := Option.some.inj H
            go_wp2
            go_ret
            exact ⟨by first | rfl | (simp; done) | (simp [*]; done), by repeat (first | exact Drawn0.refl _ | apply Drawn0.step)⟩

end Go.Proofs.YtefglphdiimhnaaDoor.Q
