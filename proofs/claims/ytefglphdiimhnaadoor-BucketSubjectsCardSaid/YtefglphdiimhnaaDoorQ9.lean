-- printed by wip/hp.py (the session's driver of the print, with hand-proved contracts)
import Derived.Test.YtefglphdiimhnaaDoorQ0
import Derived.Test.YtefglphdiimhnaaDoorQ7
import Derived.Test.YtefglphdiimhnaaDoorQ8
namespace Go.Proofs.YtefglphdiimhnaaDoor.Q
open Go.RowKit Go.Proofs.YtefglphdiimhnaaDoorW.PrintWords Go.Proofs.YtefglphdiimhnaaDoorW.PrintLast Go.Proofs.YtefglphdiimhnaaDoorW.PrintMore
attribute [local go_sem] max2_int min2_int max_two min_two max_three min_three max_four min_four   -- for this text's walks alone
set_option linter.unusedVariables false
set_option linter.unusedSimpArgs false

/-! ### flagstonedraw_Codes_Subject: function 32 -/
def flagstonedraw_Codes_Subject.j0 : Nat → Int → Bool → List Int → Int → Option ((List (S85)) × Int)
  | 0, _, _, _, _ => none
  | k + 1, x4, x16, x1000, x1001 => if x16 = true then ((flagstonedraw_Codes_context.f k x1000 x1001 (⟨#[100, 101, 118, 105, 99, 101]⟩ : ByteArray)).bind fun bt211 => (if ([] : List (S85)).length < 2513169434916 then ((some (([] : List (S85)) ++ [(⟨bt211.1, bt211.2.1, bt211.2.2.1⟩ : S85)] : List (S85))).bind fun y217 => (if x4 = 1 then (some (y217, bt211.2.2.2)) else (if x4 = 5 then (some (y217, bt211.2.2.2)) else ((flagstonedraw_Codes_context.f k x1000 bt211.2.2.2 (⟨#[117, 115, 101, 114]⟩ : ByteArray)).bind fun bt220 => (if y217.length < 2513169434916 then (some ((y217 ++ [(⟨bt220.1, bt220.2.1, bt220.2.2.1⟩ : S85)]), bt220.2.2.2)) else (none)))))) else (none))) else (if x4 = 1 then (some (([] : List (S85)), x1001)) else (if x4 = 5 then (some (([] : List (S85)), x1001)) else ((flagstonedraw_Codes_context.f k x1000 x1001 (⟨#[117, 115, 101, 114]⟩ : ByteArray)).bind fun bt229 => (if ([] : List (S85)).length < 2513169434916 then (some ((([] : List (S85)) ++ [(⟨bt229.1, bt229.2.1, bt229.2.2.1⟩ : S85)]), bt229.2.2.2)) else (none)))))
def flagstonedraw_Codes_Subject.f (k : Nat) (s0_0 : List Int) (s0_1 : Int) : Option ((List (S85)) × Int) := (flagstonedraw_Codes_Next.f s0_0 s0_1 6).bind fun bt209 => (if bt209.1 = 1 then (flagstonedraw_Codes_Subject.j0 k bt209.1 true s0_0 bt209.2) else (if bt209.1 = 2 then (flagstonedraw_Codes_Subject.j0 k bt209.1 true s0_0 bt209.2) else (flagstonedraw_Codes_Subject.j0 k bt209.1 (bt209.1 == 4) s0_0 bt209.2)))
theorem flagstonedraw_Codes_Subject.mono_l : ∀ k, (∀ y0 y1 y2 y3, LeO (flagstonedraw_Codes_Subject.j0 k y0 y1 y2 y3) (flagstonedraw_Codes_Subject.j0 (k + 1) y0 y1 y2 y3))
  | 0 => fun _ _ _ _ r h => by simp [flagstonedraw_Codes_Subject.j0] at h
  | k + 1 => by
    have ih0 := flagstonedraw_Codes_Subject.mono_l k
    · intro y0 y1 y2 y3
      unfold flagstonedraw_Codes_Subject.j0
      repeat' first
      | (with_reducible exact ih0 _ _ _ _)
      | (with_reducible exact flagstonedraw_Codes_context.mono _ _ _ _)
      | (with_reducible exact LeO.refl _)
      | (with_reducible exact LeO.none _)
      | (with_reducible refine LeO.ite ?_ ?_)
      | (with_reducible refine LeO.bind ?_ (fun _ => ?_))
      | exact ih0 _ _ _ _
      | exact flagstonedraw_Codes_context.mono _ _ _ _
      | exact LeO.none _
      | refine LeO.ite ?_ ?_
      | refine LeO.bind ?_ (fun _ => ?_)
theorem flagstonedraw_Codes_Subject.mono : ∀ a0 a1 k, LeO (flagstonedraw_Codes_Subject.f k a0 a1) (flagstonedraw_Codes_Subject.f (k + 1) a0 a1) := by
  intro a0 a1 k
  have ih0 := flagstonedraw_Codes_Subject.mono_l k
  unfold flagstonedraw_Codes_Subject.f
  repeat' first
      | (with_reducible exact ih0 _ _ _ _)
      | (with_reducible exact flagstonedraw_Codes_context.mono _ _ _ _)
      | (with_reducible exact LeO.refl _)
      | (with_reducible exact LeO.none _)
      | (with_reducible refine LeO.ite ?_ ?_)
      | (with_reducible refine LeO.bind ?_ (fun _ => ?_))
      | exact ih0 _ _ _ _
      | exact flagstonedraw_Codes_context.mono _ _ _ _
      | exact LeO.none _
      | refine LeO.ite ?_ ?_
      | refine LeO.bind ?_ (fun _ => ?_)
def flagstonedraw_Codes_Subject.T4 : Bool × List (List Nat × List Nat) := (true, [([], []), ([0], [0]), ([], []), ([2], [2]), ([3], [3]), ([1, 4, 3], [1, 4]), ([0, 1, 2, 3, 4, 5], []), ([6, 5, 5, 0, 1, 2, 3, 4, 5], [5, 6])])
def flagstonedraw_Codes_Subject.B4 : List Nat := [0, 1, 0, 4, 12, 31, 63, 127]
theorem flagstonedraw_Codes_Subject.tab4 : rtab .any (opsOf Tryd.f32 4) = flagstonedraw_Codes_Subject.T4 := by kernel_rfl
theorem flagstonedraw_Codes_Subject.bits4 : waitsOk flagstonedraw_Codes_Subject.T4.2 flagstonedraw_Codes_Subject.B4 = true := by kernel_rfl
def flagstonedraw_Codes_Subject.T6 : Bool × List (List Nat × List Nat) := (true, [([], []), ([0], [0]), ([], []), ([2], [2]), ([3], [3]), ([1, 4, 3], [1, 4]), ([0, 1, 2, 3, 4, 5], []), ([6, 5, 5, 0, 1, 2, 3, 4, 5], [5, 6])])
def flagstonedraw_Codes_Subject.B6 : List Nat := [0, 1, 0, 4, 12, 31, 63, 127]
theorem flagstonedraw_Codes_Subject.tab6 : rtab .any (opsOf Tryd.f32 6) = flagstonedraw_Codes_Subject.T6 := by kernel_rfl
theorem flagstonedraw_Codes_Subject.bits6 : waitsOk flagstonedraw_Codes_Subject.T6.2 flagstonedraw_Codes_Subject.B6 = true := by kernel_rfl
set_option maxHeartbeats 8000000 in
set_option maxRecDepth 100000 in
theorem flagstonedraw_Codes_Subject.calls (k : Nat) (g : Nat) (s0_0 : List Int) (s0_1 : Int) (r1 : List (S85)) (r2 : Int) (w0 w : World) (hI : IsS71 w0 w g s0_0 s0_1) (hB : Below w0.heap.size w0 w) (hGL : GL w0) (h : flagstonedraw_Codes_Subject.f k s0_0 s0_1 = some (r1, r2)) :
    Calls Tryd.prog 32 #[.pointer (some ⟨g, 0, none⟩)] w fun e w' => ∃ v0_ : Value, e = .returned (.agg #[v0_]) ∧ Kd.V k85 85 w' w.heap.size (fun k_ => (w.heap.size ≤ k_)) v0_ r1 ∧ IsS71 w0 w' g s0_0 r2 ∧ Below w0.heap.size w0 w' ∧ KeepBut w w' g none := by
  have hu58 := Tryd.underlying58; have HGL := Aside0.mk hGL; clear hGL; have HI0 := Aside0.mk hI
  have HK := Aside0.mk (KeepBut.refl w g none)
  have HL := Aside0.mk hB.size; clear hI; have HW0 := Aside0.mk hB.size; have HB := Aside0.mk hB; clear hB
  have H : ((flagstonedraw_Codes_Next.f s0_0 s0_1 6).bind fun bt209 => (if bt209.1 = 1 then (flagstonedraw_Codes_Subject.j0 k bt209.1 true s0_0 bt209.2) else (if bt209.1 = 2 then (flagstonedraw_Codes_Subject.j0 k bt209.1 true s0_0 bt209.2) else (flagstonedraw_Codes_Subject.j0 k bt209.1 (bt209.1 == 4) s0_0 bt209.2)))) = some (r1, r2) := h
  clear h; replace H := Option.bind_eq_some_iff.mp H
  obtain ⟨⟨t209, t210⟩, A20, H⟩ := H
  replace H : (if t209 = 1 then (flagstonedraw_Codes_Subject.j0 k t209 true s0_0 t210) else (if t209 = 2 then (flagstonedraw_Codes_Subject.j0 k t209 true s0_0 t210) else (flagstonedraw_Codes_Subject.j0 k t209 (t209 == 4) s0_0 t210))) = some (r1, r2) := H
  have A2 := Aside0.mk A20; clear A20; have HC3 := Aside0.mk H; clear H
  go_enter Tryd.func32, Tryd.ntmps32
  go_upto_region 3 with (first | ((with_reducible refine gate_dst (N := 2) rfl ?_); refine box_event ?hg (N := 2) ?hd (cs := #[.slice none 0 0]) (t := 58) ?hr ?_; (case hd => rfl); (case hg => rfl); (case hr => first | (go_simp; done) | (go_simp; rfl)); intro gb207 hg w4 hbox hb; have n0_ := Aside0.mk (IsS71.below (by repeat (first | (with_reducible first | exact HI0.out | apply IsS71.alloc | apply IsS71.drewN | apply IsS71.drew | apply IsS71.set_1) | exact HI0.out)) hb); have n1_ := Aside0.mk (KeepBut.trans (by repeat (first | (with_reducible first | exact HK.out | apply KeepBut.set_ | apply zF | apply zG | apply zH) | exact HK.out)) (KeepBut.of_below hb g none) (.inl rfl)); have n2_ := Aside0.mk (below_step (by repeat (first | (with_reducible first|exact HB.out|apply zE|apply zB|apply zC | refine zJ ?_ (IsS71.ge HI0.out)) | exact HB.out)) hb); have n3_ := Aside0.mk (hbox); have n4_ := Aside0.mk ((by rw [hg]; exact (keep_size (w := w) (g := g) (row := none) (by repeat (first | (with_reducible first | exact HK.out | apply KeepBut.set_ | apply zF | apply zG | apply zH) | exact HK.out))) : w.heap.size ≤ gb207)); have n5_ := Aside0.mk ((Nat.le_trans HW0.out (by rw [hg]; exact (keep_size (w := w) (g := g) (row := none) (by repeat (first | (with_reducible first | exact HK.out | apply KeepBut.set_ | apply zF | apply zG | apply zH) | exact HK.out))) : w.heap.size ≤ gb207) : w0.heap.size ≤ gb207)); have n6_ := Aside0.mk ((by rw [hg]; exact Nat.ne_of_lt (IsS71.lt (show IsS71 w0 _ g s0_0 s0_1 from by repeat (first | (with_reducible first | exact HI0.out | apply IsS71.alloc | apply IsS71.drewN | apply IsS71.drew | apply IsS71.set_1) | exact HI0.out))) : g ≠ gb207)); have n7_ := Aside0.mk ((by rw [hg]; exact Nat.ne_of_gt (IsS71.lt (show IsS71 w0 _ g s0_0 s0_1 from by repeat (first | (with_reducible first | exact HI0.out | apply IsS71.alloc | apply IsS71.drewN | apply IsS71.drew | apply IsS71.set_1) | exact HI0.out))) : gb207 ≠ g)); clear HI0 HK HB; have HI0 := n0_; have HK := n1_; have HB := n2_; have BK207 := n3_; have GW207 := n4_; have GE207 := n5_; have NB0_207 := n6_; have NB207_0 := n7_; clear n0_ n1_ n2_ n3_ n4_ n5_ n6_ n7_ hb hbox hg) | ((with_reducible refine gate_dst (N := 3) rfl ?_); refine box_event ?hg (N := 3) ?hd (cs := #[.slice none 0 0]) (t := 58) ?hr ?_; (case hd => rfl); (case hg => rfl); (case hr => first | (go_simp; done) | (go_simp; rfl)); intro gb208 hg w5 hbox hb; have n0_ := Aside0.mk (IsS71.below (by repeat (first | (with_reducible first | exact HI0.out | apply IsS71.alloc | apply IsS71.drewN | apply IsS71.drew | apply IsS71.set_1 | refine IsS71.far ?_ NB0_207.out _) | exact HI0.out)) hb); have n1_ := Aside0.mk (blk_below (g := gb207) (o := .cells #[.slice none 0 0] 58 (0, 0)) (by (with_reducible repeat (first|refine zN ?_ _|refine zD ?_|refine zA ?_ _)); exact BK207.out) hb); have n2_ := Aside0.mk (KeepBut.trans (by repeat (first | (with_reducible first | exact HK.out | apply KeepBut.set_ | apply zF | apply zG | apply zH | refine zI ?_ GW207.out _) | exact HK.out)) (KeepBut.of_below hb g none) (.inl rfl)); have n3_ := Aside0.mk (below_step (by repeat (first | (with_reducible first|exact HB.out|apply zE|apply zB|apply zC | refine zJ ?_ (IsS71.ge HI0.out) | refine zJ ?_ GE207.out) | exact HB.out)) hb); have n4_ := Aside0.mk (hbox); have n5_ := Aside0.mk ((by rw [hg]; exact (keep_size (w := w) (g := g) (row := none) (by repeat (first | (with_reducible first | exact HK.out | apply KeepBut.set_ | apply zF | apply zG | apply zH | refine zI ?_ GW207.out _) | exact HK.out))) : w.heap.size ≤ gb208)); have n6_ := Aside0.mk ((Nat.le_trans HW0.out (by rw [hg]; exact (keep_size (w := w) (g := g) (row := none) (by repeat (first | (with_reducible first | exact HK.out | apply KeepBut.set_ | apply zF | apply zG | apply zH | refine zI ?_ GW207.out _) | exact HK.out))) : w.heap.size ≤ gb208) : w0.heap.size ≤ gb208)); have n7_ := Aside0.mk ((by rw [hg]; exact Nat.ne_of_lt (blk_lt (g := gb207) (o := .cells #[.slice none 0 0] 58 (0, 0)) (by (with_reducible repeat (first|refine zN ?_ _|refine zD ?_|refine zA ?_ _)); exact BK207.out)) : gb207 ≠ gb208)); have n8_ := Aside0.mk ((by rw [hg]; exact Nat.ne_of_gt (blk_lt (g := gb207) (o := .cells #[.slice none 0 0] 58 (0, 0)) (by (with_reducible repeat (first|refine zN ?_ _|refine zD ?_|refine zA ?_ _)); exact BK207.out)) : gb208 ≠ gb207)); have n9_ := Aside0.mk ((by rw [hg]; exact Nat.ne_of_lt (IsS71.lt (show IsS71 w0 _ g s0_0 s0_1 from by repeat (first | (with_reducible first | exact HI0.out | apply IsS71.alloc | apply IsS71.drewN | apply IsS71.drew | apply IsS71.set_1 | refine IsS71.far ?_ NB0_207.out _) | exact HI0.out))) : g ≠ gb208)); have n10_ := Aside0.mk ((by rw [hg]; exact Nat.ne_of_gt (IsS71.lt (show IsS71 w0 _ g s0_0 s0_1 from by repeat (first | (with_reducible first | exact HI0.out | apply IsS71.alloc | apply IsS71.drewN | apply IsS71.drew | apply IsS71.set_1 | refine IsS71.far ?_ NB0_207.out _) | exact HI0.out))) : gb208 ≠ g)); clear HI0 BK207 HK HB; have HI0 := n0_; have BK207 := n1_; have HK := n2_; have HB := n3_; have BK208 := n4_; have GW208 := n5_; have GE208 := n6_; have NB207_208 := n7_; have NB208_207 := n8_; have NB0_208 := n9_; have NB208_0 := n10_; clear n0_ n1_ n2_ n3_ n4_ n5_ n6_ n7_ n8_ n9_ n10_ hb hbox hg) | ((with_reducible refine gate_callee (f := 12) rfl ?_); refine goesL_ (some 6) rfl rfl Tryd.func12 (by kernel_rfl) rfl #[.pointer (some ⟨g, 0, none⟩), .int .i64 6] rfl (by (try simp only [List.map_toArray, List.map_cons, List.map_nil]); first | done | rfl | (simp only [List.length_drop, List.length_take]; rfl)) ?_; (with_reducible refine (flagstonedraw_Codes_Next.calls g s0_0 s0_1 6 t209 t210 w0 _ ?side1 ?side2 A2.out).mono ?_); (case side1 => repeat (first | (with_reducible first | exact HI0.out | apply IsS71.alloc | apply IsS71.drewN | apply IsS71.drew | apply IsS71.set_1 | refine IsS71.far ?_ NB0_207.out _ | refine IsS71.far ?_ NB0_208.out _) | exact HI0.out)); (case side2 => repeat (first | (with_reducible first|exact HB.out|apply zE|apply zB|apply zC | refine zJ ?_ (IsS71.ge HI0.out) | refine zJ ?_ GE207.out | refine zJ ?_ GE208.out) | exact HB.out)); rintro e w6 ⟨rfl, hi, hb, hk⟩; refine ⟨_, rfl, ?_⟩; have n0_ := Aside0.mk (KeepBut.blk hk (g' := gb207) (o := .cells #[.slice none 0 0] 58 (0, 0)) (by (with_reducible repeat (first|refine zN ?_ _|refine zD ?_|refine zA ?_ _)); exact BK207.out) NB207_0.out (by simp)); have n1_ := Aside0.mk (KeepBut.blk hk (g' := gb208) (o := .cells #[.slice none 0 0] 58 (0, 0)) (by (with_reducible repeat (first|refine zN ?_ _|refine zD ?_|refine zA ?_ _)); exact BK208.out) NB208_0.out (by simp)); have n2_ := Aside0.mk (KeepBut.trans (by repeat (first | (with_reducible first | exact HK.out | apply KeepBut.set_ | apply zF | apply zG | apply zH | refine zI ?_ GW207.out _ | refine zI ?_ GW208.out _) | exact HK.out)) hk (.inl rfl)); have n3_ := Aside0.mk (hb); have n4_ := Aside0.mk (hi); clear BK207 BK208 HK HB HI0; have BK207 := n0_; have BK208 := n1_; have HK := n2_; have HB := n3_; have HI0 := n4_; clear n0_ n1_ n2_ n3_ n4_; (try clear hb); (try clear hb2); (try clear hk); (try clear hi); (try clear hge)))
  (try simp only [Act.put, List.setIfInBounds_toArray, List.set_cons_zero, List.set_cons_succ])
  go_cut [16] (fun v16 wc => ∃ (kq : Nat) (x16_2 : Bool), v16 = .bool x16_2 ∧ Aside0 (flagstonedraw_Codes_Subject.j0 kq t209 x16_2 s0_0 t210 = some (r1, r2)) ∧ Aside0 (kq ≤ k) ∧ Aside0 (wc.heap[gb207]? = some (.cells #[(.slice none 0 0)] 58 (0, 0))) ∧ Aside0 (wc.heap[gb208]? = some (.cells #[(.slice none 0 0)] 58 (0, 0))) ∧ Aside0 (IsS71 w0 wc g s0_0 t210) ∧ Aside0 (KeepBut w wc g none) ∧ Aside0 (Below w0.heap.size w0 wc))
  case first =>
    have H := HC3.out; clear HC3
    by_cases c7 : t209 = 1
    · rw [if_pos c7] at H
      have c7b0 : (t209 == 1) = true := beq_iff_eq.mpr c7
      have c7b1 : (t209 != 1) = false := bne_eq_false_iff_eq.mpr c7
      clear c7
      (first | rw [c7b0] | (simp only [i64_w, i32_w]; rw [c7b0]) | skip)
      have H' := Aside0.mk H; clear H
      go_wp2
      go_meet
      case rel => exact ⟨_, (true), (by first | rfl | (simp; done) | (simp [*]; done)), H', ⟨by first | omega | exact Nat.le_refl _⟩, ⟨by (with_reducible repeat (first|refine zN ?_ _|refine zD ?_|refine zA ?_ _)); exact BK207.out⟩, ⟨by (with_reducible repeat (first|refine zN ?_ _|refine zD ?_|refine zA ?_ _)); exact BK208.out⟩, ⟨by repeat (first | (with_reducible first | exact HI0.out | apply IsS71.alloc | apply IsS71.drewN | apply IsS71.drew | apply IsS71.set_1 | refine IsS71.far ?_ NB0_207.out _ | refine IsS71.far ?_ NB0_208.out _) | exact HI0.out)⟩, ⟨by repeat (first | (with_reducible first | exact HK.out | apply KeepBut.set_ | apply zF | apply zG | apply zH | refine zI ?_ GW207.out _ | refine zI ?_ GW208.out _) | exact HK.out)⟩, ⟨by repeat (first | (with_reducible first|exact HB.out|apply zE|apply zB|apply zC | refine zJ ?_ (IsS71.ge HI0.out) | refine zJ ?_ GE207.out | refine zJ ?_ GE208.out) | exact HB.out)⟩⟩
    · rw [if_neg c7] at H
      have c7b0 : (t209 == 1) = false := beq_eq_false_iff_ne.mpr c7
      have c7b1 : (t209 != 1) = true := bne_iff_ne.mpr c7
      (first | rw [c7b0] | (simp only [i64_w, i32_w]; rw [c7b0]) | skip)
      by_cases c8 : t209 = 2
      · rw [if_pos c8] at H
        have c8b0 : (t209 == 2) = true := beq_iff_eq.mpr c8
        have c8b1 : (t209 != 2) = false := bne_eq_false_iff_eq.mpr c8
        clear c8; have H' := Aside0.mk H; clear H
        go_wp2
        go_meet
        case rel => exact ⟨_, (true), (by first | rfl | (simp; done) | (simp [*]; done)), H', ⟨by first | omega | exact Nat.le_refl _⟩, ⟨by (with_reducible repeat (first|refine zN ?_ _|refine zD ?_|refine zA ?_ _)); exact BK207.out⟩, ⟨by (with_reducible repeat (first|refine zN ?_ _|refine zD ?_|refine zA ?_ _)); exact BK208.out⟩, ⟨by repeat (first | (with_reducible first | exact HI0.out | apply IsS71.alloc | apply IsS71.drewN | apply IsS71.drew | apply IsS71.set_1 | refine IsS71.far ?_ NB0_207.out _ | refine IsS71.far ?_ NB0_208.out _) | exact HI0.out)⟩, ⟨by repeat (first | (with_reducible first | exact HK.out | apply KeepBut.set_ | apply zF | apply zG | apply zH | refine zI ?_ GW207.out _ | refine zI ?_ GW208.out _) | exact HK.out)⟩, ⟨by repeat (first | (with_reducible first|exact HB.out|apply zE|apply zB|apply zC | refine zJ ?_ (IsS71.ge HI0.out) | refine zJ ?_ GE207.out | refine zJ ?_ GE208.out) | exact HB.out)⟩⟩
      · rw [if_neg c8] at H
        have c8b0 : (t209 == 2) = false := beq_eq_false_iff_ne.mpr c8
        have c8b1 : (t209 != 2) = true := bne_iff_ne.mpr c8
        have H' := Aside0.mk H; clear H
        go_wp2
        go_meet
        case rel => exact ⟨_, ((t209 == 4)), (by first | rfl | (simp; done) | (simp [*]; done)), H', ⟨by first | omega | exact Nat.le_refl _⟩, ⟨by (with_reducible repeat (first|refine zN ?_ _|refine zD ?_|refine zA ?_ _)); exact BK207.out⟩, ⟨by (with_reducible repeat (first|refine zN ?_ _|refine zD ?_|refine zA ?_ _)); exact BK208.out⟩, ⟨by repeat (first | (with_reducible first | exact HI0.out | apply IsS71.alloc | apply IsS71.drewN | apply IsS71.drew | apply IsS71.set_1 | refine IsS71.far ?_ NB0_207.out _ | refine IsS71.far ?_ NB0_208.out _) | exact HI0.out)⟩, ⟨by repeat (first | (with_reducible first | exact HK.out | apply KeepBut.set_ | apply zF | apply zG | apply zH | refine zI ?_ GW207.out _ | refine zI ?_ GW208.out _) | exact HK.out)⟩, ⟨by repeat (first | (with_reducible first|exact HB.out|apply zE|apply zB|apply zC | refine zJ ?_ (IsS71.ge HI0.out) | refine zJ ?_ GE207.out | refine zJ ?_ GE208.out) | exact HB.out)⟩⟩
  case rest =>
    clear HC3; (try clear c1); (try clear p2); (try clear c3); (try clear c7); (try clear c7b0); (try clear c7b1); (try clear c8); (try clear c8b0); (try clear c8b1)
    obtain ⟨kq, x16_2, rfl, HA, HJ2, BK207, BK208, HI0, HK, HB⟩ := hcut
    cases kq with
    | zero => exact absurd HA.out (by simp [flagstonedraw_Codes_Subject.j0])
    | succ kj2 =>
      have H := HA.out; clear HA
      simp only [flagstonedraw_Codes_Subject.j0] at H
      by_cases c9 : x16_2 = true
      · subst c9
        have H1 : ((flagstonedraw_Codes_context.f kj2 s0_0 t210 (⟨#[100, 101, 118, 105, 99, 101]⟩ : ByteArray)).bind fun bt211 => (if ([] : List (S85)).length < 2513169434916 then ((some (([] : List (S85)) ++ [(⟨bt211.1, bt211.2.1, bt211.2.2.1⟩ : S85)] : List (S85))).bind fun y217 => (if t209 = 1 then (some (y217, bt211.2.2.2)) else (if t209 = 5 then (some (y217, bt211.2.2.2)) else ((flagstonedraw_Codes_context.f kj2 s0_0 bt211.2.2.2 (⟨#[117, 115, 101, 114]⟩ : ByteArray)).bind fun bt220 => (if y217.length < 2513169434916 then (some ((y217 ++ [(⟨bt220.1, bt220.2.1, bt220.2.2.1⟩ : S85)]), bt220.2.2.2)) else (none)))))) else (none))) = some (r1, r2) := by rw [if_pos rfl] at H; exact H
        clear H; have H := H1; clear H1; replace H := Option.bind_eq_some_iff.mp H
        obtain ⟨⟨t211, t212, t213, t216⟩, A100, H⟩ := H
        replace H : (if ([] : List (S85)).length < 2513169434916 then ((some (([] : List (S85)) ++ [(⟨t211, t212, t213⟩ : S85)] : List (S85))).bind fun y217 => (if t209 = 1 then (some (y217, t216)) else (if t209 = 5 then (some (y217, t216)) else ((flagstonedraw_Codes_context.f kj2 s0_0 t216 (⟨#[117, 115, 101, 114]⟩ : ByteArray)).bind fun bt220 => (if y217.length < 2513169434916 then (some ((y217 ++ [(⟨bt220.1, bt220.2.1, bt220.2.2.1⟩ : S85)]), bt220.2.2.2)) else (none)))))) else (none)) = some (r1, r2) := H
        have A10 := Aside0.mk A100; clear A100
        by_cases c11 : ([] : List (S85)).length < 2513169434916
        · rw [if_pos c11] at H
          have LMc11 := Aside0.mk c11; clear c11
          obtain ⟨y217, hy217⟩ : ∃ y_ : List (S85), y_ = (([] : List (S85)) ++ [(⟨t211, t212, t213⟩ : S85)]) := ⟨_, rfl⟩
          replace H : (if t209 = 1 then (some (y217, t216)) else (if t209 = 5 then (some (y217, t216)) else ((flagstonedraw_Codes_context.f kj2 s0_0 t216 (⟨#[117, 115, 101, 114]⟩ : ByteArray)).bind fun bt220 => (if y217.length < 2513169434916 then (some ((y217 ++ [(⟨bt220.1, bt220.2.1, bt220.2.2.1⟩ : S85)]), bt220.2.2.2)) else (none))))) = some (r1, r2) := by first | (rw [hy217]; with_reducible exact H) | (have H2_ := (Option.bind_some _ _).symm.trans H; rw [hy217]; with_reducible exact H2_) | (have H2_ := (Option.bind_some _ _).symm.trans H; with_reducible exact H2_) | with_reducible exact H | (rw [hy217]; exact H) | exact H
          have Ny217 := Aside0.mk hy217; clear hy217
          by_cases c12 : t209 = 1
          · rw [if_pos c12] at H
            have c12b0 : (t209 == 1) = true := beq_iff_eq.mpr c12
            have c12b1 : (t209 != 1) = false := bne_eq_false_iff_eq.mpr c12
            clear c12
            simp only [Option.some.injEq, Prod.mk.injEq] at H
            obtain ⟨rfl, rfl⟩ := H
            try go_wp2
            have n0_ := Aside0.mk (zD BK207.out)
            have n1_ := Aside0.mk (zD BK208.out)
            have n2_ := Aside0.mk (IsS71.drew HI0.out)
            have n3_ := Aside0.mk (zG HK.out)
            have n4_ := Aside0.mk (zC HB.out)
            clear BK207 BK208 HI0 HK HB; have BK207 := n0_; have BK208 := n1_; have HI0 := n2_; have HK := n3_; have HB := n4_; clear n0_ n1_ n2_ n3_ n4_
            refine start_ (n := 8) (S := fun w' => w'.cell? ⟨gb208, 0, none⟩ = some (.slice none 0 0)) (ds := [7]) #[false, false, false, false, false, false, false, false] (by kernel_rfl) rfl rfl ((blk_cell BK208.out 0).trans rfl) (fun hHeld => ?_); refine with_tabW flagstonedraw_Codes_Subject.tab4 flagstonedraw_Codes_Subject.bits4 (fun HT_ HW_ => ?_)
            generalize wc.drew = w13 at BK207 BK208 HI0 HK HB hHeld ⊢
            refine pure_ (i := 0) (N := some 17) (v := ?_) (a' := ?_) #[true, false, false, false, false, false, false, false] rfl rfl (any_of HT_.out (by kernel_rfl)) (fun _ _ _ h => h) (Or.inl ⟨by rfl, ?_⟩) ?_ ?_
            rotate_left
            · intro w'
              go_simp
              with_reducible rfl
            rotate_left
            · simp only [Act.put, List.setIfInBounds_toArray, List.set_cons_zero, List.set_cons_succ, i64_w, i32_w]
              rfl
            refine pure_ (i := 2) (N := some 19) (v := ?_) (a' := ?_) #[true, false, true, false, false, false, false, false] rfl rfl (any_of HT_.out (by kernel_rfl)) (fun _ _ _ h => h) (Or.inl ⟨by rfl, ?_⟩) ?_ ?_
            rotate_left
            · intro w'
              go_simp
              with_reducible rfl
            rotate_left
            · simp only [Act.put, List.setIfInBounds_toArray, List.set_cons_zero, List.set_cons_succ, i64_w, i32_w]
              rfl
            refine take_ (i := 1) (N := some 18) (v := ?_) (a' := ?_) #[true, true, true, false, false, false, false, false] rfl rfl (take_ofW HT_.out HW_.out (by kernel_rfl)) (fun _ _ _ h => h) (Or.inl ⟨by rfl, ?_⟩) hHeld ?_ ?_
            rotate_left
            · intro w' s0
              go_simp
              with_reducible rfl
            rotate_left
            · simp only [Act.put, List.setIfInBounds_toArray, List.set_cons_zero, List.set_cons_succ, i64_w, i32_w]
              rfl
            refine one_ (i := 3) (N := some 20) #[true, true, true, true, false, false, false, false] rfl rfl (one_of HT_.out (by kernel_rfl)) (by decide) (fun K hK => ?_)
            refine goes_ Tryd.func50 (by kernel_rfl) rfl #[.pointer (some ⟨g, 0, none⟩), .string (⟨#[100, 101, 118, 105, 99, 101]⟩ : ByteArray)] (by rfl) rfl rfl (by (try simp only [List.map_toArray, List.map_cons, List.map_nil]); first | done | rfl | (simp only [List.length_drop, List.length_take]; rfl)) ?_
            with_reducible refine (flagstonedraw_Codes_context.calls kj2 g s0_0 t210 (⟨#[100, 101, 118, 105, 99, 101]⟩ : ByteArray) t211 t212 t213 t216 w0 _ ?side1 ?side2 ?side3 A10.out).mono ?_
            (case side1 => repeat (first | (with_reducible first | exact HI0.out | apply IsS71.alloc | apply IsS71.drewN | apply IsS71.drew | apply IsS71.set_1 | refine IsS71.far ?_ NB0_207.out _ | refine IsS71.far ?_ NB0_208.out _) | exact HI0.out))
            (case side2 => repeat (first | (with_reducible first|exact HB.out|apply zE|apply zB|apply zC | refine zJ ?_ (IsS71.ge HI0.out) | refine zJ ?_ GE207.out | refine zJ ?_ GE208.out) | exact HB.out))
            (case side3 => exact HGL.out)
            rintro e w14 ⟨v214, rfl, ho0, hi, hb, hk⟩
            refine ⟨_, rfl, ?_⟩
            have n0_ := Aside0.mk (KeepBut.blk hk (g' := gb207) (o := .cells #[.slice none 0 0] 58 (0, 0)) (by (with_reducible repeat (first|refine zN ?_ _|refine zD ?_|refine zA ?_ _)); exact BK207.out) NB207_0.out (by simp))
            have n1_ := Aside0.mk (KeepBut.blk hk (g' := gb208) (o := .cells #[.slice none 0 0] 58 (0, 0)) (by (with_reducible repeat (first|refine zN ?_ _|refine zD ?_|refine zA ?_ _)); exact BK208.out) NB208_0.out (by simp))
            have n2_ := Aside0.mk (Kd.S_lower (Kd.S_newM (M := fun k_ => (w.heap.size ≤ k_)) ho0 (keep_size (w := w) (g := g) (row := none) (by repeat (first | (with_reducible first | exact HK.out | apply KeepBut.set_ | apply zF | apply zG | apply zH | refine zI ?_ GW207.out _ | refine zI ?_ GW208.out _) | exact HK.out))) (fun k_ h_ => h_)) (keep_size (w := w) (g := g) (row := none) (by repeat (first | (with_reducible first | exact HK.out | apply KeepBut.set_ | apply zF | apply zG | apply zH | refine zI ?_ GW207.out _ | refine zI ?_ GW208.out _) | exact HK.out))))
            have n3_ := Aside0.mk (KeepBut.trans (by repeat (first | (with_reducible first | exact HK.out | apply KeepBut.set_ | apply zF | apply zG | apply zH | refine zI ?_ GW207.out _ | refine zI ?_ GW208.out _) | exact HK.out)) hk (.inl rfl))
            have n4_ := Aside0.mk (hb)
            have n5_ := Aside0.mk (hi)
            clear BK207 BK208 HK HB HI0; have BK207 := n0_; have BK208 := n1_; have HO215 := n2_; have HK := n3_; have HB := n4_; have HI0 := n5_; clear n0_ n1_ n2_ n3_ n4_ n5_
            (try clear hb)
            (try clear hb2)
            (try clear hk)
            (try clear hi)
            (try clear hge)
            (try clear ho0)
            obtain ⟨Ao16, co16, eo16⟩ := Kd.S_slice HO215.out
            (first | subst eo16 | (injection eo16 with f1_ f2_ f3_; have f4_ := f1_.symm; have f5_ := f3_.symm; clear f1_ f2_ f3_; subst f4_; subst f5_))
            refine hK.out _ _ ((blk_cell BK208.out 0).trans rfl) (fun hHeld => ?_)
            clear hK K
            refine norm_ (a' := ?_) ?_ ?_
            rotate_left
            · show Act.put _ (some 20) _ = _
              simp only [Act.put, List.setIfInBounds_toArray, List.set_cons_zero, List.set_cons_succ, i64_w, i32_w]
              rfl
            refine one_ (i := 4) (N := some 21) #[true, true, true, true, true, false, false, false] rfl rfl (one_of HT_.out (by kernel_rfl)) (by decide) (fun K hK => ?_)
            refine value_ (w1 := ?_) (v := ?_) (by rfl) rfl ?_ ?_
            rotate_left 2
            · go_simp
              constructor
              · rfl
              · rfl
            refine hK.out _ _ ((blk_cell (zA BK208.out _) 0).trans rfl) (fun hHeld => ?_)
            clear hK K
            refine norm_ (a' := ?_) ?_ ?_
            rotate_left
            · show Act.put _ (some 21) _ = _
              simp only [Act.put, List.setIfInBounds_toArray, List.set_cons_zero, List.set_cons_succ, i64_w, i32_w]
              rfl
            refine one_ (i := 5) (N := some 22) #[true, true, true, true, true, true, false, false] rfl rfl (one_of HT_.out (by kernel_rfl)) (by decide) (fun K hK => ?_)
            refine Kd.R_append_step k85 w.heap.size (by rfl) (.tmp 18) (.tmp 21) 56 85 (.agg #[(.string ⟨#[]⟩), (.string ⟨#[]⟩), (.slice none 0 0)]) 56 rfl Tryd.underlying56 info85 rfl (by decide) (by omega) (.slice none 0 0) ([] : List (S85)) (⟨t211, t212, t213⟩ : S85) [.string t211, .string t212, .slice Ao16 t213.length co16] (fun k_ => (w.heap.size ≤ k_)) (fun k_ => ((fun k_ => (w.heap.size ≤ k_))) k_ ∧ some k_ ≠ (.slice none 0 0 : Value).ownBlock) rfl rfl ?aP (fun _ hk => hk) ?aF ?aO (Below.refl _ _) ?aS ?aL ?_
            (case aP => exact k85_mkM _ _ _ (⟨t211, t212, t213⟩ : S85) (Kd.R_mono ((Kd.S_R HO215.out)) (fun k_ hk => ⟨hk.1, (by simp [Value.ownBlock])⟩)))
            (case aF => exact (fun k_ hk => (Nat.le_trans (keep_size (w := w) (g := g) (row := none) (by repeat (first | (with_reducible first | exact HK.out | apply KeepBut.set_ | apply zF | apply zG | apply zH | refine zI ?_ GW207.out _ | refine zI ?_ GW208.out _) | exact HK.out))) hk)))
            (case aO => exact ((Kd.R_nil _ _ _ _ (fun k_ => (w.heap.size ≤ k_)))))
            (case aS => exact (keep_size (w := w) (g := g) (row := none) (by repeat (first | (with_reducible first | exact HK.out | apply KeepBut.set_ | apply zF | apply zG | apply zH | refine zI ?_ GW207.out _ | refine zI ?_ GW208.out _) | exact HK.out))))
            (case aL => have := LMc11.out; omega)
            intro v218 w15 ho hb hg hat
            rw [← Ny217.out] at ho
            have n0_ := Aside0.mk (blk_grown (g := gb207) (o := .cells #[.slice none 0 0] 58 (0, 0)) (by (with_reducible repeat (first|refine zN ?_ _|refine zD ?_|refine zA ?_ _)); exact BK207.out) hg (by simp [Value.ownBlock]))
            have n1_ := Aside0.mk (blk_grown (g := gb208) (o := .cells #[.slice none 0 0] 58 (0, 0)) (by (with_reducible repeat (first|refine zN ?_ _|refine zD ?_|refine zA ?_ _)); exact BK208.out) hg (by simp [Value.ownBlock]))
            have n2_ := Aside0.mk (IsS71.grown (by repeat (first | (with_reducible first | exact HI0.out | apply IsS71.alloc | apply IsS71.drewN | apply IsS71.drew | apply IsS71.set_1 | refine IsS71.far ?_ NB0_207.out _ | refine IsS71.far ?_ NB0_208.out _) | exact HI0.out)) hg (by simp [Value.ownBlock]))
            have n3_ := Aside0.mk (below_weaken (by repeat (first | (with_reducible first|exact HB.out|apply zE|apply zB|apply zC | refine zJ ?_ (IsS71.ge HI0.out) | refine zJ ?_ GE207.out | refine zJ ?_ GE208.out) | exact HB.out)) HL.out hb)
            have n4_ := Aside0.mk (KeepBut.trans (by repeat (first | (with_reducible first | exact HK.out | apply KeepBut.set_ | apply zF | apply zG | apply zH | refine zI ?_ GW207.out _ | refine zI ?_ GW208.out _) | exact HK.out)) (KeepBut.of_grown hg g) (.inl (by simp [Value.ownBlock])))
            have n5_ := Aside0.mk (ho)
            clear BK207 BK208 HI0 HB HK HO215; have BK207 := n0_; have BK208 := n1_; have HI0 := n2_; have HB := n3_; have HK := n4_; have HO219 := n5_; clear n0_ n1_ n2_ n3_ n4_ n5_ ho hb hg hat
            obtain ⟨Ao17, co17, eo17⟩ := Kd.R_slice HO219.out
            (first | subst eo17 | (injection eo17 with f1_ f2_ f3_; have f4_ := f1_.symm; have f5_ := f3_.symm; clear f1_ f2_ f3_; subst f4_; subst f5_))
            refine hK.out _ _ ((blk_cell BK208.out 0).trans rfl) (fun hHeld => ?_)
            clear hK K
            refine norm_ (a' := ?_) ?_ ?_
            rotate_left
            · show Act.put _ (some 22) _ = _
              simp only [Act.put, List.setIfInBounds_toArray, List.set_cons_zero, List.set_cons_succ, i64_w, i32_w]
              rfl
            refine pure_ (i := 6) (N := some 23) (v := ?_) (a' := ?_) #[true, true, true, true, true, true, true, false] rfl rfl (any_of HT_.out (by kernel_rfl)) (fun _ _ _ h => h) (Or.inl ⟨by rfl, ?_⟩) ?_ ?_
            rotate_left
            · intro w'
              go_simp
              with_reducible rfl
            rotate_left
            · simp only [Act.put, List.setIfInBounds_toArray, List.set_cons_zero, List.set_cons_succ, i64_w, i32_w]
              rfl
            refine last_ (i := 7) (N := none) #[true, true, true, true, true, true, true, true] rfl rfl (one_of HT_.out (by kernel_rfl)) (by decide) (fun K hK => ?_)
            have hs18 : w15.cell? ⟨gb208, 0, none⟩ = some (.slice none 0 0) := (blk_cell BK208.out 0).trans rfl
            have hfs18 := blk_frozen BK208.out 0
            have hns18_0 := NB207_208.out; have hms18_0 := NB208_207.out
            refine skip_ (w1 := ?_) (by rfl) rfl ?_ ?_
            rotate_left
            · go_simp
              rfl
            refine hK.out _ _ ?_
            clear hK K
            refine done_ (done_of HT_.out (by kernel_rfl)) ?_
            have hnb19 := NB208_207.out; have hnc19 := NB207_208.out; have hnb20 := NB208_0.out; have hnc20 := NB0_208.out
            have hcz21_0 : w15.cell? ⟨gb208, 0, none⟩ = some (.slice none 0 0) := (blk_cell BK208.out 0).trans rfl
            have hfz21_0 := blk_frozen BK208.out 0
            have hnb22 := NB207_0.out; have hnc22 := NB0_207.out
            have hcz23_0 : w15.cell? ⟨gb207, 0, none⟩ = some (.slice none 0 0) := (blk_cell BK207.out 0).trans rfl
            have hfz23_0 := blk_frozen BK207.out 0
            try go_wp2
            refine bodyPost_ret (results_cell_row rfl _ _ gb207 58 #[.slice Ao17 y217.length co17] (0, 0) _ rfl (by (with_reducible repeat (first|refine zN ?_ _|refine zD ?_|refine zA ?_ _)); refine blk_put (cs := #[.slice none 0 0]) ?_ 0 _ rfl; (with_reducible repeat (first|refine zN ?_ _|refine zD ?_|refine zA ?_ _)); refine blk_far ?_ NB207_208.out _; (with_reducible repeat (first|refine zN ?_ _|refine zD ?_|refine zA ?_ _)); exact BK207.out) Tryd.underlying58 rfl (by kernel_rfl)) rfl ?_
            exact ⟨_, by first | rfl | (simp [errW_none, errW_some] <;> rfl) | (simp [*, errW_none, errW_some] <;> rfl), Kd.R_V (by (with_reducible repeat (first | apply Kd.R_alloc | apply Kd.R_drewN | apply Kd.R_drew)); exact Kd.R_mono (Kd.R_far (p := ⟨gb207, 0, none⟩) (Kd.R_far (p := ⟨gb208, 0, none⟩) (Kd.R_types (Kd.R_types HO219.out BK208.out (by decide)) BK207.out (by decide)) (fun _ hk => hk.1.2) (.slice Ao17 y217.length co17)) (fun _ hk => hk.2) (.slice Ao17 y217.length co17)) (fun _ hk => hk.1.1)), by repeat (first | (with_reducible first | exact HI0.out | apply IsS71.alloc | apply IsS71.drewN | apply IsS71.drew | apply IsS71.set_1 | refine IsS71.far ?_ NB0_207.out _ | refine IsS71.far ?_ NB0_208.out _) | exact HI0.out), by repeat (first | (with_reducible first|exact HB.out|apply zE|apply zB|apply zC | refine zJ ?_ (IsS71.ge HI0.out) | refine zJ ?_ GE207.out | refine zJ ?_ GE208.out) | exact HB.out), by repeat (first | (with_reducible first | exact HK.out | apply KeepBut.set_ | apply zF | apply zG | apply zH | refine zI ?_ GW207.out _ | refine zI ?_ GW208.out _) | exact HK.out)⟩
          · rw [if_neg c12] at H
            have c12b0 : (t209 == 1) = false := beq_eq_false_iff_ne.mpr c12
            have c12b1 : (t209 != 1) = true := bne_iff_ne.mpr c12
            by_cases c24 : t209 = 5
            · rw [if_pos c24] at H
              have c24b0 : (t209 == 5) = true := beq_iff_eq.mpr c24
              have c24b1 : (t209 != 5) = false := bne_eq_false_iff_eq.mpr c24
              clear c24
              simp only [Option.some.injEq, Prod.mk.injEq] at H
              obtain ⟨rfl, rfl⟩ := H
              try go_wp2
              have n0_ := Aside0.mk (zD BK207.out)
              have n1_ := Aside0.mk (zD BK208.out)
              have n2_ := Aside0.mk (IsS71.drew HI0.out)
              have n3_ := Aside0.mk (zG HK.out)
              have n4_ := Aside0.mk (zC HB.out)
              clear BK207 BK208 HI0 HK HB; have BK207 := n0_; have BK208 := n1_; have HI0 := n2_; have HK := n3_; have HB := n4_; clear n0_ n1_ n2_ n3_ n4_
              refine start_ (n := 8) (S := fun w' => w'.cell? ⟨gb208, 0, none⟩ = some (.slice none 0 0)) (ds := [7]) #[false, false, false, false, false, false, false, false] (by kernel_rfl) rfl rfl ((blk_cell BK208.out 0).trans rfl) (fun hHeld => ?_); refine with_tabW flagstonedraw_Codes_Subject.tab4 flagstonedraw_Codes_Subject.bits4 (fun HT_ HW_ => ?_)
              generalize wc.drew = w25 at BK207 BK208 HI0 HK HB hHeld ⊢
              refine pure_ (i := 0) (N := some 17) (v := ?_) (a' := ?_) #[true, false, false, false, false, false, false, false] rfl rfl (any_of HT_.out (by kernel_rfl)) (fun _ _ _ h => h) (Or.inl ⟨by rfl, ?_⟩) ?_ ?_
              rotate_left
              · intro w'
                go_simp
                with_reducible rfl
              rotate_left
              · simp only [Act.put, List.setIfInBounds_toArray, List.set_cons_zero, List.set_cons_succ, i64_w, i32_w]
                rfl
              refine pure_ (i := 2) (N := some 19) (v := ?_) (a' := ?_) #[true, false, true, false, false, false, false, false] rfl rfl (any_of HT_.out (by kernel_rfl)) (fun _ _ _ h => h) (Or.inl ⟨by rfl, ?_⟩) ?_ ?_
              rotate_left
              · intro w'
                go_simp
                with_reducible rfl
              rotate_left
              · simp only [Act.put, List.setIfInBounds_toArray, List.set_cons_zero, List.set_cons_succ, i64_w, i32_w]
                rfl
              refine take_ (i := 1) (N := some 18) (v := ?_) (a' := ?_) #[true, true, true, false, false, false, false, false] rfl rfl (take_ofW HT_.out HW_.out (by kernel_rfl)) (fun _ _ _ h => h) (Or.inl ⟨by rfl, ?_⟩) hHeld ?_ ?_
              rotate_left
              · intro w' s0
                go_simp
                with_reducible rfl
              rotate_left
              · simp only [Act.put, List.setIfInBounds_toArray, List.set_cons_zero, List.set_cons_succ, i64_w, i32_w]
                rfl
              refine one_ (i := 3) (N := some 20) #[true, true, true, true, false, false, false, false] rfl rfl (one_of HT_.out (by kernel_rfl)) (by decide) (fun K hK => ?_)
              refine goes_ Tryd.func50 (by kernel_rfl) rfl #[.pointer (some ⟨g, 0, none⟩), .string (⟨#[100, 101, 118, 105, 99, 101]⟩ : ByteArray)] (by rfl) rfl rfl (by (try simp only [List.map_toArray, List.map_cons, List.map_nil]); first | done | rfl | (simp only [List.length_drop, List.length_take]; rfl)) ?_
              with_reducible refine (flagstonedraw_Codes_context.calls kj2 g s0_0 t210 (⟨#[100, 101, 118, 105, 99, 101]⟩ : ByteArray) t211 t212 t213 t216 w0 _ ?side1 ?side2 ?side3 A10.out).mono ?_
              (case side1 => repeat (first | (with_reducible first | exact HI0.out | apply IsS71.alloc | apply IsS71.drewN | apply IsS71.drew | apply IsS71.set_1 | refine IsS71.far ?_ NB0_207.out _ | refine IsS71.far ?_ NB0_208.out _) | exact HI0.out))
              (case side2 => repeat (first | (with_reducible first|exact HB.out|apply zE|apply zB|apply zC | refine zJ ?_ (IsS71.ge HI0.out) | refine zJ ?_ GE207.out | refine zJ ?_ GE208.out) | exact HB.out))
              (case side3 => exact HGL.out)
              rintro e w26 ⟨v214, rfl, ho0, hi, hb, hk⟩
              refine ⟨_, rfl, ?_⟩
              have n0_ := Aside0.mk (KeepBut.blk hk (g' := gb207) (o := .cells #[.slice none 0 0] 58 (0, 0)) (by (with_reducible repeat (first|refine zN ?_ _|refine zD ?_|refine zA ?_ _)); exact BK207.out) NB207_0.out (by simp))
              have n1_ := Aside0.mk (KeepBut.blk hk (g' := gb208) (o := .cells #[.slice none 0 0] 58 (0, 0)) (by (with_reducible repeat (first|refine zN ?_ _|refine zD ?_|refine zA ?_ _)); exact BK208.out) NB208_0.out (by simp))
              have n2_ := Aside0.mk (Kd.S_lower (Kd.S_newM (M := fun k_ => (w.heap.size ≤ k_)) ho0 (keep_size (w := w) (g := g) (row := none) (by repeat (first | (with_reducible first | exact HK.out | apply KeepBut.set_ | apply zF | apply zG | apply zH | refine zI ?_ GW207.out _ | refine zI ?_ GW208.out _) | exact HK.out))) (fun k_ h_ => h_)) (keep_size (w := w) (g := g) (row := none) (by repeat (first | (with_reducible first | exact HK.out | apply KeepBut.set_ | apply zF | apply zG | apply zH | refine zI ?_ GW207.out _ | refine zI ?_ GW208.out _) | exact HK.out))))
              have n3_ := Aside0.mk (KeepBut.trans (by repeat (first | (with_reducible first | exact HK.out | apply KeepBut.set_ | apply zF | apply zG | apply zH | refine zI ?_ GW207.out _ | refine zI ?_ GW208.out _) | exact HK.out)) hk (.inl rfl))
              have n4_ := Aside0.mk (hb)
              have n5_ := Aside0.mk (hi)
              clear BK207 BK208 HK HB HI0; have BK207 := n0_; have BK208 := n1_; have HO215 := n2_; have HK := n3_; have HB := n4_; have HI0 := n5_; clear n0_ n1_ n2_ n3_ n4_ n5_
              (try clear hb)
              (try clear hb2)
              (try clear hk)
              (try clear hi)
              (try clear hge)
              (try clear ho0)
              obtain ⟨Ao28, co28, eo28⟩ := Kd.S_slice HO215.out
              (first | subst eo28 | (injection eo28 with f1_ f2_ f3_; have f4_ := f1_.symm; have f5_ := f3_.symm; clear f1_ f2_ f3_; subst f4_; subst f5_))
              refine hK.out _ _ ((blk_cell BK208.out 0).trans rfl) (fun hHeld => ?_)
              clear hK K
              refine norm_ (a' := ?_) ?_ ?_
              rotate_left
              · show Act.put _ (some 20) _ = _
                simp only [Act.put, List.setIfInBounds_toArray, List.set_cons_zero, List.set_cons_succ, i64_w, i32_w]
                rfl
              refine one_ (i := 4) (N := some 21) #[true, true, true, true, true, false, false, false] rfl rfl (one_of HT_.out (by kernel_rfl)) (by decide) (fun K hK => ?_)
              refine value_ (w1 := ?_) (v := ?_) (by rfl) rfl ?_ ?_
              rotate_left 2
              · go_simp
                constructor
                · rfl
                · rfl
              refine hK.out _ _ ((blk_cell (zA BK208.out _) 0).trans rfl) (fun hHeld => ?_)
              clear hK K
              refine norm_ (a' := ?_) ?_ ?_
              rotate_left
              · show Act.put _ (some 21) _ = _
                simp only [Act.put, List.setIfInBounds_toArray, List.set_cons_zero, List.set_cons_succ, i64_w, i32_w]
                rfl
              refine one_ (i := 5) (N := some 22) #[true, true, true, true, true, true, false, false] rfl rfl (one_of HT_.out (by kernel_rfl)) (by decide) (fun K hK => ?_)
              refine Kd.R_append_step k85 w.heap.size (by rfl) (.tmp 18) (.tmp 21) 56 85 (.agg #[(.string ⟨#[]⟩), (.string ⟨#[]⟩), (.slice none 0 0)]) 56 rfl Tryd.underlying56 info85 rfl (by decide) (by omega) (.slice none 0 0) ([] : List (S85)) (⟨t211, t212, t213⟩ : S85) [.string t211, .string t212, .slice Ao28 t213.length co28] (fun k_ => (w.heap.size ≤ k_)) (fun k_ => ((fun k_ => (w.heap.size ≤ k_))) k_ ∧ some k_ ≠ (.slice none 0 0 : Value).ownBlock) rfl rfl ?aP (fun _ hk => hk) ?aF ?aO (Below.refl _ _) ?aS ?aL ?_
              (case aP => exact k85_mkM _ _ _ (⟨t211, t212, t213⟩ : S85) (Kd.R_mono ((Kd.S_R HO215.out)) (fun k_ hk => ⟨hk.1, (by simp [Value.ownBlock])⟩)))
              (case aF => exact (fun k_ hk => (Nat.le_trans (keep_size (w := w) (g := g) (row := none) (by repeat (first | (with_reducible first | exact HK.out | apply KeepBut.set_ | apply zF | apply zG | apply zH | refine zI ?_ GW207.out _ | refine zI ?_ GW208.out _) | exact HK.out))) hk)))
              (case aO => exact ((Kd.R_nil _ _ _ _ (fun k_ => (w.heap.size ≤ k_)))))
              (case aS => exact (keep_size (w := w) (g := g) (row := none) (by repeat (first | (with_reducible first | exact HK.out | apply KeepBut.set_ | apply zF | apply zG | apply zH | refine zI ?_ GW207.out _ | refine zI ?_ GW208.out _) | exact HK.out))))
              (case aL => have := LMc11.out; omega)
              intro v218 w27 ho hb hg hat
              rw [← Ny217.out] at ho
              have n0_ := Aside0.mk (blk_grown (g := gb207) (o := .cells #[.slice none 0 0] 58 (0, 0)) (by (with_reducible repeat (first|refine zN ?_ _|refine zD ?_|refine zA ?_ _)); exact BK207.out) hg (by simp [Value.ownBlock]))
              have n1_ := Aside0.mk (blk_grown (g := gb208) (o := .cells #[.slice none 0 0] 58 (0, 0)) (by (with_reducible repeat (first|refine zN ?_ _|refine zD ?_|refine zA ?_ _)); exact BK208.out) hg (by simp [Value.ownBlock]))
              have n2_ := Aside0.mk (IsS71.grown (by repeat (first | (with_reducible first | exact HI0.out | apply IsS71.alloc | apply IsS71.drewN | apply IsS71.drew | apply IsS71.set_1 | refine IsS71.far ?_ NB0_207.out _ | refine IsS71.far ?_ NB0_208.out _) | exact HI0.out)) hg (by simp [Value.ownBlock]))
              have n3_ := Aside0.mk (below_weaken (by repeat (first | (with_reducible first|exact HB.out|apply zE|apply zB|apply zC | refine zJ ?_ (IsS71.ge HI0.out) | refine zJ ?_ GE207.out | refine zJ ?_ GE208.out) | exact HB.out)) HL.out hb)
              have n4_ := Aside0.mk (KeepBut.trans (by repeat (first | (with_reducible first | exact HK.out | apply KeepBut.set_ | apply zF | apply zG | apply zH | refine zI ?_ GW207.out _ | refine zI ?_ GW208.out _) | exact HK.out)) (KeepBut.of_grown hg g) (.inl (by simp [Value.ownBlock])))
              have n5_ := Aside0.mk (ho)
              clear BK207 BK208 HI0 HB HK HO215; have BK207 := n0_; have BK208 := n1_; have HI0 := n2_; have HB := n3_; have HK := n4_; have HO219 := n5_; clear n0_ n1_ n2_ n3_ n4_ n5_ ho hb hg hat
              obtain ⟨Ao29, co29, eo29⟩ := Kd.R_slice HO219.out
              (first | subst eo29 | (injection eo29 with f1_ f2_ f3_; have f4_ := f1_.symm; have f5_ := f3_.symm; clear f1_ f2_ f3_; subst f4_; subst f5_))
              refine hK.out _ _ ((blk_cell BK208.out 0).trans rfl) (fun hHeld => ?_)
              clear hK K
              refine norm_ (a' := ?_) ?_ ?_
              rotate_left
              · show Act.put _ (some 22) _ = _
                simp only [Act.put, List.setIfInBounds_toArray, List.set_cons_zero, List.set_cons_succ, i64_w, i32_w]
                rfl
              refine pure_ (i := 6) (N := some 23) (v := ?_) (a' := ?_) #[true, true, true, true, true, true, true, false] rfl rfl (any_of HT_.out (by kernel_rfl)) (fun _ _ _ h => h) (Or.inl ⟨by rfl, ?_⟩) ?_ ?_
              rotate_left
              · intro w'
                go_simp
                with_reducible rfl
              rotate_left
              · simp only [Act.put, List.setIfInBounds_toArray, List.set_cons_zero, List.set_cons_succ, i64_w, i32_w]
                rfl
              refine last_ (i := 7) (N := none) #[true, true, true, true, true, true, true, true] rfl rfl (one_of HT_.out (by kernel_rfl)) (by decide) (fun K hK => ?_)
              have hs30 : w27.cell? ⟨gb208, 0, none⟩ = some (.slice none 0 0) := (blk_cell BK208.out 0).trans rfl
              have hfs30 := blk_frozen BK208.out 0
              have hns30_0 := NB207_208.out; have hms30_0 := NB208_207.out
              refine skip_ (w1 := ?_) (by rfl) rfl ?_ ?_
              rotate_left
              · go_simp
                rfl
              refine hK.out _ _ ?_
              clear hK K
              refine done_ (done_of HT_.out (by kernel_rfl)) ?_
              have hnb31 := NB208_207.out; have hnc31 := NB207_208.out; have hnb32 := NB208_0.out; have hnc32 := NB0_208.out
              have hcz33_0 : w27.cell? ⟨gb208, 0, none⟩ = some (.slice none 0 0) := (blk_cell BK208.out 0).trans rfl
              have hfz33_0 := blk_frozen BK208.out 0
              have hnb34 := NB207_0.out; have hnc34 := NB0_207.out
              have hcz35_0 : w27.cell? ⟨gb207, 0, none⟩ = some (.slice none 0 0) := (blk_cell BK207.out 0).trans rfl
              have hfz35_0 := blk_frozen BK207.out 0
              try go_wp2
              refine bodyPost_ret (results_cell_row rfl _ _ gb207 58 #[.slice Ao29 y217.length co29] (0, 0) _ rfl (by (with_reducible repeat (first|refine zN ?_ _|refine zD ?_|refine zA ?_ _)); refine blk_put (cs := #[.slice none 0 0]) ?_ 0 _ rfl; (with_reducible repeat (first|refine zN ?_ _|refine zD ?_|refine zA ?_ _)); refine blk_far ?_ NB207_208.out _; (with_reducible repeat (first|refine zN ?_ _|refine zD ?_|refine zA ?_ _)); exact BK207.out) Tryd.underlying58 rfl (by kernel_rfl)) rfl ?_
              exact ⟨_, by first | rfl | (simp [errW_none, errW_some] <;> rfl) | (simp [*, errW_none, errW_some] <;> rfl), Kd.R_V (by (with_reducible repeat (first | apply Kd.R_alloc | apply Kd.R_drewN | apply Kd.R_drew)); exact Kd.R_mono (Kd.R_far (p := ⟨gb207, 0, none⟩) (Kd.R_far (p := ⟨gb208, 0, none⟩) (Kd.R_types (Kd.R_types HO219.out BK208.out (by decide)) BK207.out (by decide)) (fun _ hk => hk.1.2) (.slice Ao29 y217.length co29)) (fun _ hk => hk.2) (.slice Ao29 y217.length co29)) (fun _ hk => hk.1.1)), by repeat (first | (with_reducible first | exact HI0.out | apply IsS71.alloc | apply IsS71.drewN | apply IsS71.drew | apply IsS71.set_1 | refine IsS71.far ?_ NB0_207.out _ | refine IsS71.far ?_ NB0_208.out _) | exact HI0.out), by repeat (first | (with_reducible first|exact HB.out|apply zE|apply zB|apply zC | refine zJ ?_ (IsS71.ge HI0.out) | refine zJ ?_ GE207.out | refine zJ ?_ GE208.out) | exact HB.out), by repeat (first | (with_reducible first | exact HK.out | apply KeepBut.set_ | apply zF | apply zG | apply zH | refine zI ?_ GW207.out _ | refine zI ?_ GW208.out _) | exact HK.out)⟩
            · rw [if_neg c24] at H
              have c24b0 : (t209 == 5) = false := beq_eq_false_iff_ne.mpr c24
              have c24b1 : (t209 != 5) = true := bne_iff_ne.mpr c24
              replace H := Option.bind_eq_some_iff.mp H
              obtain ⟨⟨t220, t221, t222, t225⟩, A360, H⟩ := H
              replace H : (if y217.length < 2513169434916 then (some ((y217 ++ [(⟨t220, t221, t222⟩ : S85)]), t225)) else (none)) = some (r1, r2) := H
              have A36 := Aside0.mk A360; clear A360
              by_cases c37 : y217.length < 2513169434916
              · rw [if_pos c37] at H
                have LMc37 := Aside0.mk c37; clear c37
                obtain ⟨y226, hy226⟩ : ∃ y_ : List (S85), y_ = (y217 ++ [(⟨t220, t221, t222⟩ : S85)]) := ⟨_, rfl⟩
                replace H : (some (y226, t225)) = some (r1, r2) := by first | (rw [hy226]; with_reducible exact H) | (have H2_ := (Option.bind_some _ _).symm.trans H; rw [hy226]; with_reducible exact H2_) | (have H2_ := (Option.bind_some _ _).symm.trans H; with_reducible exact H2_) | with_reducible exact H | (rw [hy226]; exact H) | exact H
                have Ny226 := Aside0.mk hy226; clear hy226
                simp only [Option.some.injEq, Prod.mk.injEq] at H
                obtain ⟨rfl, rfl⟩ := H
                try go_wp2
                have n0_ := Aside0.mk (zD BK207.out)
                have n1_ := Aside0.mk (zD BK208.out)
                have n2_ := Aside0.mk (IsS71.drew HI0.out)
                have n3_ := Aside0.mk (zG HK.out)
                have n4_ := Aside0.mk (zC HB.out)
                clear BK207 BK208 HI0 HK HB; have BK207 := n0_; have BK208 := n1_; have HI0 := n2_; have HK := n3_; have HB := n4_; clear n0_ n1_ n2_ n3_ n4_
                refine start_ (n := 8) (S := fun w' => w'.cell? ⟨gb208, 0, none⟩ = some (.slice none 0 0)) (ds := [7]) #[false, false, false, false, false, false, false, false] (by kernel_rfl) rfl rfl ((blk_cell BK208.out 0).trans rfl) (fun hHeld => ?_); refine with_tabW flagstonedraw_Codes_Subject.tab4 flagstonedraw_Codes_Subject.bits4 (fun HT_ HW_ => ?_)
                generalize wc.drew = w38 at BK207 BK208 HI0 HK HB hHeld ⊢
                refine pure_ (i := 0) (N := some 17) (v := ?_) (a' := ?_) #[true, false, false, false, false, false, false, false] rfl rfl (any_of HT_.out (by kernel_rfl)) (fun _ _ _ h => h) (Or.inl ⟨by rfl, ?_⟩) ?_ ?_
                rotate_left
                · intro w'
                  go_simp
                  with_reducible rfl
                rotate_left
                · simp only [Act.put, List.setIfInBounds_toArray, List.set_cons_zero, List.set_cons_succ, i64_w, i32_w]
                  rfl
                refine pure_ (i := 2) (N := some 19) (v := ?_) (a' := ?_) #[true, false, true, false, false, false, false, false] rfl rfl (any_of HT_.out (by kernel_rfl)) (fun _ _ _ h => h) (Or.inl ⟨by rfl, ?_⟩) ?_ ?_
                rotate_left
                · intro w'
                  go_simp
                  with_reducible rfl
                rotate_left
                · simp only [Act.put, List.setIfInBounds_toArray, List.set_cons_zero, List.set_cons_succ, i64_w, i32_w]
                  rfl
                refine take_ (i := 1) (N := some 18) (v := ?_) (a' := ?_) #[true, true, true, false, false, false, false, false] rfl rfl (take_ofW HT_.out HW_.out (by kernel_rfl)) (fun _ _ _ h => h) (Or.inl ⟨by rfl, ?_⟩) hHeld ?_ ?_
                rotate_left
                · intro w' s0
                  go_simp
                  with_reducible rfl
                rotate_left
                · simp only [Act.put, List.setIfInBounds_toArray, List.set_cons_zero, List.set_cons_succ, i64_w, i32_w]
                  rfl
                refine one_ (i := 3) (N := some 20) #[true, true, true, true, false, false, false, false] rfl rfl (one_of HT_.out (by kernel_rfl)) (by decide) (fun K hK => ?_)
                refine goes_ Tryd.func50 (by kernel_rfl) rfl #[.pointer (some ⟨g, 0, none⟩), .string (⟨#[100, 101, 118, 105, 99, 101]⟩ : ByteArray)] (by rfl) rfl rfl (by (try simp only [List.map_toArray, List.map_cons, List.map_nil]); first | done | rfl | (simp only [List.length_drop, List.length_take]; rfl)) ?_
                with_reducible refine (flagstonedraw_Codes_context.calls kj2 g s0_0 t210 (⟨#[100, 101, 118, 105, 99, 101]⟩ : ByteArray) t211 t212 t213 t216 w0 _ ?side1 ?side2 ?side3 A10.out).mono ?_
                (case side1 => repeat (first | (with_reducible first | exact HI0.out | apply IsS71.alloc | apply IsS71.drewN | apply IsS71.drew | apply IsS71.set_1 | refine IsS71.far ?_ NB0_207.out _ | refine IsS71.far ?_ NB0_208.out _) | exact HI0.out))
                (case side2 => repeat (first | (with_reducible first|exact HB.out|apply zE|apply zB|apply zC | refine zJ ?_ (IsS71.ge HI0.out) | refine zJ ?_ GE207.out | refine zJ ?_ GE208.out) | exact HB.out))
                (case side3 => exact HGL.out)
                rintro e w39 ⟨v214, rfl, ho0, hi, hb, hk⟩
                refine ⟨_, rfl, ?_⟩
                have n0_ := Aside0.mk (KeepBut.blk hk (g' := gb207) (o := .cells #[.slice none 0 0] 58 (0, 0)) (by (with_reducible repeat (first|refine zN ?_ _|refine zD ?_|refine zA ?_ _)); exact BK207.out) NB207_0.out (by simp))
                have n1_ := Aside0.mk (KeepBut.blk hk (g' := gb208) (o := .cells #[.slice none 0 0] 58 (0, 0)) (by (with_reducible repeat (first|refine zN ?_ _|refine zD ?_|refine zA ?_ _)); exact BK208.out) NB208_0.out (by simp))
                have n2_ := Aside0.mk (Kd.S_lower (Kd.S_newM (M := fun k_ => (w.heap.size ≤ k_)) ho0 (keep_size (w := w) (g := g) (row := none) (by repeat (first | (with_reducible first | exact HK.out | apply KeepBut.set_ | apply zF | apply zG | apply zH | refine zI ?_ GW207.out _ | refine zI ?_ GW208.out _) | exact HK.out))) (fun k_ h_ => h_)) (keep_size (w := w) (g := g) (row := none) (by repeat (first | (with_reducible first | exact HK.out | apply KeepBut.set_ | apply zF | apply zG | apply zH | refine zI ?_ GW207.out _ | refine zI ?_ GW208.out _) | exact HK.out))))
                have n3_ := Aside0.mk (KeepBut.trans (by repeat (first | (with_reducible first | exact HK.out | apply KeepBut.set_ | apply zF | apply zG | apply zH | refine zI ?_ GW207.out _ | refine zI ?_ GW208.out _) | exact HK.out)) hk (.inl rfl))
                have n4_ := Aside0.mk (hb)
                have n5_ := Aside0.mk (hi)
                clear BK207 BK208 HK HB HI0; have BK207 := n0_; have BK208 := n1_; have HO215 := n2_; have HK := n3_; have HB := n4_; have HI0 := n5_; clear n0_ n1_ n2_ n3_ n4_ n5_
                (try clear hb)
                (try clear hb2)
                (try clear hk)
                (try clear hi)
                (try clear hge)
                (try clear ho0)
                obtain ⟨Ao41, co41, eo41⟩ := Kd.S_slice HO215.out
                (first | subst eo41 | (injection eo41 with f1_ f2_ f3_; have f4_ := f1_.symm; have f5_ := f3_.symm; clear f1_ f2_ f3_; subst f4_; subst f5_))
                refine hK.out _ _ ((blk_cell BK208.out 0).trans rfl) (fun hHeld => ?_)
                clear hK K
                refine norm_ (a' := ?_) ?_ ?_
                rotate_left
                · show Act.put _ (some 20) _ = _
                  simp only [Act.put, List.setIfInBounds_toArray, List.set_cons_zero, List.set_cons_succ, i64_w, i32_w]
                  rfl
                refine one_ (i := 4) (N := some 21) #[true, true, true, true, true, false, false, false] rfl rfl (one_of HT_.out (by kernel_rfl)) (by decide) (fun K hK => ?_)
                refine value_ (w1 := ?_) (v := ?_) (by rfl) rfl ?_ ?_
                rotate_left 2
                · go_simp
                  constructor
                  · rfl
                  · rfl
                refine hK.out _ _ ((blk_cell (zA BK208.out _) 0).trans rfl) (fun hHeld => ?_)
                clear hK K
                refine norm_ (a' := ?_) ?_ ?_
                rotate_left
                · show Act.put _ (some 21) _ = _
                  simp only [Act.put, List.setIfInBounds_toArray, List.set_cons_zero, List.set_cons_succ, i64_w, i32_w]
                  rfl
                refine one_ (i := 5) (N := some 22) #[true, true, true, true, true, true, false, false] rfl rfl (one_of HT_.out (by kernel_rfl)) (by decide) (fun K hK => ?_)
                refine Kd.R_append_step k85 w.heap.size (by rfl) (.tmp 18) (.tmp 21) 56 85 (.agg #[(.string ⟨#[]⟩), (.string ⟨#[]⟩), (.slice none 0 0)]) 56 rfl Tryd.underlying56 info85 rfl (by decide) (by omega) (.slice none 0 0) ([] : List (S85)) (⟨t211, t212, t213⟩ : S85) [.string t211, .string t212, .slice Ao41 t213.length co41] (fun k_ => (w.heap.size ≤ k_)) (fun k_ => ((fun k_ => (w.heap.size ≤ k_))) k_ ∧ some k_ ≠ (.slice none 0 0 : Value).ownBlock) rfl rfl ?aP (fun _ hk => hk) ?aF ?aO (Below.refl _ _) ?aS ?aL ?_
                (case aP => exact k85_mkM _ _ _ (⟨t211, t212, t213⟩ : S85) (Kd.R_mono ((Kd.S_R HO215.out)) (fun k_ hk => ⟨hk.1, (by simp [Value.ownBlock])⟩)))
                (case aF => exact (fun k_ hk => (Nat.le_trans (keep_size (w := w) (g := g) (row := none) (by repeat (first | (with_reducible first | exact HK.out | apply KeepBut.set_ | apply zF | apply zG | apply zH | refine zI ?_ GW207.out _ | refine zI ?_ GW208.out _) | exact HK.out))) hk)))
                (case aO => exact ((Kd.R_nil _ _ _ _ (fun k_ => (w.heap.size ≤ k_)))))
                (case aS => exact (keep_size (w := w) (g := g) (row := none) (by repeat (first | (with_reducible first | exact HK.out | apply KeepBut.set_ | apply zF | apply zG | apply zH | refine zI ?_ GW207.out _ | refine zI ?_ GW208.out _) | exact HK.out))))
                (case aL => have := LMc11.out; omega)
                intro v218 w40 ho hb hg hat
                rw [← Ny217.out] at ho
                have n0_ := Aside0.mk (blk_grown (g := gb207) (o := .cells #[.slice none 0 0] 58 (0, 0)) (by (with_reducible repeat (first|refine zN ?_ _|refine zD ?_|refine zA ?_ _)); exact BK207.out) hg (by simp [Value.ownBlock]))
                have n1_ := Aside0.mk (blk_grown (g := gb208) (o := .cells #[.slice none 0 0] 58 (0, 0)) (by (with_reducible repeat (first|refine zN ?_ _|refine zD ?_|refine zA ?_ _)); exact BK208.out) hg (by simp [Value.ownBlock]))
                have n2_ := Aside0.mk (IsS71.grown (by repeat (first | (with_reducible first | exact HI0.out | apply IsS71.alloc | apply IsS71.drewN | apply IsS71.drew | apply IsS71.set_1 | refine IsS71.far ?_ NB0_207.out _ | refine IsS71.far ?_ NB0_208.out _) | exact HI0.out)) hg (by simp [Value.ownBlock]))
                have n3_ := Aside0.mk (below_weaken (by repeat (first | (with_reducible first|exact HB.out|apply zE|apply zB|apply zC | refine zJ ?_ (IsS71.ge HI0.out) | refine zJ ?_ GE207.out | refine zJ ?_ GE208.out) | exact HB.out)) HL.out hb)
                have n4_ := Aside0.mk (KeepBut.trans (by repeat (first | (with_reducible first | exact HK.out | apply KeepBut.set_ | apply zF | apply zG | apply zH | refine zI ?_ GW207.out _ | refine zI ?_ GW208.out _) | exact HK.out)) (KeepBut.of_grown hg g) (.inl (by simp [Value.ownBlock])))
                have n5_ := Aside0.mk (ho)
                clear BK207 BK208 HI0 HB HK HO215; have BK207 := n0_; have BK208 := n1_; have HI0 := n2_; have HB := n3_; have HK := n4_; have HO219 := n5_; clear n0_ n1_ n2_ n3_ n4_ n5_ ho hb hg hat
                obtain ⟨Ao42, co42, eo42⟩ := Kd.R_slice HO219.out
                (first | subst eo42 | (injection eo42 with f1_ f2_ f3_; have f4_ := f1_.symm; have f5_ := f3_.symm; clear f1_ f2_ f3_; subst f4_; subst f5_))
                refine hK.out _ _ ((blk_cell BK208.out 0).trans rfl) (fun hHeld => ?_)
                clear hK K
                refine norm_ (a' := ?_) ?_ ?_
                rotate_left
                · show Act.put _ (some 22) _ = _
                  simp only [Act.put, List.setIfInBounds_toArray, List.set_cons_zero, List.set_cons_succ, i64_w, i32_w]
                  rfl
                refine pure_ (i := 6) (N := some 23) (v := ?_) (a' := ?_) #[true, true, true, true, true, true, true, false] rfl rfl (any_of HT_.out (by kernel_rfl)) (fun _ _ _ h => h) (Or.inl ⟨by rfl, ?_⟩) ?_ ?_
                rotate_left
                · intro w'
                  go_simp
                  with_reducible rfl
                rotate_left
                · simp only [Act.put, List.setIfInBounds_toArray, List.set_cons_zero, List.set_cons_succ, i64_w, i32_w]
                  rfl
                refine last_ (i := 7) (N := none) #[true, true, true, true, true, true, true, true] rfl rfl (one_of HT_.out (by kernel_rfl)) (by decide) (fun K hK => ?_)
                have hs43 : w40.cell? ⟨gb208, 0, none⟩ = some (.slice none 0 0) := (blk_cell BK208.out 0).trans rfl
                have hfs43 := blk_frozen BK208.out 0
                have hns43_0 := NB207_208.out; have hms43_0 := NB208_207.out
                refine skip_ (w1 := ?_) (by rfl) rfl ?_ ?_
                rotate_left
                · go_simp
                  rfl
                refine hK.out _ _ ?_
                clear hK K
                refine done_ (done_of HT_.out (by kernel_rfl)) ?_
                try go_wp2
                have n0_ : Aside0 (Kd.R k85 85 (w40.setCell ⟨gb208, 0, none⟩ (.slice Ao42 y217.length co42)) w.heap.size (fun k_ => (w.heap.size ≤ k_)) (.slice Ao42 y217.length co42) y217) := ⟨by (with_reducible repeat (first | apply Kd.R_alloc | apply Kd.R_drewN | apply Kd.R_drew)); exact Kd.R_mono (Kd.R_far (p := ⟨gb208, 0, none⟩) (Kd.R_types HO219.out BK208.out (by decide)) (fun _ hk => hk.2) (.slice Ao42 y217.length co42)) (fun _ hk => hk.1)⟩
                have n1_ : Aside0 ((w40.setCell ⟨gb208, 0, none⟩ (.slice Ao42 y217.length co42)).heap[gb207]? = some (.cells #[.slice none 0 0] 58 (0, 0))) := ⟨by (with_reducible repeat (first|refine zN ?_ _|refine zD ?_|refine zA ?_ _)); refine blk_far ?_ NB207_208.out _; (with_reducible repeat (first|refine zN ?_ _|refine zD ?_|refine zA ?_ _)); exact BK207.out⟩
                have n2_ : Aside0 ((w40.setCell ⟨gb208, 0, none⟩ (.slice Ao42 y217.length co42)).heap[gb208]? = some (.cells #[.slice Ao42 y217.length co42] 58 (0, 0))) := ⟨by (with_reducible repeat (first|refine zN ?_ _|refine zD ?_|refine zA ?_ _)); refine blk_put (cs := #[.slice none 0 0]) ?_ 0 _ rfl; (with_reducible repeat (first|refine zN ?_ _|refine zD ?_|refine zA ?_ _)); exact BK208.out⟩
                have n3_ : Aside0 (IsS71 w0 (w40.setCell ⟨gb208, 0, none⟩ (.slice Ao42 y217.length co42)) g s0_0 t216) := ⟨by repeat (first | (with_reducible first | exact HI0.out | apply IsS71.alloc | apply IsS71.drewN | apply IsS71.drew | apply IsS71.set_1 | refine IsS71.far ?_ NB0_207.out _ | refine IsS71.far ?_ NB0_208.out _) | exact HI0.out)⟩
                have n4_ : Aside0 (KeepBut w (w40.setCell ⟨gb208, 0, none⟩ (.slice Ao42 y217.length co42)) g none) := ⟨by repeat (first | (with_reducible first | exact HK.out | apply KeepBut.set_ | apply zF | apply zG | apply zH | refine zI ?_ GW207.out _ | refine zI ?_ GW208.out _) | exact HK.out)⟩
                have n5_ : Aside0 (Below w0.heap.size w0 (w40.setCell ⟨gb208, 0, none⟩ (.slice Ao42 y217.length co42))) := ⟨by repeat (first | (with_reducible first|exact HB.out|apply zE|apply zB|apply zC | refine zJ ?_ (IsS71.ge HI0.out) | refine zJ ?_ GE207.out | refine zJ ?_ GE208.out) | exact HB.out)⟩
                (try clear HO219)
                (try clear BK207)
                (try clear BK208)
                (try clear HI0)
                (try clear HK)
                (try clear HB)
                generalize (w40.setCell ⟨gb208, 0, none⟩ (.slice Ao42 y217.length co42)) = w44 at n0_ n1_ n2_ n3_ n4_ n5_ ⊢
                have HO219 := n0_; have BK207 := n1_; have BK208 := n2_; have HI0 := n3_; have HK := n4_; have HB := n5_; clear n0_ n1_ n2_ n3_ n4_ n5_
                have n0_ := Aside0.mk (Kd.R_drew HO219.out)
                have n1_ := Aside0.mk (zD BK207.out)
                have n2_ := Aside0.mk (zD BK208.out)
                have n3_ := Aside0.mk (IsS71.drew HI0.out)
                have n4_ := Aside0.mk (zG HK.out)
                have n5_ := Aside0.mk (zC HB.out)
                clear HO219 BK207 BK208 HI0 HK HB; have HO219 := n0_; have BK207 := n1_; have BK208 := n2_; have HI0 := n3_; have HK := n4_; have HB := n5_; clear n0_ n1_ n2_ n3_ n4_ n5_
                refine start_ (n := 8) (S := fun w' => w'.cell? ⟨gb208, 0, none⟩ = some (.slice Ao42 y217.length co42)) (ds := [7]) #[false, false, false, false, false, false, false, false] (by kernel_rfl) rfl rfl ((blk_cell BK208.out 0).trans rfl) (fun hHeld => ?_); refine with_tabW flagstonedraw_Codes_Subject.tab6 flagstonedraw_Codes_Subject.bits6 (fun HT_ HW_ => ?_)
                generalize w44.drew = w45 at HO219 BK207 BK208 HI0 HK HB hHeld ⊢
                refine pure_ (i := 0) (N := some 30) (v := ?_) (a' := ?_) #[true, false, false, false, false, false, false, false] rfl rfl (any_of HT_.out (by kernel_rfl)) (fun _ _ _ h => h) (Or.inl ⟨by rfl, ?_⟩) ?_ ?_
                rotate_left
                · intro w'
                  go_simp
                  with_reducible rfl
                rotate_left
                · simp only [Act.put, List.setIfInBounds_toArray, List.set_cons_zero, List.set_cons_succ, i64_w, i32_w]
                  rfl
                refine pure_ (i := 2) (N := some 32) (v := ?_) (a' := ?_) #[true, false, true, false, false, false, false, false] rfl rfl (any_of HT_.out (by kernel_rfl)) (fun _ _ _ h => h) (Or.inl ⟨by rfl, ?_⟩) ?_ ?_
                rotate_left
                · intro w'
                  go_simp
                  with_reducible rfl
                rotate_left
                · simp only [Act.put, List.setIfInBounds_toArray, List.set_cons_zero, List.set_cons_succ, i64_w, i32_w]
                  rfl
                refine take_ (i := 1) (N := some 31) (v := ?_) (a' := ?_) #[true, true, true, false, false, false, false, false] rfl rfl (take_ofW HT_.out HW_.out (by kernel_rfl)) (fun _ _ _ h => h) (Or.inl ⟨by rfl, ?_⟩) hHeld ?_ ?_
                rotate_left
                · intro w' s0
                  go_simp
                  with_reducible rfl
                rotate_left
                · simp only [Act.put, List.setIfInBounds_toArray, List.set_cons_zero, List.set_cons_succ, i64_w, i32_w]
                  rfl
                refine one_ (i := 3) (N := some 33) #[true, true, true, true, false, false, false, false] rfl rfl (one_of HT_.out (by kernel_rfl)) (by decide) (fun K hK => ?_)
                refine goes_ Tryd.func50 (by kernel_rfl) rfl #[.pointer (some ⟨g, 0, none⟩), .string (⟨#[117, 115, 101, 114]⟩ : ByteArray)] (by rfl) rfl rfl (by (try simp only [List.map_toArray, List.map_cons, List.map_nil]); first | done | rfl | (simp only [List.length_drop, List.length_take]; rfl)) ?_
                with_reducible refine (flagstonedraw_Codes_context.calls kj2 g s0_0 t216 (⟨#[117, 115, 101, 114]⟩ : ByteArray) t220 t221 t222 t225 w0 _ ?side1 ?side2 ?side3 A36.out).mono ?_
                (case side1 => repeat (first | (with_reducible first | exact HI0.out | apply IsS71.alloc | apply IsS71.drewN | apply IsS71.drew | apply IsS71.set_1 | refine IsS71.far ?_ NB0_207.out _ | refine IsS71.far ?_ NB0_208.out _) | exact HI0.out))
                (case side2 => repeat (first | (with_reducible first|exact HB.out|apply zE|apply zB|apply zC | refine zJ ?_ (IsS71.ge HI0.out) | refine zJ ?_ GE207.out | refine zJ ?_ GE208.out) | exact HB.out))
                (case side3 => exact HGL.out)
                rintro e w46 ⟨v223, rfl, ho0, hi, hb, hk⟩
                refine ⟨_, rfl, ?_⟩
                have n0_ := Aside0.mk (KeepBut.blk hk (g' := gb207) (o := .cells #[.slice none 0 0] 58 (0, 0)) (by (with_reducible repeat (first|refine zN ?_ _|refine zD ?_|refine zA ?_ _)); exact BK207.out) NB207_0.out (by simp))
                have n1_ := Aside0.mk (KeepBut.blk hk (g' := gb208) (o := .cells #[.slice Ao42 y217.length co42] 58 (0, 0)) (by (with_reducible repeat (first|refine zN ?_ _|refine zD ?_|refine zA ?_ _)); exact BK208.out) NB208_0.out (by simp))
                have n2_ := Aside0.mk (Kd.R_mono (Kd.R_told (Kd.R_oldK (IsS71.apart (show IsS71 w0 _ g s0_0 t216 from by repeat (first | (with_reducible first | exact HI0.out | apply IsS71.alloc | apply IsS71.drewN | apply IsS71.drew | apply IsS71.set_1 | refine IsS71.far ?_ NB0_207.out _ | refine IsS71.far ?_ NB0_208.out _) | exact HI0.out)) (by (with_reducible repeat (first | apply Kd.R_alloc | apply Kd.R_drewN | apply Kd.R_drew)); exact HO219.out) (by decide)) hk) (Kd.S_base ho0)) (fun _ h_ => h_.1))
                have n3_ := Aside0.mk (Kd.S_lower (Kd.S_newM (M := fun k_ => (w.heap.size ≤ k_)) ho0 (keep_size (w := w) (g := g) (row := none) (by repeat (first | (with_reducible first | exact HK.out | apply KeepBut.set_ | apply zF | apply zG | apply zH | refine zI ?_ GW207.out _ | refine zI ?_ GW208.out _) | exact HK.out))) (fun k_ h_ => h_)) (keep_size (w := w) (g := g) (row := none) (by repeat (first | (with_reducible first | exact HK.out | apply KeepBut.set_ | apply zF | apply zG | apply zH | refine zI ?_ GW207.out _ | refine zI ?_ GW208.out _) | exact HK.out))))
                have n4_ := Aside0.mk (KeepBut.trans (by repeat (first | (with_reducible first | exact HK.out | apply KeepBut.set_ | apply zF | apply zG | apply zH | refine zI ?_ GW207.out _ | refine zI ?_ GW208.out _) | exact HK.out)) hk (.inl rfl))
                have n5_ := Aside0.mk (hb)
                have n6_ := Aside0.mk (hi)
                clear BK207 BK208 HO219 HK HB HI0; have BK207 := n0_; have BK208 := n1_; have HO219 := n2_; have HO224 := n3_; have HK := n4_; have HB := n5_; have HI0 := n6_; clear n0_ n1_ n2_ n3_ n4_ n5_ n6_
                (try clear hb)
                (try clear hb2)
                (try clear hk)
                (try clear hi)
                (try clear hge)
                (try clear ho0)
                obtain ⟨Ao48, co48, eo48⟩ := Kd.S_slice HO224.out
                (first | subst eo48 | (injection eo48 with f1_ f2_ f3_; have f4_ := f1_.symm; have f5_ := f3_.symm; clear f1_ f2_ f3_; subst f4_; subst f5_))
                refine hK.out _ _ ((blk_cell BK208.out 0).trans rfl) (fun hHeld => ?_)
                clear hK K
                refine norm_ (a' := ?_) ?_ ?_
                rotate_left
                · show Act.put _ (some 33) _ = _
                  simp only [Act.put, List.setIfInBounds_toArray, List.set_cons_zero, List.set_cons_succ, i64_w, i32_w]
                  rfl
                refine one_ (i := 4) (N := some 34) #[true, true, true, true, true, false, false, false] rfl rfl (one_of HT_.out (by kernel_rfl)) (by decide) (fun K hK => ?_)
                refine value_ (w1 := ?_) (v := ?_) (by rfl) rfl ?_ ?_
                rotate_left 2
                · go_simp
                  constructor
                  · rfl
                  · rfl
                refine hK.out _ _ ((blk_cell (zA BK208.out _) 0).trans rfl) (fun hHeld => ?_)
                clear hK K
                refine norm_ (a' := ?_) ?_ ?_
                rotate_left
                · show Act.put _ (some 34) _ = _
                  simp only [Act.put, List.setIfInBounds_toArray, List.set_cons_zero, List.set_cons_succ, i64_w, i32_w]
                  rfl
                refine one_ (i := 5) (N := some 35) #[true, true, true, true, true, true, false, false] rfl rfl (one_of HT_.out (by kernel_rfl)) (by decide) (fun K hK => ?_)
                refine Kd.R_append_step k85 w.heap.size (by rfl) (.tmp 31) (.tmp 34) 56 85 (.agg #[(.string ⟨#[]⟩), (.string ⟨#[]⟩), (.slice none 0 0)]) 56 rfl Tryd.underlying56 info85 rfl (by decide) (by omega) (.slice Ao42 y217.length co42) y217 (⟨t220, t221, t222⟩ : S85) [.string t220, .string t221, .slice Ao48 t222.length co48] (fun k_ => (w.heap.size ≤ k_)) (fun k_ => ((fun k_ => (w.heap.size ≤ k_))) k_ ∧ some k_ ≠ (.slice Ao42 y217.length co42 : Value).ownBlock) rfl rfl ?aP (fun _ hk => hk) ?aF ?aO (Below.refl _ _) ?aS ?aL ?_
                (case aP => exact k85_mkM _ _ _ (⟨t220, t221, t222⟩ : S85) (Kd.R_mono (Kd.R_apart' ((Kd.S_R HO224.out)) (Kd.R_typed HO219.out) (by decide)) (fun k_ hk => ⟨hk.1.1, hk.2⟩)))
                (case aF => exact (fun k_ hk => (Nat.le_trans (keep_size (w := w) (g := g) (row := none) (by repeat (first | (with_reducible first | exact HK.out | apply KeepBut.set_ | apply zF | apply zG | apply zH | refine zI ?_ GW207.out _ | refine zI ?_ GW208.out _) | exact HK.out))) hk)))
                (case aO => exact (by (with_reducible repeat (first | apply Kd.R_alloc | apply Kd.R_drewN | apply Kd.R_drew)); exact Kd.R_mono HO219.out (fun _ hk => hk.1)))
                (case aS => exact (keep_size (w := w) (g := g) (row := none) (by repeat (first | (with_reducible first | exact HK.out | apply KeepBut.set_ | apply zF | apply zG | apply zH | refine zI ?_ GW207.out _ | refine zI ?_ GW208.out _) | exact HK.out))))
                (case aL => have := LMc37.out; omega)
                intro v227 w47 ho hb hg hat
                rw [← Ny226.out] at ho
                have n0_ := Aside0.mk (blk_grown (g := gb207) (o := .cells #[.slice none 0 0] 58 (0, 0)) (by (with_reducible repeat (first|refine zN ?_ _|refine zD ?_|refine zA ?_ _)); exact BK207.out) hg (Kd.R_ne HO219.out BK207.out (by decide)))
                have n1_ := Aside0.mk (blk_grown (g := gb208) (o := .cells #[.slice Ao42 y217.length co42] 58 (0, 0)) (by (with_reducible repeat (first|refine zN ?_ _|refine zD ?_|refine zA ?_ _)); exact BK208.out) hg (Kd.R_ne HO219.out BK208.out (by decide)))
                have n2_ := Aside0.mk (IsS71.grown (by repeat (first | (with_reducible first | exact HI0.out | apply IsS71.alloc | apply IsS71.drewN | apply IsS71.drew | apply IsS71.set_1 | refine IsS71.far ?_ NB0_207.out _ | refine IsS71.far ?_ NB0_208.out _) | exact HI0.out)) hg (IsS71.own_ne HI0.out HO219.out (by decide)))
                have n3_ := Aside0.mk (below_weaken (by repeat (first | (with_reducible first|exact HB.out|apply zE|apply zB|apply zC | refine zJ ?_ (IsS71.ge HI0.out) | refine zJ ?_ GE207.out | refine zJ ?_ GE208.out) | exact HB.out)) HL.out hb)
                have n4_ := Aside0.mk (KeepBut.trans (by repeat (first | (with_reducible first | exact HK.out | apply KeepBut.set_ | apply zF | apply zG | apply zH | refine zI ?_ GW207.out _ | refine zI ?_ GW208.out _) | exact HK.out)) (KeepBut.of_grown hg g) (Kd.R_base2 HO219.out))
                have n5_ := Aside0.mk (ho)
                clear BK207 BK208 HI0 HB HK HO219 HO224; have BK207 := n0_; have BK208 := n1_; have HI0 := n2_; have HB := n3_; have HK := n4_; have HO228 := n5_; clear n0_ n1_ n2_ n3_ n4_ n5_ ho hb hg hat
                obtain ⟨Ao49, co49, eo49⟩ := Kd.R_slice HO228.out
                (first | subst eo49 | (injection eo49 with f1_ f2_ f3_; have f4_ := f1_.symm; have f5_ := f3_.symm; clear f1_ f2_ f3_; subst f4_; subst f5_))
                refine hK.out _ _ ((blk_cell BK208.out 0).trans rfl) (fun hHeld => ?_)
                clear hK K
                refine norm_ (a' := ?_) ?_ ?_
                rotate_left
                · show Act.put _ (some 35) _ = _
                  simp only [Act.put, List.setIfInBounds_toArray, List.set_cons_zero, List.set_cons_succ, i64_w, i32_w]
                  rfl
                refine pure_ (i := 6) (N := some 36) (v := ?_) (a' := ?_) #[true, true, true, true, true, true, true, false] rfl rfl (any_of HT_.out (by kernel_rfl)) (fun _ _ _ h => h) (Or.inl ⟨by rfl, ?_⟩) ?_ ?_
                rotate_left
                · intro w'
                  go_simp
                  with_reducible rfl
                rotate_left
                · simp only [Act.put, List.setIfInBounds_toArray, List.set_cons_zero, List.set_cons_succ, i64_w, i32_w]
                  rfl
                refine last_ (i := 7) (N := none) #[true, true, true, true, true, true, true, true] rfl rfl (one_of HT_.out (by kernel_rfl)) (by decide) (fun K hK => ?_)
                have hs50 : w47.cell? ⟨gb208, 0, none⟩ = some (.slice Ao42 y217.length co42) := (blk_cell BK208.out 0).trans rfl
                have hfs50 := blk_frozen BK208.out 0
                have hns50_0 := NB207_208.out; have hms50_0 := NB208_207.out
                refine skip_ (w1 := ?_) (by rfl) rfl ?_ ?_
                rotate_left
                · go_simp
                  rfl
                refine hK.out _ _ ?_
                clear hK K
                refine done_ (done_of HT_.out (by kernel_rfl)) ?_
                have hnb51 := NB208_207.out; have hnc51 := NB207_208.out; have hnb52 := NB208_0.out; have hnc52 := NB0_208.out
                have hcz53_0 : w47.cell? ⟨gb208, 0, none⟩ = some (.slice Ao42 y217.length co42) := (blk_cell BK208.out 0).trans rfl
                have hfz53_0 := blk_frozen BK208.out 0
                have hnb54 := NB207_0.out; have hnc54 := NB0_207.out
                have hcz55_0 : w47.cell? ⟨gb207, 0, none⟩ = some (.slice none 0 0) := (blk_cell BK207.out 0).trans rfl
                have hfz55_0 := blk_frozen BK207.out 0
                try go_wp2
                refine bodyPost_ret (results_cell_row rfl _ _ gb207 58 #[.slice Ao49 y226.length co49] (0, 0) _ rfl (by (with_reducible repeat (first|refine zN ?_ _|refine zD ?_|refine zA ?_ _)); refine blk_put (cs := #[.slice none 0 0]) ?_ 0 _ rfl; (with_reducible repeat (first|refine zN ?_ _|refine zD ?_|refine zA ?_ _)); refine blk_far ?_ NB207_208.out _; (with_reducible repeat (first|refine zN ?_ _|refine zD ?_|refine zA ?_ _)); exact BK207.out) Tryd.underlying58 rfl (by kernel_rfl)) rfl ?_
                exact ⟨_, by first | rfl | (simp [errW_none, errW_some] <;> rfl) | (simp [*, errW_none, errW_some] <;> rfl), Kd.R_V (by (with_reducible repeat (first | apply Kd.R_alloc | apply Kd.R_drewN | apply Kd.R_drew)); exact Kd.R_mono (Kd.R_far (p := ⟨gb207, 0, none⟩) (Kd.R_far (p := ⟨gb208, 0, none⟩) (Kd.R_types (Kd.R_types HO228.out BK208.out (by decide)) BK207.out (by decide)) (fun _ hk => hk.1.2) (.slice Ao49 y226.length co49)) (fun _ hk => hk.2) (.slice Ao49 y226.length co49)) (fun _ hk => hk.1.1)), by repeat (first | (with_reducible first | exact HI0.out | apply IsS71.alloc | apply IsS71.drewN | apply IsS71.drew | apply IsS71.set_1 | refine IsS71.far ?_ NB0_207.out _ | refine IsS71.far ?_ NB0_208.out _) | exact HI0.out), by repeat (first | (with_reducible first|exact HB.out|apply zE|apply zB|apply zC | refine zJ ?_ (IsS71.ge HI0.out) | refine zJ ?_ GE207.out | refine zJ ?_ GE208.out) | exact HB.out), by repeat (first | (with_reducible first | exact HK.out | apply KeepBut.set_ | apply zF | apply zG | apply zH | refine zI ?_ GW207.out _ | refine zI ?_ GW208.out _) | exact HK.out)⟩
              · rw [if_neg c37] at H
                exact absurd H (by simp)
        · rw [if_neg c11] at H
          exact absurd H (by simp)
      · replace c9 := Bool.eq_false_iff.mpr c9
        subst c9
        have H1 : (if t209 = 1 then (some (([] : List (S85)), t210)) else (if t209 = 5 then (some (([] : List (S85)), t210)) else ((flagstonedraw_Codes_context.f kj2 s0_0 t210 (⟨#[117, 115, 101, 114]⟩ : ByteArray)).bind fun bt229 => (if ([] : List (S85)).length < 2513169434916 then (some ((([] : List (S85)) ++ [(⟨bt229.1, bt229.2.1, bt229.2.2.1⟩ : S85)]), bt229.2.2.2)) else (none))))) = some (r1, r2) := by rw [if_neg (show ¬ (false = true) by decide)] at H; exact H
        clear H; have H := H1; clear H1
        by_cases c56 : t209 = 1
        · rw [if_pos c56] at H
          have c56b0 : (t209 == 1) = true := beq_iff_eq.mpr c56
          have c56b1 : (t209 != 1) = false := bne_eq_false_iff_eq.mpr c56
          clear c56
          simp only [Option.some.injEq, Prod.mk.injEq] at H
          obtain ⟨rfl, rfl⟩ := H; have hnb57 := NB208_207.out; have hnc57 := NB207_208.out; have hnb58 := NB208_0.out; have hnc58 := NB0_208.out
          have hcz59_0 : wc.cell? ⟨gb208, 0, none⟩ = some (.slice none 0 0) := (blk_cell BK208.out 0).trans rfl
          have hfz59_0 := blk_frozen BK208.out 0
          have hnb60 := NB207_0.out; have hnc60 := NB0_207.out
          have hcz61_0 : wc.cell? ⟨gb207, 0, none⟩ = some (.slice none 0 0) := (blk_cell BK207.out 0).trans rfl
          have hfz61_0 := blk_frozen BK207.out 0
          go_wp2
          refine bodyPost_ret (results_cell_row rfl _ _ gb207 58 #[.slice none 0 0] (0, 0) _ rfl (by (with_reducible repeat (first|refine zN ?_ _|refine zD ?_|refine zA ?_ _)); refine blk_put (cs := #[.slice none 0 0]) ?_ 0 _ rfl; (with_reducible repeat (first|refine zN ?_ _|refine zD ?_|refine zA ?_ _)); exact BK207.out) Tryd.underlying58 rfl (by kernel_rfl)) rfl ?_
          exact ⟨_, by first | rfl | (simp [errW_none, errW_some] <;> rfl) | (simp [*, errW_none, errW_some] <;> rfl), Kd.V_nil _ _ _ _ _, by repeat (first | (with_reducible first | exact HI0.out | apply IsS71.alloc | apply IsS71.drewN | apply IsS71.drew | apply IsS71.set_1 | refine IsS71.far ?_ NB0_207.out _ | refine IsS71.far ?_ NB0_208.out _) | exact HI0.out), by repeat (first | (with_reducible first|exact HB.out|apply zE|apply zB|apply zC | refine zJ ?_ (IsS71.ge HI0.out) | refine zJ ?_ GE207.out | refine zJ ?_ GE208.out) | exact HB.out), by repeat (first | (with_reducible first | exact HK.out | apply KeepBut.set_ | apply zF | apply zG | apply zH | refine zI ?_ GW207.out _ | refine zI ?_ GW208.out _) | exact HK.out)⟩
        · rw [if_neg c56] at H
          have c56b0 : (t209 == 1) = false := beq_eq_false_iff_ne.mpr c56
          have c56b1 : (t209 != 1) = true := bne_iff_ne.mpr c56
          by_cases c62 : t209 = 5
          · rw [if_pos c62] at H
            have c62b0 : (t209 == 5) = true := beq_iff_eq.mpr c62
            have c62b1 : (t209 != 5) = false := bne_eq_false_iff_eq.mpr c62
            clear c62
            simp only [Option.some.injEq, Prod.mk.injEq] at H
            obtain ⟨rfl, rfl⟩ := H; have hnb63 := NB208_207.out; have hnc63 := NB207_208.out; have hnb64 := NB208_0.out; have hnc64 := NB0_208.out
            have hcz65_0 : wc.cell? ⟨gb208, 0, none⟩ = some (.slice none 0 0) := (blk_cell BK208.out 0).trans rfl
            have hfz65_0 := blk_frozen BK208.out 0
            have hnb66 := NB207_0.out; have hnc66 := NB0_207.out
            have hcz67_0 : wc.cell? ⟨gb207, 0, none⟩ = some (.slice none 0 0) := (blk_cell BK207.out 0).trans rfl
            have hfz67_0 := blk_frozen BK207.out 0
            go_wp2
            refine bodyPost_ret (results_cell_row rfl _ _ gb207 58 #[.slice none 0 0] (0, 0) _ rfl (by (with_reducible repeat (first|refine zN ?_ _|refine zD ?_|refine zA ?_ _)); refine blk_put (cs := #[.slice none 0 0]) ?_ 0 _ rfl; (with_reducible repeat (first|refine zN ?_ _|refine zD ?_|refine zA ?_ _)); exact BK207.out) Tryd.underlying58 rfl (by kernel_rfl)) rfl ?_
            exact ⟨_, by first | rfl | (simp [errW_none, errW_some] <;> rfl) | (simp [*, errW_none, errW_some] <;> rfl), Kd.V_nil _ _ _ _ _, by repeat (first | (with_reducible first | exact HI0.out | apply IsS71.alloc | apply IsS71.drewN | apply IsS71.drew | apply IsS71.set_1 | refine IsS71.far ?_ NB0_207.out _ | refine IsS71.far ?_ NB0_208.out _) | exact HI0.out), by repeat (first | (with_reducible first|exact HB.out|apply zE|apply zB|apply zC | refine zJ ?_ (IsS71.ge HI0.out) | refine zJ ?_ GE207.out | refine zJ ?_ GE208.out) | exact HB.out), by repeat (first | (with_reducible first | exact HK.out | apply KeepBut.set_ | apply zF | apply zG | apply zH | refine zI ?_ GW207.out _ | refine zI ?_ GW208.out _) | exact HK.out)⟩
          · rw [if_neg c62] at H
            have c62b0 : (t209 == 5) = false := beq_eq_false_iff_ne.mpr c62
            have c62b1 : (t209 != 5) = true := bne_iff_ne.mpr c62
            replace H := Option.bind_eq_some_iff.mp H
            obtain ⟨⟨t229, t230, t231, t234⟩, A680, H⟩ := H
            replace H : (if ([] : List (S85)).length < 2513169434916 then (some ((([] : List (S85)) ++ [(⟨t229, t230, t231⟩ : S85)]), t234)) else (none)) = some (r1, r2) := H
            have A68 := Aside0.mk A680; clear A680
            by_cases c69 : ([] : List (S85)).length < 2513169434916
            · rw [if_pos c69] at H
              have LMc69 := Aside0.mk c69; clear c69
              obtain ⟨y235, hy235⟩ : ∃ y_ : List (S85), y_ = (([] : List (S85)) ++ [(⟨t229, t230, t231⟩ : S85)]) := ⟨_, rfl⟩
              replace H : (some (y235, t234)) = some (r1, r2) := by first | (rw [hy235]; with_reducible exact H) | (have H2_ := (Option.bind_some _ _).symm.trans H; rw [hy235]; with_reducible exact H2_) | (have H2_ := (Option.bind_some _ _).symm.trans H; with_reducible exact H2_) | with_reducible exact H | (rw [hy235]; exact H) | exact H
              have Ny235 := Aside0.mk hy235; clear hy235
              simp only [Option.some.injEq, Prod.mk.injEq] at H
              obtain ⟨rfl, rfl⟩ := H
              try go_wp2
              have n0_ := Aside0.mk (zD BK207.out)
              have n1_ := Aside0.mk (zD BK208.out)
              have n2_ := Aside0.mk (IsS71.drew HI0.out)
              have n3_ := Aside0.mk (zG HK.out)
              have n4_ := Aside0.mk (zC HB.out)
              clear BK207 BK208 HI0 HK HB; have BK207 := n0_; have BK208 := n1_; have HI0 := n2_; have HK := n3_; have HB := n4_; clear n0_ n1_ n2_ n3_ n4_
              refine start_ (n := 8) (S := fun w' => w'.cell? ⟨gb208, 0, none⟩ = some (.slice none 0 0)) (ds := [7]) #[false, false, false, false, false, false, false, false] (by kernel_rfl) rfl rfl ((blk_cell BK208.out 0).trans rfl) (fun hHeld => ?_); refine with_tabW flagstonedraw_Codes_Subject.tab6 flagstonedraw_Codes_Subject.bits6 (fun HT_ HW_ => ?_)
              generalize wc.drew = w70 at BK207 BK208 HI0 HK HB hHeld ⊢
              refine pure_ (i := 0) (N := some 30) (v := ?_) (a' := ?_) #[true, false, false, false, false, false, false, false] rfl rfl (any_of HT_.out (by kernel_rfl)) (fun _ _ _ h => h) (Or.inl ⟨by rfl, ?_⟩) ?_ ?_
              rotate_left
              · intro w'
                go_simp
                with_reducible rfl
              rotate_left
              · simp only [Act.put, List.setIfInBounds_toArray, List.set_cons_zero, List.set_cons_succ, i64_w, i32_w]
                rfl
              refine pure_ (i := 2) (N := some 32) (v := ?_) (a' := ?_) #[true, false, true, false, false, false, false, false] rfl rfl (any_of HT_.out (by kernel_rfl)) (fun _ _ _ h => h) (Or.inl ⟨by rfl, ?_⟩) ?_ ?_
              rotate_left
              · intro w'
                go_simp
                with_reducible rfl
              rotate_left
              · simp only [Act.put, List.setIfInBounds_toArray, List.set_cons_zero, List.set_cons_succ, i64_w, i32_w]
                rfl
              refine take_ (i := 1) (N := some 31) (v := ?_) (a' := ?_) #[true, true, true, false, false, false, false, false] rfl rfl (take_ofW HT_.out HW_.out (by kernel_rfl)) (fun _ _ _ h => h) (Or.inl ⟨by rfl, ?_⟩) hHeld ?_ ?_
              rotate_left
              · intro w' s0
                go_simp
                with_reducible rfl
              rotate_left
              · simp only [Act.put, List.setIfInBounds_toArray, List.set_cons_zero, List.set_cons_succ, i64_w, i32_w]
                rfl
              refine one_ (i := 3) (N := some 33) #[true, true, true, true, false, false, false, false] rfl rfl (one_of HT_.out (by kernel_rfl)) (by decide) (fun K hK => ?_)
              refine goes_ Tryd.func50 (by kernel_rfl) rfl #[.pointer (some ⟨g, 0, none⟩), .string (⟨#[117, 115, 101, 114]⟩ : ByteArray)] (by rfl) rfl rfl (by (try simp only [List.map_toArray, List.map_cons, List.map_nil]); first | done | rfl | (simp only [List.length_drop, List.length_take]; rfl)) ?_
              with_reducible refine (flagstonedraw_Codes_context.calls kj2 g s0_0 t210 (⟨#[117, 115, 101, 114]⟩ : ByteArray) t229 t230 t231 t234 w0 _ ?side1 ?side2 ?side3 A68.out).mono ?_
              (case side1 => repeat (first | (with_reducible first | exact HI0.out | apply IsS71.alloc | apply IsS71.drewN | apply IsS71.drew | apply IsS71.set_1 | refine IsS71.far ?_ NB0_207.out _ | refine IsS71.far ?_ NB0_208.out _) | exact HI0.out))
              (case side2 => repeat (first | (with_reducible first|exact HB.out|apply zE|apply zB|apply zC | refine zJ ?_ (IsS71.ge HI0.out) | refine zJ ?_ GE207.out | refine zJ ?_ GE208.out) | exact HB.out))
              (case side3 => exact HGL.out)
              rintro e w71 ⟨v232, rfl, ho0, hi, hb, hk⟩
              refine ⟨_, rfl, ?_⟩
              have n0_ := Aside0.mk (KeepBut.blk hk (g' := gb207) (o := .cells #[.slice none 0 0] 58 (0, 0)) (by (with_reducible repeat (first|refine zN ?_ _|refine zD ?_|refine zA ?_ _)); exact BK207.out) NB207_0.out (by simp))
              have n1_ := Aside0.mk (KeepBut.blk hk (g' := gb208) (o := .cells #[.slice none 0 0] 58 (0, 0)) (by (with_reducible repeat (first|refine zN ?_ _|refine zD ?_|refine zA ?_ _)); exact BK208.out) NB208_0.out (by simp))
              have n2_ := Aside0.mk (Kd.S_lower (Kd.S_newM (M := fun k_ => (w.heap.size ≤ k_)) ho0 (keep_size (w := w) (g := g) (row := none) (by repeat (first | (with_reducible first | exact HK.out | apply KeepBut.set_ | apply zF | apply zG | apply zH | refine zI ?_ GW207.out _ | refine zI ?_ GW208.out _) | exact HK.out))) (fun k_ h_ => h_)) (keep_size (w := w) (g := g) (row := none) (by repeat (first | (with_reducible first | exact HK.out | apply KeepBut.set_ | apply zF | apply zG | apply zH | refine zI ?_ GW207.out _ | refine zI ?_ GW208.out _) | exact HK.out))))
              have n3_ := Aside0.mk (KeepBut.trans (by repeat (first | (with_reducible first | exact HK.out | apply KeepBut.set_ | apply zF | apply zG | apply zH | refine zI ?_ GW207.out _ | refine zI ?_ GW208.out _) | exact HK.out)) hk (.inl rfl))
              have n4_ := Aside0.mk (hb)
              have n5_ := Aside0.mk (hi)
              clear BK207 BK208 HK HB HI0; have BK207 := n0_; have BK208 := n1_; have HO233 := n2_; have HK := n3_; have HB := n4_; have HI0 := n5_; clear n0_ n1_ n2_ n3_ n4_ n5_
              (try clear hb)
              (try clear hb2)
              (try clear hk)
              (try clear hi)
              (try clear hge)
              (try clear ho0)
              obtain ⟨Ao73, co73, eo73⟩ := Kd.S_slice HO233.out
              (first | subst eo73 | (injection eo73 with f1_ f2_ f3_; have f4_ := f1_.symm; have f5_ := f3_.symm; clear f1_ f2_ f3_; subst f4_; subst f5_))
              refine hK.out _ _ ((blk_cell BK208.out 0).trans rfl) (fun hHeld => ?_)
              clear hK K
              refine norm_ (a' := ?_) ?_ ?_
              rotate_left
              · show Act.put _ (some 33) _ = _
                simp only [Act.put, List.setIfInBounds_toArray, List.set_cons_zero, List.set_cons_succ, i64_w, i32_w]
                rfl
              refine one_ (i := 4) (N := some 34) #[true, true, true, true, true, false, false, false] rfl rfl (one_of HT_.out (by kernel_rfl)) (by decide) (fun K hK => ?_)
              refine value_ (w1 := ?_) (v := ?_) (by rfl) rfl ?_ ?_
              rotate_left 2
              · go_simp
                constructor
                · rfl
                · rfl
              refine hK.out _ _ ((blk_cell (zA BK208.out _) 0).trans rfl) (fun hHeld => ?_)
              clear hK K
              refine norm_ (a' := ?_) ?_ ?_
              rotate_left
              · show Act.put _ (some 34) _ = _
                simp only [Act.put, List.setIfInBounds_toArray, List.set_cons_zero, List.set_cons_succ, i64_w, i32_w]
                rfl
              refine one_ (i := 5) (N := some 35) #[true, true, true, true, true, true, false, false] rfl rfl (one_of HT_.out (by kernel_rfl)) (by decide) (fun K hK => ?_)
              refine Kd.R_append_step k85 w.heap.size (by rfl) (.tmp 31) (.tmp 34) 56 85 (.agg #[(.string ⟨#[]⟩), (.string ⟨#[]⟩), (.slice none 0 0)]) 56 rfl Tryd.underlying56 info85 rfl (by decide) (by omega) (.slice none 0 0) ([] : List (S85)) (⟨t229, t230, t231⟩ : S85) [.string t229, .string t230, .slice Ao73 t231.length co73] (fun k_ => (w.heap.size ≤ k_)) (fun k_ => ((fun k_ => (w.heap.size ≤ k_))) k_ ∧ some k_ ≠ (.slice none 0 0 : Value).ownBlock) rfl rfl ?aP (fun _ hk => hk) ?aF ?aO (Below.refl _ _) ?aS ?aL ?_
              (case aP => exact k85_mkM _ _ _ (⟨t229, t230, t231⟩ : S85) (Kd.R_mono ((Kd.S_R HO233.out)) (fun k_ hk => ⟨hk.1, (by simp [Value.ownBlock])⟩)))
              (case aF => exact (fun k_ hk => (Nat.le_trans (keep_size (w := w) (g := g) (row := none) (by repeat (first | (with_reducible first | exact HK.out | apply KeepBut.set_ | apply zF | apply zG | apply zH | refine zI ?_ GW207.out _ | refine zI ?_ GW208.out _) | exact HK.out))) hk)))
              (case aO => exact ((Kd.R_nil _ _ _ _ (fun k_ => (w.heap.size ≤ k_)))))
              (case aS => exact (keep_size (w := w) (g := g) (row := none) (by repeat (first | (with_reducible first | exact HK.out | apply KeepBut.set_ | apply zF | apply zG | apply zH | refine zI ?_ GW207.out _ | refine zI ?_ GW208.out _) | exact HK.out))))
              (case aL => have := LMc69.out; omega)
              intro v236 w72 ho hb hg hat
              rw [← Ny235.out] at ho
              have n0_ := Aside0.mk (blk_grown (g := gb207) (o := .cells #[.slice none 0 0] 58 (0, 0)) (by (with_reducible repeat (first|refine zN ?_ _|refine zD ?_|refine zA ?_ _)); exact BK207.out) hg (by simp [Value.ownBlock]))
              have n1_ := Aside0.mk (blk_grown (g := gb208) (o := .cells #[.slice none 0 0] 58 (0, 0)) (by (with_reducible repeat (first|refine zN ?_ _|refine zD ?_|refine zA ?_ _)); exact BK208.out) hg (by simp [Value.ownBlock]))
              have n2_ := Aside0.mk (IsS71.grown (by repeat (first | (with_reducible first | exact HI0.out | apply IsS71.alloc | apply IsS71.drewN | apply IsS71.drew | apply IsS71.set_1 | refine IsS71.far ?_ NB0_207.out _ | refine IsS71.far ?_ NB0_208.out _) | exact HI0.out)) hg (by simp [Value.ownBlock]))
              have n3_ := Aside0.mk (below_weaken (by repeat (first | (with_reducible first|exact HB.out|apply zE|apply zB|apply zC | refine zJ ?_ (IsS71.ge HI0.out) | refine zJ ?_ GE207.out | refine zJ ?_ GE208.out) | exact HB.out)) HL.out hb)
              have n4_ := Aside0.mk (KeepBut.trans (by repeat (first | (with_reducible first | exact HK.out | apply KeepBut.set_ | apply zF | apply zG | apply zH | refine zI ?_ GW207.out _ | refine zI ?_ GW208.out _) | exact HK.out)) (KeepBut.of_grown hg g) (.inl (by simp [Value.ownBlock])))
              have n5_ := Aside0.mk (ho)
              clear BK207 BK208 HI0 HB HK HO233; have BK207 := n0_; have BK208 := n1_; have HI0 := n2_; have HB := n3_; have HK := n4_; have HO237 := n5_; clear n0_ n1_ n2_ n3_ n4_ n5_ ho hb hg hat
              obtain ⟨Ao74, co74, eo74⟩ := Kd.R_slice HO237.out
              (first | subst eo74 | (injection eo74 with f1_ f2_ f3_; have f4_ := f1_.symm; have f5_ := f3_.symm; clear f1_ f2_ f3_; subst f4_; subst f5_))
              refine hK.out _ _ ((blk_cell BK208.out 0).trans rfl) (fun hHeld => ?_)
              clear hK K
              refine norm_ (a' := ?_) ?_ ?_
              rotate_left
              · show Act.put _ (some 35) _ = _
                simp only [Act.put, List.setIfInBounds_toArray, List.set_cons_zero, List.set_cons_succ, i64_w, i32_w]
                rfl
              refine pure_ (i := 6) (N := some 36) (v := ?_) (a' := ?_) #[true, true, true, true, true, true, true, false] rfl rfl (any_of HT_.out (by kernel_rfl)) (fun _ _ _ h => h) (Or.inl ⟨by rfl, ?_⟩) ?_ ?_
              rotate_left
              · intro w'
                go_simp
                with_reducible rfl
              rotate_left
              · simp only [Act.put, List.setIfInBounds_toArray, List.set_cons_zero, List.set_cons_succ, i64_w, i32_w]
                rfl
              refine last_ (i := 7) (N := none) #[true, true, true, true, true, true, true, true] rfl rfl (one_of HT_.out (by kernel_rfl)) (by decide) (fun K hK => ?_)
              have hs75 : w72.cell? ⟨gb208, 0, none⟩ = some (.slice none 0 0) := (blk_cell BK208.out 0).trans rfl
              have hfs75 := blk_frozen BK208.out 0
              have hns75_0 := NB207_208.out; have hms75_0 := NB208_207.out
              refine skip_ (w1 := ?_) (by rfl) rfl ?_ ?_
              rotate_left
              · go_simp
                rfl
              refine hK.out _ _ ?_
              clear hK K
              refine done_ (done_of HT_.out (by kernel_rfl)) ?_
              have hnb76 := NB208_207.out; have hnc76 := NB207_208.out; have hnb77 := NB208_0.out; have hnc77 := NB0_208.out
              have hcz78_0 : w72.cell? ⟨gb208, 0, none⟩ = some (.slice none 0 0) := (blk_cell BK208.out 0).trans rfl
              have hfz78_0 := blk_frozen BK208.out 0
              have hnb79 := NB207_0.out; have hnc79 := NB0_207.out
              have hcz80_0 : w72.cell? ⟨gb207, 0, none⟩ = some (.slice none 0 0) := (blk_cell BK207.out 0).trans rfl
              have hfz80_0 := blk_frozen BK207.out 0
              try go_wp2
              refine bodyPost_ret (results_cell_row rfl _ _ gb207 58 #[.slice Ao74 y235.length co74] (0, 0) _ rfl (by (with_reducible repeat (first|refine zN ?_ _|refine zD ?_|refine zA ?_ _)); refine blk_put (cs := #[.slice none 0 0]) ?_ 0 _ rfl; (with_reducible repeat (first|refine zN ?_ _|refine zD ?_|refine zA ?_ _)); refine blk_far ?_ NB207_208.out _; (with_reducible repeat (first|refine zN ?_ _|refine zD ?_|refine zA ?_ _)); exact BK207.out) Tryd.underlying58 rfl (by kernel_rfl)) rfl ?_
              exact ⟨_, by first | rfl | (simp [errW_none, errW_some] <;> rfl) | (simp [*, errW_none, errW_some] <;> rfl), Kd.R_V (by (with_reducible repeat (first | apply Kd.R_alloc | apply Kd.R_drewN | apply Kd.R_drew)); exact Kd.R_mono (Kd.R_far (p := ⟨gb207, 0, none⟩) (Kd.R_far (p := ⟨gb208, 0, none⟩) (Kd.R_types (Kd.R_types HO237.out BK208.out (by decide)) BK207.out (by decide)) (fun _ hk => hk.1.2) (.slice Ao74 y235.length co74)) (fun _ hk => hk.2) (.slice Ao74 y235.length co74)) (fun _ hk => hk.1.1)), by repeat (first | (with_reducible first | exact HI0.out | apply IsS71.alloc | apply IsS71.drewN | apply IsS71.drew | apply IsS71.set_1 | refine IsS71.far ?_ NB0_207.out _ | refine IsS71.far ?_ NB0_208.out _) | exact HI0.out), by repeat (first | (with_reducible first|exact HB.out|apply zE|apply zB|apply zC | refine zJ ?_ (IsS71.ge HI0.out) | refine zJ ?_ GE207.out | refine zJ ?_ GE208.out) | exact HB.out), by repeat (first | (with_reducible first | exact HK.out | apply KeepBut.set_ | apply zF | apply zG | apply zH | refine zI ?_ GW207.out _ | refine zI ?_ GW208.out _) | exact HK.out)⟩
            · rw [if_neg c69] at H
              exact absurd H (by simp)

end Go.Proofs.YtefglphdiimhnaaDoor.Q
