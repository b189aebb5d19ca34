-- printed by wip/hp.py (the session's driver of the print, with hand-proved contracts)
import Derived.Test.YtefglphdiimhnaaDoorQ0
import Derived.Test.YtefglphdiimhnaaDoorQ7
namespace Go.Proofs.YtefglphdiimhnaaDoor.Q
open Go.RowKit Go.Proofs.YtefglphdiimhnaaDoorW.PrintWords Go.Proofs.YtefglphdiimhnaaDoorW.PrintLast Go.Proofs.YtefglphdiimhnaaDoorW.PrintMore
attribute [local go_sem] max2_int min2_int max_two min_two max_three min_three max_four min_four   -- for this text's walks alone
set_option linter.unusedVariables false
set_option linter.unusedSimpArgs false

/-! ### flagstonedraw_Codes_context: function 50 -/
def flagstonedraw_Codes_context.l0 : Nat → ByteArray → List (S65) → Int → List Int → Int → ByteArray → ByteArray → List (S98) → Option (ByteArray × ByteArray × (List (S98)) × Int)
  | 0, _, _, _, _, _, _, _, _ => none
  | k + 1, x1, x6, x7, x1000, x1001, x189000, x189001, x189002 => if x7 < (x6.length : Int) then (if 0 ≤ x7 then (if ((rd_T65 x6 x7).f0).toList = x1.toList then ((flagstonedraw_Codes_Next.f x1000 x1001 4).bind fun bt193 => (if bt193.1 > 0 then ((flagstonedraw_Codes_Value.f x1000 bt193.2 ((rd_T65 x6 x7).f2)).bind fun bt197 => (if x189002.length < 1954687338268 then (flagstonedraw_Codes_context.l0 k x1 x6 (wrap64 (x7 + 1)) x1000 bt197.2.2.2.2 x189000 x189001 (x189002 ++ [(⟨(rd_T65 x6 x7).f1, (⟨bt197.1, bt197.2.1, bt197.2.2.1, bt197.2.2.2.1⟩ : S49)⟩ : S98)])) else (none))) else (flagstonedraw_Codes_context.l0 k x1 x6 (wrap64 (x7 + 1)) x1000 bt193.2 x189000 x189001 x189002))) else (flagstonedraw_Codes_context.l0 k x1 x6 (wrap64 (x7 + 1)) x1000 x1001 x189000 x189001 x189002)) else (none)) else (some (x189000, x189001, x189002, x1001))
def flagstonedraw_Codes_context.f (k : Nat) (s0_0 : List Int) (s0_1 : Int) (a1 : ByteArray) : Option (ByteArray × ByteArray × (List (S98)) × Int) := (flagstonedraw_Codes_Key.f s0_0 s0_1).bind fun bt186 => ((flagstonedraw_Declared.f).bind fun t189 => (flagstonedraw_Codes_context.l0 k a1 t189 0 s0_0 bt186.2 a1 bt186.1 ([] : List (S98))))
theorem flagstonedraw_Codes_context.mono_l : ∀ k, (∀ y0 y1 y2 y3 y4 y5 y6 y7, LeO (flagstonedraw_Codes_context.l0 k y0 y1 y2 y3 y4 y5 y6 y7) (flagstonedraw_Codes_context.l0 (k + 1) y0 y1 y2 y3 y4 y5 y6 y7))
  | 0 => fun _ _ _ _ _ _ _ _ r h => by simp [flagstonedraw_Codes_context.l0] at h
  | k + 1 => by
    have ih0 := flagstonedraw_Codes_context.mono_l k
    · intro y0 y1 y2 y3 y4 y5 y6 y7
      unfold flagstonedraw_Codes_context.l0
      repeat' first
      | (with_reducible exact ih0 _ _ _ _ _ _ _ _)
      | (with_reducible exact LeO.refl _)
      | (with_reducible exact LeO.none _)
      | (with_reducible refine LeO.ite ?_ ?_)
      | (with_reducible refine LeO.bind ?_ (fun _ => ?_))
      | exact ih0 _ _ _ _ _ _ _ _
      | exact LeO.none _
      | refine LeO.ite ?_ ?_
      | refine LeO.bind ?_ (fun _ => ?_)
theorem flagstonedraw_Codes_context.mono : ∀ a0 a1 a2 k, LeO (flagstonedraw_Codes_context.f k a0 a1 a2) (flagstonedraw_Codes_context.f (k + 1) a0 a1 a2) := by
  intro a0 a1 a2 k
  have ih0 := flagstonedraw_Codes_context.mono_l k
  unfold flagstonedraw_Codes_context.f
  repeat' first
      | (with_reducible exact ih0 _ _ _ _ _ _ _ _)
      | (with_reducible exact LeO.refl _)
      | (with_reducible exact LeO.none _)
      | (with_reducible refine LeO.ite ?_ ?_)
      | (with_reducible refine LeO.bind ?_ (fun _ => ?_))
      | exact ih0 _ _ _ _ _ _ _ _
      | exact LeO.none _
      | refine LeO.ite ?_ ?_
      | refine LeO.bind ?_ (fun _ => ?_)
def flagstonedraw_Codes_context.T7 : Bool × List (List Nat × List Nat) := (true, [([], []), ([0], [0]), ([], []), ([], []), ([2, 3], [2, 3]), ([4], [4]), ([5], [5]), ([], []), ([], []), ([], []), ([8, 9], [8, 9]), ([10], [10]), ([11], [11]), ([7, 12], [7, 12]), ([6, 13], [6, 13]), ([14], [14]), ([1, 15, 13], [1, 15]), ([0, 1, 2, 3, 4, 5, 6, 7, 8, 9, 10, 11, 12, 13, 14, 15, 16], []), ([17, 16, 16, 0, 1, 2, 3, 4, 5, 6, 7, 8, 9, 10, 11, 12, 13, 14, 15, 16], [16, 17])])
def flagstonedraw_Codes_context.B7 : List Nat := [0, 1, 0, 0, 12, 28, 60, 0, 0, 0, 768, 1792, 3840, 8064, 16380, 32764, 65535, 131071, 262143]
theorem flagstonedraw_Codes_context.tab7 : rtab .any (opsOf Tryd.f50 7) = flagstonedraw_Codes_context.T7 := by kernel_rfl
theorem flagstonedraw_Codes_context.bits7 : waitsOk flagstonedraw_Codes_context.T7.2 flagstonedraw_Codes_context.B7 = true := by kernel_rfl
set_option maxHeartbeats 8000000 in
set_option maxRecDepth 100000 in
theorem flagstonedraw_Codes_context.calls (k : Nat) (g : Nat) (s0_0 : List Int) (s0_1 : Int) (a1 : ByteArray) (r1 : ByteArray) (r2 : ByteArray) (r3 : List (S98)) (r4 : Int) (w0 w : World) (hI : IsS71 w0 w g s0_0 s0_1) (hB : Below w0.heap.size w0 w) (hGL : GL w0) (h : flagstonedraw_Codes_context.f k s0_0 s0_1 a1 = some (r1, r2, r3, r4)) :
    Calls Tryd.prog 50 #[.pointer (some ⟨g, 0, none⟩), .string a1] w fun e w' => ∃ v2_ : Value, e = .returned (.agg #[.string r1, .string r2, v2_]) ∧ Kd.S k98 98 w' w.heap.size (fun _ => True) v2_ r3 ∧ IsS71 w0 w' g s0_0 r4 ∧ Below w0.heap.size w0 w' ∧ KeepBut w w' g none := by
  have hu85 := Tryd.underlying85; have hu98 := Tryd.underlying98; have HGL := Aside0.mk hGL; clear hGL; have HI0 := Aside0.mk hI
  have HK := Aside0.mk (KeepBut.refl w g none)
  have HL := Aside0.mk hB.size; clear hI; have HW0 := Aside0.mk hB.size; have HB := Aside0.mk hB; clear hB
  have H : ((flagstonedraw_Codes_Key.f s0_0 s0_1).bind fun bt186 => ((flagstonedraw_Declared.f).bind fun t189 => (flagstonedraw_Codes_context.l0 k a1 t189 0 s0_0 bt186.2 a1 bt186.1 ([] : List (S98))))) = some (r1, r2, r3, r4) := h
  clear h; replace H := Option.bind_eq_some_iff.mp H
  obtain ⟨⟨t186, t187⟩, A30, H⟩ := H
  replace H : ((flagstonedraw_Declared.f).bind fun t189 => (flagstonedraw_Codes_context.l0 k a1 t189 0 s0_0 t187 a1 t186 ([] : List (S98)))) = some (r1, r2, r3, r4) := H
  have A3 := Aside0.mk A30; clear A30; replace H := Option.bind_eq_some_iff.mp H; obtain ⟨t189, A40, H⟩ := H
  replace H : (flagstonedraw_Codes_context.l0 k a1 t189 0 s0_0 t187 a1 t186 ([] : List (S98))) = some (r1, r2, r3, r4) := H
  have A4 := Aside0.mk A40; clear A40; have H' := Aside0.mk H; clear H
  go_enter Tryd.func50, Tryd.ntmps50
  go_wp2_with (first | ((with_reducible refine gate_dst (N := 4) rfl ?_); refine box_event ?hg (N := 4) ?hd (cs := #[.string (⟨#[]⟩ : ByteArray), .string (⟨#[]⟩ : ByteArray), .slice none 0 0]) (t := 85) ?hr ?_; (case hd => rfl); (case hg => rfl); (case hr => first | (go_simp; done) | (go_simp; rfl)); intro gb185 hg w5 hbox hb; have n0_ := Aside0.mk (IsS71.below (by repeat (first | (with_reducible first | exact HI0.out | apply IsS71.alloc | apply IsS71.drewN | apply IsS71.drew | apply IsS71.set_1) | exact HI0.out)) hb); have n1_ := Aside0.mk (KeepBut.trans (by repeat (first | (with_reducible first | exact HK.out | apply KeepBut.set_ | apply zF | apply zG | apply zH) | exact HK.out)) (KeepBut.of_below hb g none) (.inl rfl)); have n2_ := Aside0.mk (below_step (by repeat (first | (with_reducible first|exact HB.out|apply zE|apply zB|apply zC | refine zJ ?_ (IsS71.ge HI0.out)) | exact HB.out)) hb); have n3_ := Aside0.mk (hbox); have n4_ := Aside0.mk ((by rw [hg]; exact (keep_size (w := w) (g := g) (row := none) (by repeat (first | (with_reducible first | exact HK.out | apply KeepBut.set_ | apply zF | apply zG | apply zH) | exact HK.out))) : w.heap.size ≤ gb185)); have n5_ := Aside0.mk ((Nat.le_trans HW0.out (by rw [hg]; exact (keep_size (w := w) (g := g) (row := none) (by repeat (first | (with_reducible first | exact HK.out | apply KeepBut.set_ | apply zF | apply zG | apply zH) | exact HK.out))) : w.heap.size ≤ gb185) : w0.heap.size ≤ gb185)); have n6_ := Aside0.mk ((by rw [hg]; exact Nat.ne_of_lt (IsS71.lt (show IsS71 w0 _ g s0_0 s0_1 from by repeat (first | (with_reducible first | exact HI0.out | apply IsS71.alloc | apply IsS71.drewN | apply IsS71.drew | apply IsS71.set_1) | exact HI0.out))) : g ≠ gb185)); have n7_ := Aside0.mk ((by rw [hg]; exact Nat.ne_of_gt (IsS71.lt (show IsS71 w0 _ g s0_0 s0_1 from by repeat (first | (with_reducible first | exact HI0.out | apply IsS71.alloc | apply IsS71.drewN | apply IsS71.drew | apply IsS71.set_1) | exact HI0.out))) : gb185 ≠ g)); clear HI0 HK HB; have HI0 := n0_; have HK := n1_; have HB := n2_; have BK185 := n3_; have GW185 := n4_; have GE185 := n5_; have NB0_185 := n6_; have NB185_0 := n7_; clear n0_ n1_ n2_ n3_ n4_ n5_ n6_ n7_ hb hbox hg) | ((with_reducible refine gate_callee (f := 61) rfl ?_); refine goesL_ (some 10) rfl rfl Tryd.func61 (by kernel_rfl) rfl #[.pointer (some ⟨g, 0, none⟩)] rfl (by (try simp only [List.map_toArray, List.map_cons, List.map_nil]); first | done | rfl | (simp only [List.length_drop, List.length_take]; rfl)) ?_; (with_reducible refine (flagstonedraw_Codes_Key.calls g s0_0 s0_1 t186 t187 w0 _ ?side1 ?side2 A3.out).mono ?_); (case side1 => repeat (first | (with_reducible first | exact HI0.out | apply IsS71.alloc | apply IsS71.drewN | apply IsS71.drew | apply IsS71.set_1 | refine IsS71.far ?_ NB0_185.out _) | exact HI0.out)); (case side2 => repeat (first | (with_reducible first|exact HB.out|apply zE|apply zB|apply zC | refine zJ ?_ (IsS71.ge HI0.out) | refine zJ ?_ GE185.out) | exact HB.out)); rintro e w6 ⟨rfl, hi, hb, hk⟩; refine ⟨_, rfl, ?_⟩; have n0_ := Aside0.mk (KeepBut.blk hk (g' := gb185) (o := .cells #[.string (⟨#[]⟩ : ByteArray), .string (⟨#[]⟩ : ByteArray), .slice none 0 0] 85 (0, 0)) (by (with_reducible repeat (first|refine zN ?_ _|refine zD ?_|refine zA ?_ _)); exact BK185.out) NB185_0.out (by simp)); have n1_ := Aside0.mk (KeepBut.trans (by repeat (first | (with_reducible first | exact HK.out | apply KeepBut.set_ | apply zF | apply zG | apply zH | refine zI ?_ GW185.out _) | exact HK.out)) hk (.inl rfl)); have n2_ := Aside0.mk (hb); have n3_ := Aside0.mk (hi); clear BK185 HK HB HI0; have BK185 := n0_; have HK := n1_; have HB := n2_; have HI0 := n3_; clear n0_ n1_ n2_ n3_; (try clear hb); (try clear hb2); (try clear hk); (try clear hi); (try clear hge)) | ((with_reducible refine gate_dst (N := 5) rfl ?_); refine box_event ?hg (N := 5) ?hd (cs := #[.string (⟨#[]⟩ : ByteArray), .string (⟨#[]⟩ : ByteArray), .slice none 0 0]) (t := 85) ?hr ?_; (case hd => rfl); (case hg => rfl); (case hr => first | (go_simp; done) | (go_simp; rfl)); intro gb188 hg w7 hbox hb; have n0_ := Aside0.mk (IsS71.below (by repeat (first | (with_reducible first | exact HI0.out | apply IsS71.alloc | apply IsS71.drewN | apply IsS71.drew | apply IsS71.set_1 | refine IsS71.far ?_ NB0_185.out _) | exact HI0.out)) hb); have n1_ := Aside0.mk (blk_below (g := gb185) (o := .cells #[.string (⟨#[]⟩ : ByteArray), .string (⟨#[]⟩ : ByteArray), .slice none 0 0] 85 (0, 0)) (by (with_reducible repeat (first|refine zN ?_ _|refine zD ?_|refine zA ?_ _)); exact BK185.out) hb); have n2_ := Aside0.mk (KeepBut.trans (by repeat (first | (with_reducible first | exact HK.out | apply KeepBut.set_ | apply zF | apply zG | apply zH | refine zI ?_ GW185.out _) | exact HK.out)) (KeepBut.of_below hb g none) (.inl rfl)); have n3_ := Aside0.mk (below_step (by repeat (first | (with_reducible first|exact HB.out|apply zE|apply zB|apply zC | refine zJ ?_ (IsS71.ge HI0.out) | refine zJ ?_ GE185.out) | exact HB.out)) hb); have n4_ := Aside0.mk (hbox); have n5_ := Aside0.mk ((by rw [hg]; exact (keep_size (w := w) (g := g) (row := none) (by repeat (first | (with_reducible first | exact HK.out | apply KeepBut.set_ | apply zF | apply zG | apply zH | refine zI ?_ GW185.out _) | exact HK.out))) : w.heap.size ≤ gb188)); have n6_ := Aside0.mk ((Nat.le_trans HW0.out (by rw [hg]; exact (keep_size (w := w) (g := g) (row := none) (by repeat (first | (with_reducible first | exact HK.out | apply KeepBut.set_ | apply zF | apply zG | apply zH | refine zI ?_ GW185.out _) | exact HK.out))) : w.heap.size ≤ gb188) : w0.heap.size ≤ gb188)); have n7_ := Aside0.mk ((by rw [hg]; exact Nat.ne_of_lt (blk_lt (g := gb185) (o := .cells #[.string (⟨#[]⟩ : ByteArray), .string (⟨#[]⟩ : ByteArray), .slice none 0 0] 85 (0, 0)) (by (with_reducible repeat (first|refine zN ?_ _|refine zD ?_|refine zA ?_ _)); exact BK185.out)) : gb185 ≠ gb188)); have n8_ := Aside0.mk ((by rw [hg]; exact Nat.ne_of_gt (blk_lt (g := gb185) (o := .cells #[.string (⟨#[]⟩ : ByteArray), .string (⟨#[]⟩ : ByteArray), .slice none 0 0] 85 (0, 0)) (by (with_reducible repeat (first|refine zN ?_ _|refine zD ?_|refine zA ?_ _)); exact BK185.out)) : gb188 ≠ gb185)); have n9_ := Aside0.mk ((by rw [hg]; exact Nat.ne_of_lt (IsS71.lt (show IsS71 w0 _ g s0_0 t187 from by repeat (first | (with_reducible first | exact HI0.out | apply IsS71.alloc | apply IsS71.drewN | apply IsS71.drew | apply IsS71.set_1 | refine IsS71.far ?_ NB0_185.out _) | exact HI0.out))) : g ≠ gb188)); have n10_ := Aside0.mk ((by rw [hg]; exact Nat.ne_of_gt (IsS71.lt (show IsS71 w0 _ g s0_0 t187 from by repeat (first | (with_reducible first | exact HI0.out | apply IsS71.alloc | apply IsS71.drewN | apply IsS71.drew | apply IsS71.set_1 | refine IsS71.far ?_ NB0_185.out _) | exact HI0.out))) : gb188 ≠ g)); clear HI0 BK185 HK HB; have HI0 := n0_; have BK185 := n1_; have HK := n2_; have HB := n3_; have BK188 := n4_; have GW188 := n5_; have GE188 := n6_; have NB185_188 := n7_; have NB188_185 := n8_; have NB0_188 := n9_; have NB188_0 := n10_; clear n0_ n1_ n2_ n3_ n4_ n5_ n6_ n7_ n8_ n9_ n10_ hb hbox hg; have hnb8 := NB188_185.out; have hnc8 := NB185_188.out; have hnb9 := NB188_0.out; have hnc9 := NB0_188.out; have hcz10_0 : w7.cell? ⟨gb188, 0, none⟩ = some (.string (⟨#[]⟩ : ByteArray)) := (blk_cell BK188.out 0).trans rfl; have hcz10_1 : w7.cell? ⟨gb188, 1, none⟩ = some (.string (⟨#[]⟩ : ByteArray)) := (blk_cell BK188.out 1).trans rfl; have hcz10_2 : w7.cell? ⟨gb188, 2, none⟩ = some (.slice none 0 0) := (blk_cell BK188.out 2).trans rfl; have hfz10_0 := blk_frozen BK188.out 0; have hfz10_1 := blk_frozen BK188.out 1; have hfz10_2 := blk_frozen BK188.out 2) | ((with_reducible refine gate_callee (f := 33) rfl ?_); refine goesL_ (some 12) rfl rfl Tryd.func33 (by kernel_rfl) rfl #[] rfl (by (try simp only [List.map_toArray, List.map_cons, List.map_nil]); first | done | rfl | (simp only [List.length_drop, List.length_take]; rfl)) ?_; (with_reducible refine (flagstonedraw_Declared.calls  t189 _ A4.out).mono ?_); rintro e w11 ⟨v190, rfl, ho0, hb⟩; refine ⟨_, rfl, ?_⟩; have n0_ := Aside0.mk (Kd.R_lower ho0 (keep_size (w := w) (g := g) (row := none) (by repeat (first | (with_reducible first | exact HK.out | apply KeepBut.set_ | apply zF | apply zG | apply zH | refine zI ?_ GW185.out _ | refine zI ?_ GW188.out _) | exact HK.out)))); have n1_ := Aside0.mk (IsS71.below (show IsS71 w0 (((w7.setCell ⟨gb188, 0, none⟩ (.string a1)).setCell ⟨gb188, 1, none⟩ (.string t186)).setCell ⟨gb188, 2, none⟩ (.slice none 0 0)) g s0_0 t187 from by repeat (first | (with_reducible first | exact HI0.out | apply IsS71.alloc | apply IsS71.drewN | apply IsS71.drew | apply IsS71.set_1 | refine IsS71.far ?_ NB0_185.out _ | refine IsS71.far ?_ NB0_188.out _) | exact HI0.out)) hb); have n2_ := Aside0.mk (blk_below (g := gb185) (o := .cells #[.string (⟨#[]⟩ : ByteArray), .string (⟨#[]⟩ : ByteArray), .slice none 0 0] 85 (0, 0)) (by (with_reducible repeat (first|refine zN ?_ _|refine zD ?_|refine zA ?_ _)); refine blk_far ?_ NB185_188.out _; (with_reducible repeat (first|refine zN ?_ _|refine zD ?_|refine zA ?_ _)); refine blk_far ?_ NB185_188.out _; (with_reducible repeat (first|refine zN ?_ _|refine zD ?_|refine zA ?_ _)); refine blk_far ?_ NB185_188.out _; (with_reducible repeat (first|refine zN ?_ _|refine zD ?_|refine zA ?_ _)); exact BK185.out) hb); have n3_ := Aside0.mk (blk_below (g := gb188) (o := .cells #[.string a1, .string t186, .slice none 0 0] 85 (0, 0)) (by (with_reducible repeat (first|refine zN ?_ _|refine zD ?_|refine zA ?_ _)); refine blk_put (cs := #[.string a1, .string t186, .slice none 0 0]) ?_ 2 _ rfl; (with_reducible repeat (first|refine zN ?_ _|refine zD ?_|refine zA ?_ _)); refine blk_put (cs := #[.string a1, .string (⟨#[]⟩ : ByteArray), .slice none 0 0]) ?_ 1 _ rfl; (with_reducible repeat (first|refine zN ?_ _|refine zD ?_|refine zA ?_ _)); refine blk_put (cs := #[.string (⟨#[]⟩ : ByteArray), .string (⟨#[]⟩ : ByteArray), .slice none 0 0]) ?_ 0 _ rfl; (with_reducible repeat (first|refine zN ?_ _|refine zD ?_|refine zA ?_ _)); exact BK188.out) hb); have n4_ := Aside0.mk (KeepBut.trans (by repeat (first | (with_reducible first | exact HK.out | apply KeepBut.set_ | apply zF | apply zG | apply zH | refine zI ?_ GW185.out _ | refine zI ?_ GW188.out _) | exact HK.out)) (KeepBut.of_below hb g none) (.inl rfl)); have n5_ := Aside0.mk (below_step (by repeat (first | (with_reducible first|exact HB.out|apply zE|apply zB|apply zC | refine zJ ?_ (IsS71.ge HI0.out) | refine zJ ?_ GE185.out | refine zJ ?_ GE188.out) | exact HB.out)) hb); clear HI0 BK185 BK188 HK HB; have HO191 := n0_; have HI0 := n1_; have BK185 := n2_; have BK188 := n3_; have HK := n4_; have HB := n5_; clear n0_ n1_ n2_ n3_ n4_ n5_; (try clear hb); (try clear hb2); (try clear hk); (try clear hi); (try clear hge); (try clear ho0)))
  go_loopg [7] k (fun kq v7 w' => ∃ (x7_1 : Int) (x1001_1 : Int) (x189002_1 : List (S98)) (u189002 : Value), v7 = .int .i64 x7_1 ∧ Aside0 (flagstonedraw_Codes_context.l0 kq a1 t189 x7_1 s0_0 x1001_1 a1 t186 x189002_1 = some (r1, r2, r3, r4)) ∧ Aside0 (kq ≤ k) ∧ Aside0 (Kd.R k65 65 w' w.heap.size (fun _ => True) v190 t189) ∧ Aside0 (Kd.S k98 98 w' w.heap.size (fun _ => True) u189002 x189002_1) ∧ Aside0 (w'.heap[gb185]? = some (.cells #[.string (⟨#[]⟩ : ByteArray), .string (⟨#[]⟩ : ByteArray), (.slice none 0 0)] 85 (0, 0))) ∧ Aside0 (w'.heap[gb188]? = some (.cells #[.string a1, .string t186, u189002] 85 (0, 0))) ∧ Aside0 (IsS71 w0 w' g s0_0 x1001_1) ∧ Aside0 (KeepBut w w' g none) ∧ Aside0 (Below w0.heap.size w0 w'))
  case atStart => exact ⟨(0), (t187), (([] : List (S98))), (.slice none 0 0), (by first | rfl | (simp; done) | (simp [*]; done)), H', ⟨Nat.le_refl _⟩, ⟨by (with_reducible repeat (first | apply Kd.R_alloc | apply Kd.R_drewN | apply Kd.R_drew)); exact HO191.out⟩, ⟨by first | exact Kd.S_nil _ _ _ _ _ | exact Kd.N_nil _ _ _ _ _ | exact Kd.V_nil _ _ _ _ _ | exact Kd.Q_nil _ _ _ _ _ | exact Kd.R_nil _ _ _ _ _⟩, ⟨by (with_reducible repeat (first|refine zN ?_ _|refine zD ?_|refine zA ?_ _)); exact BK185.out⟩, ⟨by (with_reducible repeat (first|refine zN ?_ _|refine zD ?_|refine zA ?_ _)); exact BK188.out⟩, ⟨by repeat (first | (with_reducible first | exact HI0.out | apply IsS71.alloc | apply IsS71.drewN | apply IsS71.drew | apply IsS71.set_1 | refine IsS71.far ?_ NB0_185.out _ | refine IsS71.far ?_ NB0_188.out _) | exact HI0.out)⟩, ⟨by repeat (first | (with_reducible first | exact HK.out | apply KeepBut.set_ | apply zF | apply zG | apply zH | refine zI ?_ GW185.out _ | refine zI ?_ GW188.out _) | exact HK.out)⟩, ⟨by repeat (first | (with_reducible first|exact HB.out|apply zE|apply zB|apply zC | refine zJ ?_ (IsS71.ge HI0.out) | refine zJ ?_ GE185.out | refine zJ ?_ GE188.out) | exact HB.out)⟩⟩
  case round =>
    clear H'; (try clear p2); (try clear c3); (try clear c5); (try clear c6); (try clear c8); (try clear c9); (try clear hcz10_0); (try clear hcz10_1); (try clear hcz10_2); (try clear hfz10_0); (try clear hfz10_1); (try clear hfz10_2)
    obtain ⟨x7_1, x1001_1, x189002_1, u189002, rfl, HA, HK1, HO_6, HO_189002, BK185, BK188, HI0, HK, HB⟩ := hrel
    cases gk with
    | zero => exact absurd HA.out (by simp [flagstonedraw_Codes_context.l0])
    | succ k1 =>
      have H := HA.out; clear HA
      simp only [flagstonedraw_Codes_context.l0] at H
      by_cases c12 : x7_1 < (t189.length : Int)
      · rw [if_pos c12] at H
        have c12b0 : decide (x7_1 < (t189.length : Int)) = true := decide_eq_true c12
        clear c12
        by_cases c13 : 0 ≤ x7_1
        · rw [if_pos c13] at H
          have c13b0 : decide (0 ≤ x7_1) = true := decide_eq_true c13
          clear c13
          by_cases c14 : ((rd_T65 t189 x7_1).f0).toList = a1.toList
          · rw [if_pos c14] at H
            have c14b0 : (((rd_T65 t189 x7_1).f0).toList == a1.toList) = true := beq_iff_eq.mpr c14
            have c14b1 : (((rd_T65 t189 x7_1).f0).toList != a1.toList) = false := bne_eq_false_iff_eq.mpr c14
            clear c14; replace H := Option.bind_eq_some_iff.mp H
            obtain ⟨⟨t193, t194⟩, A150, H⟩ := H
            replace H : (if t193 > 0 then ((flagstonedraw_Codes_Value.f s0_0 t194 ((rd_T65 t189 x7_1).f2)).bind fun bt197 => (if x189002_1.length < 1954687338268 then (flagstonedraw_Codes_context.l0 k1 a1 t189 (wrap64 (x7_1 + 1)) s0_0 bt197.2.2.2.2 a1 t186 (x189002_1 ++ [(⟨(rd_T65 t189 x7_1).f1, (⟨bt197.1, bt197.2.1, bt197.2.2.1, bt197.2.2.2.1⟩ : S49)⟩ : S98)])) else (none))) else (flagstonedraw_Codes_context.l0 k1 a1 t189 (wrap64 (x7_1 + 1)) s0_0 t194 a1 t186 x189002_1)) = some (r1, r2, r3, r4) := H
            have A15 := Aside0.mk A150; clear A150
            by_cases c16 : t193 > 0
            · rw [if_pos c16] at H
              have c16b0 : decide (0 < t193) = true := decide_eq_true c16
              clear c16; replace H := Option.bind_eq_some_iff.mp H
              obtain ⟨⟨t197, t198, t199, t200, t203⟩, A170, H⟩ := H
              replace H : (if x189002_1.length < 1954687338268 then (flagstonedraw_Codes_context.l0 k1 a1 t189 (wrap64 (x7_1 + 1)) s0_0 t203 a1 t186 (x189002_1 ++ [(⟨(rd_T65 t189 x7_1).f1, (⟨t197, t198, t199, t200⟩ : S49)⟩ : S98)])) else (none)) = some (r1, r2, r3, r4) := H
              have A17 := Aside0.mk A170; clear A170
              by_cases c18 : x189002_1.length < 1954687338268
              · rw [if_pos c18] at H
                have LMc18 := Aside0.mk c18; clear c18
                obtain ⟨y204, hy204⟩ : ∃ y_ : List (S98), y_ = (x189002_1 ++ [(⟨(rd_T65 t189 x7_1).f1, (⟨t197, t198, t199, t200⟩ : S49)⟩ : S98)]) := ⟨_, rfl⟩
                replace H : (flagstonedraw_Codes_context.l0 k1 a1 t189 (wrap64 (x7_1 + 1)) s0_0 t203 a1 t186 y204) = some (r1, r2, r3, r4) := by first | (rw [hy204]; with_reducible exact H) | (have H2_ := (Option.bind_some _ _).symm.trans H; rw [hy204]; with_reducible exact H2_) | (have H2_ := (Option.bind_some _ _).symm.trans H; with_reducible exact H2_) | with_reducible exact H | (rw [hy204]; exact H) | exact H
                have Ny204 := Aside0.mk hy204; clear hy204; have H' := Aside0.mk H; clear H
                obtain ⟨Ao19, co19, eo19⟩ := Kd.R_slice HO_6.out
                subst eo19
                have p192 : 0 ≤ (x7_1 : Int) := of_decide_eq_true (by first | (with_reducible assumption) | assumption)
                have q192 : x7_1 < (t189.length : Int) := of_decide_eq_true (by first | (with_reducible assumption) | assumption)
                (try (obtain ⟨AoX_, coX_, eoX_⟩ := Kd.R_slice HO_6.out; subst eoX_))
                obtain ⟨ad192, e192, hx192_0, hx192_1, hx192_2⟩ := at_T65 (Kd.R_reads' HO_6.out).2.2 x7_1 p192 q192
                cases e192
                replace p192 := eq_true p192
                replace q192 := eq_true q192
                try go_wp2_with (first | (go_at_call 12; (with_reducible refine (flagstonedraw_Codes_Next.calls g s0_0 x1001_1 4 t193 t194 w0 _ ?side1 ?side2 A15.out).mono ?_); (case side1 => repeat (first | (with_reducible first | exact HI0.out | apply IsS71.alloc | apply IsS71.drewN | apply IsS71.drew | apply IsS71.set_1 | refine IsS71.far ?_ NB0_185.out _ | refine IsS71.far ?_ NB0_188.out _) | exact HI0.out)); (case side2 => repeat (first | (with_reducible first|exact HB.out|apply zE|apply zB|apply zC | refine zJ ?_ (IsS71.ge HI0.out) | refine zJ ?_ GE185.out | refine zJ ?_ GE188.out) | exact HB.out)); rintro e w20 ⟨rfl, hi, hb, hk⟩; have n0_ := Aside0.mk (Kd.R_mono (Kd.R_keep (IsS71.apart (show IsS71 w0 _ g s0_0 x1001_1 from by repeat (first | (with_reducible first | exact HI0.out | apply IsS71.alloc | apply IsS71.drewN | apply IsS71.drew | apply IsS71.set_1 | refine IsS71.far ?_ NB0_185.out _ | refine IsS71.far ?_ NB0_188.out _) | exact HI0.out)) (by (with_reducible repeat (first | apply Kd.R_alloc | apply Kd.R_drewN | apply Kd.R_drew)); exact HO_6.out) (by decide)) hk (fun _ h => h.2)) (fun _ h => h.1)); have n1_ := Aside0.mk (Kd.S_mono (Kd.S_keep (IsS71.apartS (show IsS71 w0 _ g s0_0 x1001_1 from by repeat (first | (with_reducible first | exact HI0.out | apply IsS71.alloc | apply IsS71.drewN | apply IsS71.drew | apply IsS71.set_1 | refine IsS71.far ?_ NB0_185.out _ | refine IsS71.far ?_ NB0_188.out _) | exact HI0.out)) (by (with_reducible repeat (first | apply Kd.S_alloc | apply Kd.S_drewN | apply Kd.S_drew)); exact HO_189002.out) (by decide)) hk (fun _ h => h.2)) (fun _ h => h.1)); have n2_ := Aside0.mk (KeepBut.blk hk (g' := gb185) (o := .cells #[.string (⟨#[]⟩ : ByteArray), .string (⟨#[]⟩ : ByteArray), .slice none 0 0] 85 (0, 0)) (by (with_reducible repeat (first|refine zN ?_ _|refine zD ?_|refine zA ?_ _)); exact BK185.out) NB185_0.out (by simp)); have n3_ := Aside0.mk (KeepBut.blk hk (g' := gb188) (o := .cells #[.string a1, .string t186, u189002] 85 (0, 0)) (by (with_reducible repeat (first|refine zN ?_ _|refine zD ?_|refine zA ?_ _)); exact BK188.out) NB188_0.out (by simp)); have n4_ := Aside0.mk (KeepBut.trans (by repeat (first | (with_reducible first | exact HK.out | apply KeepBut.set_ | apply zF | apply zG | apply zH | refine zI ?_ GW185.out _ | refine zI ?_ GW188.out _) | exact HK.out)) hk (.inl rfl)); have n5_ := Aside0.mk (hb); have n6_ := Aside0.mk (hi); clear HO_6 HO_189002 BK185 BK188 HK HB HI0; have HO_6 := n0_; have HO_189002 := n1_; have BK185 := n2_; have BK188 := n3_; have HK := n4_; have HB := n5_; have HI0 := n6_; clear n0_ n1_ n2_ n3_ n4_ n5_ n6_; (try clear hb); (try clear hb2); (try clear hk); (try clear hi); (try clear hge)))
                have n0_ := Aside0.mk (Kd.R_drew HO_6.out)
                have n1_ := Aside0.mk (Kd.S_drew HO_189002.out)
                have n2_ := Aside0.mk (zD BK185.out)
                have n3_ := Aside0.mk (zD BK188.out)
                have n4_ := Aside0.mk (IsS71.drew HI0.out)
                have n5_ := Aside0.mk (zG HK.out)
                have n6_ := Aside0.mk (zC HB.out)
                clear HO_6 HO_189002 BK185 BK188 HI0 HK HB; have HO_6 := n0_; have HO_189002 := n1_; have BK185 := n2_; have BK188 := n3_; have HI0 := n4_; have HK := n5_; have HB := n6_; clear n0_ n1_ n2_ n3_ n4_ n5_ n6_
                have p195 : 0 ≤ (x7_1 : Int) := of_decide_eq_true (by first | (with_reducible assumption) | assumption)
                have q195 : x7_1 < (t189.length : Int) := of_decide_eq_true (by first | (with_reducible assumption) | assumption)
                (try (obtain ⟨AoX_, coX_, eoX_⟩ := Kd.R_slice HO_6.out; subst eoX_))
                obtain ⟨ad195, e195, hx195_0, hx195_1, hx195_2⟩ := at_T65 (Kd.R_reads' HO_6.out).2.2 x7_1 p195 q195
                obtain rfl : ad192 = ad195 := (by injection e195)
                replace p195 := eq_true p195
                replace q195 := eq_true q195
                have p196 : 0 ≤ (x7_1 : Int) := of_decide_eq_true (by first | (with_reducible assumption) | assumption)
                have q196 : x7_1 < (t189.length : Int) := of_decide_eq_true (by first | (with_reducible assumption) | assumption)
                (try (obtain ⟨AoX_, coX_, eoX_⟩ := Kd.R_slice HO_6.out; subst eoX_))
                obtain ⟨ad196, e196, hx196_0, hx196_1, hx196_2⟩ := at_T65 (Kd.R_reads' HO_6.out).2.2 x7_1 p196 q196
                obtain rfl : ad192 = ad196 := (by injection e196)
                replace p196 := eq_true p196
                replace q196 := eq_true q196
                refine start_ (n := 19) (S := fun w' => w'.cell? ⟨gb188, 0, none⟩ = some (.string a1) ∧ w'.cell? ⟨gb188, 1, none⟩ = some (.string t186) ∧ w'.cell? ⟨gb188, 2, none⟩ = some (u189002) ∧ w'.cell? (ad192.add ((x7_1).toNat * 3)) = some (.string ((rd_T65 t189 x7_1).f0)) ∧ w'.cell? ⟨(ad192.add ((x7_1).toNat * 3)).block, (ad192.add ((x7_1).toNat * 3)).off + 1, none⟩ = some (.string ((rd_T65 t189 x7_1).f1)) ∧ w'.cell? ⟨(ad192.add ((x7_1).toNat * 3)).block, (ad192.add ((x7_1).toNat * 3)).off + 2, none⟩ = some (.int .i64 ((rd_T65 t189 x7_1).f2)) ∧ w'.cell? (ad192.add ((x7_1).toNat * 3)) = some (.string ((rd_T65 t189 x7_1).f0)) ∧ w'.cell? ⟨(ad192.add ((x7_1).toNat * 3)).block, (ad192.add ((x7_1).toNat * 3)).off + 1, none⟩ = some (.string ((rd_T65 t189 x7_1).f1)) ∧ w'.cell? ⟨(ad192.add ((x7_1).toNat * 3)).block, (ad192.add ((x7_1).toNat * 3)).off + 2, none⟩ = some (.int .i64 ((rd_T65 t189 x7_1).f2))) (ds := [16, 18]) #[false, false, false, false, false, false, false, false, false, false, false, false, false, false, false, false, false, false, false] (by kernel_rfl) rfl rfl ⟨(blk_cell BK188.out 0).trans rfl, (blk_cell BK188.out 1).trans rfl, (blk_cell BK188.out 2).trans rfl, hx195_0, hx195_1, hx195_2, hx196_0, hx196_1, hx196_2⟩ (fun hHeld => ?_); refine with_tabW flagstonedraw_Codes_context.tab7 flagstonedraw_Codes_context.bits7 (fun HT_ HW_ => ?_)
                generalize w20.drew = w21 at HO_6 HO_189002 BK185 BK188 HI0 HK HB hx195_0 hx195_1 hx195_2 hx196_0 hx196_1 hx196_2 hHeld ⊢
                refine pure_ (i := 0) (N := some 31) (v := ?_) (a' := ?_) #[true, false, false, false, false, false, false, false, false, false, false, false, false, false, false, false, false, false, false] rfl rfl (any_of HT_.out (by kernel_rfl)) (fun _ _ _ h => h) (Or.inl ⟨by rfl, ?_⟩) ?_ ?_
                rotate_left
                · intro w'
                  go_simp
                  with_reducible rfl
                rotate_left
                · simp only [Act.put, List.setIfInBounds_toArray, List.set_cons_zero, List.set_cons_succ, i64_w, i32_w]
                  rfl
                refine pure_ (i := 2) (N := some 33) (v := ?_) (a' := ?_) #[true, false, true, false, false, false, false, false, false, false, false, false, false, false, false, false, false, false, false] rfl rfl (any_of HT_.out (by kernel_rfl)) (fun _ _ _ h => h) (Or.inl ⟨by rfl, ?_⟩) ?_ ?_
                rotate_left
                · intro w'
                  go_simp
                  with_reducible rfl
                rotate_left
                · simp only [Act.put, List.setIfInBounds_toArray, List.set_cons_zero, List.set_cons_succ, i64_w, i32_w]
                  rfl
                refine pure_ (i := 3) (N := some 34) (v := ?_) (a' := ?_) #[true, false, true, true, false, false, false, false, false, false, false, false, false, false, false, false, false, false, false] rfl rfl (any_of HT_.out (by kernel_rfl)) (fun _ _ _ h => h) (Or.inl ⟨by rfl, ?_⟩) ?_ ?_
                rotate_left
                · intro w'
                  go_simp
                  with_reducible rfl
                rotate_left
                · simp only [Act.put, List.setIfInBounds_toArray, List.set_cons_zero, List.set_cons_succ, i64_w, i32_w]
                  rfl
                refine pure_ (i := 4) (N := some 35) (v := ?_) (a' := ?_) #[true, false, true, true, true, false, false, false, false, false, false, false, false, false, false, false, false, false, false] rfl rfl (any_of HT_.out (by kernel_rfl)) (fun _ _ _ h => h) (Or.inl ⟨by rfl, ?_⟩) ?_ ?_
                rotate_left
                · intro w'
                  go_simp
                  with_reducible rfl
                rotate_left
                · simp only [Act.put, List.setIfInBounds_toArray, List.set_cons_zero, List.set_cons_succ, i64_w, i32_w]
                  rfl
                refine pure_ (i := 5) (N := some 36) (v := ?_) (a' := ?_) #[true, false, true, true, true, true, false, false, false, false, false, false, false, false, false, false, false, false, false] rfl rfl (any_of HT_.out (by kernel_rfl)) (fun _ _ _ h => h) (Or.inl ⟨by rfl, ?_⟩) ?_ ?_
                rotate_left
                · intro w'
                  go_simp
                  with_reducible rfl
                rotate_left
                · simp only [Act.put, List.setIfInBounds_toArray, List.set_cons_zero, List.set_cons_succ, i64_w, i32_w]
                  rfl
                refine pure_ (i := 7) (N := some 38) (v := ?_) (a' := ?_) #[true, false, true, true, true, true, false, true, false, false, false, false, false, false, false, false, false, false, false] rfl rfl (any_of HT_.out (by kernel_rfl)) (fun _ _ _ h => h) (Or.inl ⟨by rfl, ?_⟩) ?_ ?_
                rotate_left
                · intro w'
                  go_simp
                  with_reducible rfl
                rotate_left
                · simp only [Act.put, List.setIfInBounds_toArray, List.set_cons_zero, List.set_cons_succ, i64_w, i32_w]
                  rfl
                refine pure_ (i := 8) (N := some 39) (v := ?_) (a' := ?_) #[true, false, true, true, true, true, false, true, true, false, false, false, false, false, false, false, false, false, false] rfl rfl (any_of HT_.out (by kernel_rfl)) (fun _ _ _ h => h) (Or.inl ⟨by rfl, ?_⟩) ?_ ?_
                rotate_left
                · intro w'
                  go_simp
                  with_reducible rfl
                rotate_left
                · simp only [Act.put, List.setIfInBounds_toArray, List.set_cons_zero, List.set_cons_succ, i64_w, i32_w]
                  rfl
                refine pure_ (i := 9) (N := some 40) (v := ?_) (a' := ?_) #[true, false, true, true, true, true, false, true, true, true, false, false, false, false, false, false, false, false, false] rfl rfl (any_of HT_.out (by kernel_rfl)) (fun _ _ _ h => h) (Or.inl ⟨by rfl, ?_⟩) ?_ ?_
                rotate_left
                · intro w'
                  go_simp
                  with_reducible rfl
                rotate_left
                · simp only [Act.put, List.setIfInBounds_toArray, List.set_cons_zero, List.set_cons_succ, i64_w, i32_w]
                  rfl
                refine pure_ (i := 10) (N := some 41) (v := ?_) (a' := ?_) #[true, false, true, true, true, true, false, true, true, true, true, false, false, false, false, false, false, false, false] rfl rfl (any_of HT_.out (by kernel_rfl)) (fun _ _ _ h => h) (Or.inl ⟨by rfl, ?_⟩) ?_ ?_
                rotate_left
                · intro w'
                  go_simp
                  with_reducible rfl
                rotate_left
                · simp only [Act.put, List.setIfInBounds_toArray, List.set_cons_zero, List.set_cons_succ, i64_w, i32_w]
                  rfl
                refine pure_ (i := 11) (N := some 42) (v := ?_) (a' := ?_) #[true, false, true, true, true, true, false, true, true, true, true, true, false, false, false, false, false, false, false] rfl rfl (any_of HT_.out (by kernel_rfl)) (fun _ _ _ h => h) (Or.inl ⟨by rfl, ?_⟩) ?_ ?_
                rotate_left
                · intro w'
                  go_simp
                  with_reducible rfl
                rotate_left
                · simp only [Act.put, List.setIfInBounds_toArray, List.set_cons_zero, List.set_cons_succ, i64_w, i32_w]
                  rfl
                refine take_ (i := 1) (N := some 32) (v := ?_) (a' := ?_) #[true, true, true, true, true, true, false, true, true, true, true, true, false, false, false, false, false, false, false] rfl rfl (take_ofW HT_.out HW_.out (by kernel_rfl)) (fun _ _ _ h => h) (Or.inl ⟨by rfl, ?_⟩) hHeld ?_ ?_
                rotate_left
                · rintro w' ⟨s0, s1, s2, s3, s4, s5, s6, s7, s8⟩
                  go_simp
                  with_reducible rfl
                rotate_left
                · simp only [Act.put, List.setIfInBounds_toArray, List.set_cons_zero, List.set_cons_succ, i64_w, i32_w]
                  rfl
                refine take_ (i := 6) (N := some 37) (v := ?_) (a' := ?_) #[true, true, true, true, true, true, true, true, true, true, true, true, false, false, false, false, false, false, false] rfl rfl (take_ofW HT_.out HW_.out (by kernel_rfl)) (fun _ _ _ h => h) (Or.inl ⟨by rfl, ?_⟩) hHeld ?_ ?_
                rotate_left
                · rintro w' ⟨s0, s1, s2, s3, s4, s5, s6, s7, s8⟩
                  go_simp
                  with_reducible rfl
                rotate_left
                · simp only [Act.put, List.setIfInBounds_toArray, List.set_cons_zero, List.set_cons_succ, i64_w, i32_w]
                  rfl
                refine take_ (i := 12) (N := some 43) (v := ?_) (a' := ?_) #[true, true, true, true, true, true, true, true, true, true, true, true, true, false, false, false, false, false, false] rfl rfl (take_ofW HT_.out HW_.out (by kernel_rfl)) (fun _ _ _ h => h) (Or.inl ⟨by rfl, ?_⟩) hHeld ?_ ?_
                rotate_left
                · rintro w' ⟨s0, s1, s2, s3, s4, s5, s6, s7, s8⟩
                  go_simp
                  with_reducible rfl
                rotate_left
                · simp only [Act.put, List.setIfInBounds_toArray, List.set_cons_zero, List.set_cons_succ, i64_w, i32_w]
                  rfl
                refine one_ (i := 13) (N := some 44) #[true, true, true, true, true, true, true, true, true, true, true, true, true, true, false, false, false, false, false] rfl rfl (one_of HT_.out (by kernel_rfl)) (by decide) (fun K hK => ?_)
                refine goes_ Tryd.func45 (by kernel_rfl) rfl #[.pointer (some ⟨g, 0, none⟩), .int .i64 ((rd_T65 t189 x7_1).f2)] (by rfl) rfl rfl (by (try simp only [List.map_toArray, List.map_cons, List.map_nil]); first | done | rfl | (simp only [List.length_drop, List.length_take]; rfl)) ?_
                with_reducible refine (flagstonedraw_Codes_Value.calls g s0_0 t194 ((rd_T65 t189 x7_1).f2) t197 t198 t199 t200 t203 w0 _ ?side1 ?side2 ?side3 A17.out).mono ?_
                (case side1 => repeat (first | (with_reducible first | exact HI0.out | apply IsS71.alloc | apply IsS71.drewN | apply IsS71.drew | apply IsS71.set_1 | refine IsS71.far ?_ NB0_185.out _ | refine IsS71.far ?_ NB0_188.out _) | exact HI0.out))
                (case side2 => repeat (first | (with_reducible first|exact HB.out|apply zE|apply zB|apply zC | refine zJ ?_ (IsS71.ge HI0.out) | refine zJ ?_ GE185.out | refine zJ ?_ GE188.out) | exact HB.out))
                (case side3 => exact HGL.out)
                rintro e w22 ⟨v201, rfl, ho0, hi, hb, hk⟩
                have HS3_ := keep_cell hk (hHeld.2.2.2.1) (by first | (rw [add_block]; exact Kd.own_blk (IsS71.own_ne HI0.out HO_6.out (by decide))) | (show (Addr.add _ _).block ≠ _; rw [add_block]; exact Kd.own_blk (IsS71.own_ne HI0.out HO_6.out (by decide))) | exact Kd.own_blk (IsS71.own_ne HI0.out HO_6.out (by decide)))
                have HS4_ := keep_cell hk (hHeld.2.2.2.2.1) (by first | (rw [add_block]; exact Kd.own_blk (IsS71.own_ne HI0.out HO_6.out (by decide))) | (show (Addr.add _ _).block ≠ _; rw [add_block]; exact Kd.own_blk (IsS71.own_ne HI0.out HO_6.out (by decide))) | exact Kd.own_blk (IsS71.own_ne HI0.out HO_6.out (by decide)))
                have HS5_ := keep_cell hk (hHeld.2.2.2.2.2.1) (by first | (rw [add_block]; exact Kd.own_blk (IsS71.own_ne HI0.out HO_6.out (by decide))) | (show (Addr.add _ _).block ≠ _; rw [add_block]; exact Kd.own_blk (IsS71.own_ne HI0.out HO_6.out (by decide))) | exact Kd.own_blk (IsS71.own_ne HI0.out HO_6.out (by decide)))
                have HS6_ := keep_cell hk (hHeld.2.2.2.2.2.2.1) (by first | (rw [add_block]; exact Kd.own_blk (IsS71.own_ne HI0.out HO_6.out (by decide))) | (show (Addr.add _ _).block ≠ _; rw [add_block]; exact Kd.own_blk (IsS71.own_ne HI0.out HO_6.out (by decide))) | exact Kd.own_blk (IsS71.own_ne HI0.out HO_6.out (by decide)))
                have HS7_ := keep_cell hk (hHeld.2.2.2.2.2.2.2.1) (by first | (rw [add_block]; exact Kd.own_blk (IsS71.own_ne HI0.out HO_6.out (by decide))) | (show (Addr.add _ _).block ≠ _; rw [add_block]; exact Kd.own_blk (IsS71.own_ne HI0.out HO_6.out (by decide))) | exact Kd.own_blk (IsS71.own_ne HI0.out HO_6.out (by decide)))
                have HS8_ := keep_cell hk (hHeld.2.2.2.2.2.2.2.2) (by first | (rw [add_block]; exact Kd.own_blk (IsS71.own_ne HI0.out HO_6.out (by decide))) | (show (Addr.add _ _).block ≠ _; rw [add_block]; exact Kd.own_blk (IsS71.own_ne HI0.out HO_6.out (by decide))) | exact Kd.own_blk (IsS71.own_ne HI0.out HO_6.out (by decide)))
                refine ⟨_, rfl, ?_⟩
                have n0_ := Aside0.mk (Kd.R_mono (Kd.R_keep (IsS71.apart (show IsS71 w0 _ g s0_0 t194 from by repeat (first | (with_reducible first | exact HI0.out | apply IsS71.alloc | apply IsS71.drewN | apply IsS71.drew | apply IsS71.set_1 | refine IsS71.far ?_ NB0_185.out _ | refine IsS71.far ?_ NB0_188.out _) | exact HI0.out)) (by (with_reducible repeat (first | apply Kd.R_alloc | apply Kd.R_drewN | apply Kd.R_drew)); exact HO_6.out) (by decide)) hk (fun _ h => h.2)) (fun _ h => h.1))
                have n1_ := Aside0.mk (Kd.S_mono (Kd.S_told (Kd.S_oldK (IsS71.apartS (show IsS71 w0 _ g s0_0 t194 from by repeat (first | (with_reducible first | exact HI0.out | apply IsS71.alloc | apply IsS71.drewN | apply IsS71.drew | apply IsS71.set_1 | refine IsS71.far ?_ NB0_185.out _ | refine IsS71.far ?_ NB0_188.out _) | exact HI0.out)) (by (with_reducible repeat (first | apply Kd.S_alloc | apply Kd.S_drewN | apply Kd.S_drew)); exact HO_189002.out) (by decide)) hk) (Kd.R_base ho0)) (fun _ h_ => h_.1))
                have n2_ := Aside0.mk (KeepBut.blk hk (g' := gb185) (o := .cells #[.string (⟨#[]⟩ : ByteArray), .string (⟨#[]⟩ : ByteArray), .slice none 0 0] 85 (0, 0)) (by (with_reducible repeat (first|refine zN ?_ _|refine zD ?_|refine zA ?_ _)); exact BK185.out) NB185_0.out (by simp))
                have n3_ := Aside0.mk (KeepBut.blk hk (g' := gb188) (o := .cells #[.string a1, .string t186, u189002] 85 (0, 0)) (by (with_reducible repeat (first|refine zN ?_ _|refine zD ?_|refine zA ?_ _)); exact BK188.out) NB188_0.out (by simp))
                have n4_ := Aside0.mk (Kd.R_lower ho0 (keep_size (w := w) (g := g) (row := none) (by repeat (first | (with_reducible first | exact HK.out | apply KeepBut.set_ | apply zF | apply zG | apply zH | refine zI ?_ GW185.out _ | refine zI ?_ GW188.out _) | exact HK.out))))
                have n5_ := Aside0.mk (KeepBut.trans (by repeat (first | (with_reducible first | exact HK.out | apply KeepBut.set_ | apply zF | apply zG | apply zH | refine zI ?_ GW185.out _ | refine zI ?_ GW188.out _) | exact HK.out)) hk (.inl rfl))
                have n6_ := Aside0.mk (hb)
                have n7_ := Aside0.mk (hi)
                clear HO_6 HO_189002 BK185 BK188 HK HB HI0; have HO_6 := n0_; have HO_189002 := n1_; have BK185 := n2_; have BK188 := n3_; have HO202 := n4_; have HK := n5_; have HB := n6_; have HI0 := n7_; clear n0_ n1_ n2_ n3_ n4_ n5_ n6_ n7_
                (try clear hb)
                (try clear hb2)
                (try clear hk)
                (try clear hi)
                (try clear hge)
                (try clear ho0)
                obtain ⟨Ao23, co23, eo23⟩ := Kd.R_slice HO202.out
                (first | subst eo23 | (injection eo23 with f1_ f2_ f3_; have f4_ := f1_.symm; have f5_ := f3_.symm; clear f1_ f2_ f3_; subst f4_; subst f5_))
                refine hK.out _ _ ⟨(blk_cell BK188.out 0).trans rfl, (blk_cell BK188.out 1).trans rfl, (blk_cell BK188.out 2).trans rfl, HS3_, HS4_, HS5_, HS6_, HS7_, HS8_⟩ (fun hHeld => ?_)
                clear hK K
                refine norm_ (a' := ?_) ?_ ?_
                rotate_left
                · show Act.put _ (some 44) _ = _
                  simp only [Act.put, List.setIfInBounds_toArray, List.set_cons_zero, List.set_cons_succ, i64_w, i32_w]
                  rfl
                refine pure_ (i := 14) (N := some 45) (v := ?_) (a' := ?_) #[true, true, true, true, true, true, true, true, true, true, true, true, true, true, true, false, false, false, false] rfl rfl (any_of HT_.out (by kernel_rfl)) (fun _ _ _ h => h) (Or.inl ⟨by rfl, ?_⟩) ?_ ?_
                rotate_left
                · intro w'
                  go_simp
                  with_reducible rfl
                rotate_left
                · simp only [Act.put, List.setIfInBounds_toArray, List.set_cons_zero, List.set_cons_succ, i64_w, i32_w]
                  rfl
                refine one_ (i := 15) (N := some 46) #[true, true, true, true, true, true, true, true, true, true, true, true, true, true, true, true, false, false, false] rfl rfl (one_of HT_.out (by kernel_rfl)) (by decide) (fun K hK => ?_)
                refine value_ (w1 := ?_) (v := ?_) (by rfl) rfl ?_ ?_
                rotate_left 2
                · go_simp
                  constructor
                  · rfl
                  · rfl
                refine hK.out _ _ ⟨(blk_cell (zA BK188.out _) 0).trans rfl, (blk_cell (zA BK188.out _) 1).trans rfl, (blk_cell (zA BK188.out _) 2).trans rfl, (World.cell?_alloc_lt _ _ _ (World.block_lt_of_cell? _ _ (hHeld.2.2.2.1))).trans (hHeld.2.2.2.1), (World.cell?_alloc_lt _ _ _ (World.block_lt_of_cell? _ _ (hHeld.2.2.2.2.1))).trans (hHeld.2.2.2.2.1), (World.cell?_alloc_lt _ _ _ (World.block_lt_of_cell? _ _ (hHeld.2.2.2.2.2.1))).trans (hHeld.2.2.2.2.2.1), (World.cell?_alloc_lt _ _ _ (World.block_lt_of_cell? _ _ (hHeld.2.2.2.2.2.2.1))).trans (hHeld.2.2.2.2.2.2.1), (World.cell?_alloc_lt _ _ _ (World.block_lt_of_cell? _ _ (hHeld.2.2.2.2.2.2.2.1))).trans (hHeld.2.2.2.2.2.2.2.1), (World.cell?_alloc_lt _ _ _ (World.block_lt_of_cell? _ _ (hHeld.2.2.2.2.2.2.2.2))).trans (hHeld.2.2.2.2.2.2.2.2)⟩ (fun hHeld => ?_)
                clear hK K
                refine norm_ (a' := ?_) ?_ ?_
                rotate_left
                · show Act.put _ (some 46) _ = _
                  simp only [Act.put, List.setIfInBounds_toArray, List.set_cons_zero, List.set_cons_succ, i64_w, i32_w]
                  rfl
                refine last_ (i := 16) (N := some 47) #[true, true, true, true, true, true, true, true, true, true, true, true, true, true, true, true, true, false, false] rfl rfl (one_of HT_.out (by kernel_rfl)) (by decide) (fun K hK => ?_)
                refine Kd.S_append_step k98 w.heap.size (by rfl) (.tmp 32) (.tmp 46) 83 98 (.agg #[(.string ⟨#[]⟩), (.int .i64 0), (.int .i64 0), (.string ⟨#[]⟩), (.slice none 0 0)]) 72 rfl Tryd.underlying83 info98 rfl (by decide) (by omega) u189002 x189002_1 (⟨(rd_T65 t189 x7_1).f1, (⟨t197, t198, t199, t200⟩ : S49)⟩ : S98) [.string ((rd_T65 t189 x7_1).f1), .int .i64 t197, .int .i64 t198, .string t199, .slice Ao23 t200.length co23] (fun _ => True) (fun k_ => some k_ = (.slice Ao23 t200.length co23 : Value).ownBlock) rfl rfl ?aP (fun k_ hk_ => ((Kd.R_mono (ok' := fun k_ => ((fun _ => True)) k_ ∧ some k_ ≠ (u189002 : Value).ownBlock) (Kd.R_apart' (HO202.out) (Kd.S_typed HO_189002.out) (by decide)) (fun k_ hk => ⟨trivial, hk.2⟩))).1 k_ hk_.symm) ?aF ?aO (Below.refl _ _) ?aS ?aL ?_
                (case aP => exact k98_mkM _ _ _ (⟨(rd_T65 t189 x7_1).f1, (⟨t197, t198, t199, t200⟩ : S49)⟩ : S98) (Kd.R_mono (Kd.R_tight rfl (Kd.R_mono (ok' := fun k_ => ((fun _ => True)) k_ ∧ some k_ ≠ (u189002 : Value).ownBlock) (Kd.R_apart' (HO202.out) (Kd.S_typed HO_189002.out) (by decide)) (fun k_ hk => ⟨trivial, hk.2⟩))) (fun _ h_ => h_)))
                (case aF => exact (fun _ _ => trivial))
                (case aO => exact (by (with_reducible repeat (first | apply Kd.S_alloc | apply Kd.S_drewN | apply Kd.S_drew)); exact Kd.S_mono HO_189002.out (fun k_ hk => ⟨trivial, fun e_ => hk.2 e_⟩)))
                (case aS => exact (keep_size (w := w) (g := g) (row := none) (by repeat (first | (with_reducible first | exact HK.out | apply KeepBut.set_ | apply zF | apply zG | apply zH | refine zI ?_ GW185.out _ | refine zI ?_ GW188.out _) | exact HK.out))))
                (case aL => have := LMc18.out; omega)
                intro v205 w24 ho hb hg hat
                rw [← Ny204.out] at ho
                have n0_ := Aside0.mk (Kd.R_over' (by (with_reducible repeat (first | apply Kd.R_alloc | apply Kd.R_drewN | apply Kd.R_drew)); exact HO_6.out) (Kd.S_typed (by (with_reducible repeat (first | apply Kd.S_alloc | apply Kd.S_drewN | apply Kd.S_drew)); exact HO_189002.out)) (by decide) hg)
                have n1_ := Aside0.mk (blk_grown (g := gb185) (o := .cells #[.string (⟨#[]⟩ : ByteArray), .string (⟨#[]⟩ : ByteArray), .slice none 0 0] 85 (0, 0)) (by (with_reducible repeat (first|refine zN ?_ _|refine zD ?_|refine zA ?_ _)); exact BK185.out) hg (Kd.S_ne HO_189002.out BK185.out (by decide)))
                have n2_ := Aside0.mk (blk_grown (g := gb188) (o := .cells #[.string a1, .string t186, u189002] 85 (0, 0)) (by (with_reducible repeat (first|refine zN ?_ _|refine zD ?_|refine zA ?_ _)); exact BK188.out) hg (Kd.S_ne HO_189002.out BK188.out (by decide)))
                have n3_ := Aside0.mk (IsS71.grown (by repeat (first | (with_reducible first | exact HI0.out | apply IsS71.alloc | apply IsS71.drewN | apply IsS71.drew | apply IsS71.set_1 | refine IsS71.far ?_ NB0_185.out _ | refine IsS71.far ?_ NB0_188.out _) | exact HI0.out)) hg (IsS71.own_neS HI0.out HO_189002.out (by decide)))
                have n4_ := Aside0.mk (below_weaken (by repeat (first | (with_reducible first|exact HB.out|apply zE|apply zB|apply zC | refine zJ ?_ (IsS71.ge HI0.out) | refine zJ ?_ GE185.out | refine zJ ?_ GE188.out) | exact HB.out)) HL.out hb)
                have n5_ := Aside0.mk (KeepBut.trans (by repeat (first | (with_reducible first | exact HK.out | apply KeepBut.set_ | apply zF | apply zG | apply zH | refine zI ?_ GW185.out _ | refine zI ?_ GW188.out _) | exact HK.out)) (KeepBut.of_grown hg g) (Kd.S_base2 HO_189002.out))
                have n6_ := Aside0.mk (ho)
                clear HO_6 BK185 BK188 HI0 HB HK HO_189002 HO202; have HO_6 := n0_; have BK185 := n1_; have BK188 := n2_; have HI0 := n3_; have HB := n4_; have HK := n5_; have HO206 := n6_; clear n0_ n1_ n2_ n3_ n4_ n5_ n6_ ho hb hg hat
                obtain ⟨Ao25, co25, eo25⟩ := Kd.S_slice HO206.out
                (first | subst eo25 | (injection eo25 with f1_ f2_ f3_; have f4_ := f1_.symm; have f5_ := f3_.symm; clear f1_ f2_ f3_; subst f4_; subst f5_))
                refine hK.out _ _ ?_
                clear hK K
                refine norm_ (a' := ?_) ?_ ?_
                rotate_left
                · show Act.put _ (some 47) _ = _
                  simp only [Act.put, List.setIfInBounds_toArray, List.set_cons_zero, List.set_cons_succ, i64_w, i32_w]
                  rfl
                refine pure_ (i := 17) (N := some 48) (v := ?_) (a' := ?_) #[true, true, true, true, true, true, true, true, true, true, true, true, true, true, true, true, true, true, false] rfl rfl (any_of HT_.out (by kernel_rfl)) (fun _ _ _ h => h) (Or.inl ⟨by rfl, ?_⟩) ?_ ?_
                rotate_left
                · intro w'
                  go_simp
                  with_reducible rfl
                rotate_left
                · simp only [Act.put, List.setIfInBounds_toArray, List.set_cons_zero, List.set_cons_succ, i64_w, i32_w]
                  rfl
                refine last_ (i := 18) (N := none) #[true, true, true, true, true, true, true, true, true, true, true, true, true, true, true, true, true, true, true] rfl rfl (one_of HT_.out (by kernel_rfl)) (by decide) (fun K hK => ?_)
                have hs26 : w24.cell? ⟨gb188, 2, none⟩ = some (u189002) := (blk_cell BK188.out 2).trans rfl
                have hfs26 := blk_frozen BK188.out 2
                have hns26_0 := NB185_188.out; have hms26_0 := NB188_185.out
                refine skip_ (w1 := ?_) (by rfl) rfl ?_ ?_
                rotate_left
                · go_simp
                  rfl
                refine hK.out _ _ ?_
                clear hK K
                refine done_ (done_of HT_.out (by kernel_rfl)) ?_
                try go_wp2
                go_roundg k1
                case measure => have := HK1.out; omega
                case rel => exact ⟨(wrap64 (x7_1 + 1)), (t203), (y204), (.slice Ao25 y204.length co25), (by first | rfl | (simp; done) | (simp [*]; done)), H', ⟨by have := HK1.out; omega⟩, ⟨by (with_reducible repeat (first | apply Kd.R_alloc | apply Kd.R_drewN | apply Kd.R_drew)); exact Kd.R_mono (Kd.R_far (p := ⟨gb188, 2, none⟩) (Kd.R_types HO_6.out BK188.out (by decide)) (fun _ hk => hk.2) (.slice Ao25 y204.length co25)) (fun _ hk => trivial)⟩, ⟨by (with_reducible repeat (first | apply Kd.S_alloc | apply Kd.S_drewN | apply Kd.S_drew)); exact Kd.S_mono (Kd.S_far (p := ⟨gb188, 2, none⟩) (Kd.S_types HO206.out BK188.out (by decide)) (fun _ hk => hk.2) (.slice Ao25 y204.length co25)) (fun _ hk => trivial)⟩, ⟨by (with_reducible repeat (first|refine zN ?_ _|refine zD ?_|refine zA ?_ _)); refine blk_far ?_ NB185_188.out _; (with_reducible repeat (first|refine zN ?_ _|refine zD ?_|refine zA ?_ _)); exact BK185.out⟩, ⟨by (with_reducible repeat (first|refine zN ?_ _|refine zD ?_|refine zA ?_ _)); refine blk_put (cs := #[.string a1, .string t186, u189002]) ?_ 2 _ rfl; (with_reducible repeat (first|refine zN ?_ _|refine zD ?_|refine zA ?_ _)); exact BK188.out⟩, ⟨by repeat (first | (with_reducible first | exact HI0.out | apply IsS71.alloc | apply IsS71.drewN | apply IsS71.drew | apply IsS71.set_1 | refine IsS71.far ?_ NB0_185.out _ | refine IsS71.far ?_ NB0_188.out _) | exact HI0.out)⟩, ⟨by repeat (first | (with_reducible first | exact HK.out | apply KeepBut.set_ | apply zF | apply zG | apply zH | refine zI ?_ GW185.out _ | refine zI ?_ GW188.out _) | exact HK.out)⟩, ⟨by repeat (first | (with_reducible first|exact HB.out|apply zE|apply zB|apply zC | refine zJ ?_ (IsS71.ge HI0.out) | refine zJ ?_ GE185.out | refine zJ ?_ GE188.out) | exact HB.out)⟩⟩
              · rw [if_neg c18] at H
                exact absurd H (by simp)
            · rw [if_neg c16] at H
              have c16b0 : decide (0 < t193) = false := decide_eq_false c16
              clear c16; have H' := Aside0.mk H; clear H
              obtain ⟨Ao27, co27, eo27⟩ := Kd.R_slice HO_6.out
              subst eo27
              have p192 : 0 ≤ (x7_1 : Int) := of_decide_eq_true (by first | (with_reducible assumption) | assumption)
              have q192 : x7_1 < (t189.length : Int) := of_decide_eq_true (by first | (with_reducible assumption) | assumption)
              (try (obtain ⟨AoX_, coX_, eoX_⟩ := Kd.R_slice HO_6.out; subst eoX_))
              obtain ⟨ad192, e192, hx192_0, hx192_1, hx192_2⟩ := at_T65 (Kd.R_reads' HO_6.out).2.2 x7_1 p192 q192
              cases e192
              replace p192 := eq_true p192
              replace q192 := eq_true q192
              go_wp2_with (first | (go_at_call 12; (with_reducible refine (flagstonedraw_Codes_Next.calls g s0_0 x1001_1 4 t193 t194 w0 _ ?side1 ?side2 A15.out).mono ?_); (case side1 => repeat (first | (with_reducible first | exact HI0.out | apply IsS71.alloc | apply IsS71.drewN | apply IsS71.drew | apply IsS71.set_1 | refine IsS71.far ?_ NB0_185.out _ | refine IsS71.far ?_ NB0_188.out _) | exact HI0.out)); (case side2 => repeat (first | (with_reducible first|exact HB.out|apply zE|apply zB|apply zC | refine zJ ?_ (IsS71.ge HI0.out) | refine zJ ?_ GE185.out | refine zJ ?_ GE188.out) | exact HB.out)); rintro e w28 ⟨rfl, hi, hb, hk⟩; have n0_ := Aside0.mk (Kd.R_mono (Kd.R_keep (IsS71.apart (show IsS71 w0 _ g s0_0 x1001_1 from by repeat (first | (with_reducible first | exact HI0.out | apply IsS71.alloc | apply IsS71.drewN | apply IsS71.drew | apply IsS71.set_1 | refine IsS71.far ?_ NB0_185.out _ | refine IsS71.far ?_ NB0_188.out _) | exact HI0.out)) (by (with_reducible repeat (first | apply Kd.R_alloc | apply Kd.R_drewN | apply Kd.R_drew)); exact HO_6.out) (by decide)) hk (fun _ h => h.2)) (fun _ h => h.1)); have n1_ := Aside0.mk (Kd.S_mono (Kd.S_keep (IsS71.apartS (show IsS71 w0 _ g s0_0 x1001_1 from by repeat (first | (with_reducible first | exact HI0.out | apply IsS71.alloc | apply IsS71.drewN | apply IsS71.drew | apply IsS71.set_1 | refine IsS71.far ?_ NB0_185.out _ | refine IsS71.far ?_ NB0_188.out _) | exact HI0.out)) (by (with_reducible repeat (first | apply Kd.S_alloc | apply Kd.S_drewN | apply Kd.S_drew)); exact HO_189002.out) (by decide)) hk (fun _ h => h.2)) (fun _ h => h.1)); have n2_ := Aside0.mk (KeepBut.blk hk (g' := gb185) (o := .cells #[.string (⟨#[]⟩ : ByteArray), .string (⟨#[]⟩ : ByteArray), .slice none 0 0] 85 (0, 0)) (by (with_reducible repeat (first|refine zN ?_ _|refine zD ?_|refine zA ?_ _)); exact BK185.out) NB185_0.out (by simp)); have n3_ := Aside0.mk (KeepBut.blk hk (g' := gb188) (o := .cells #[.string a1, .string t186, u189002] 85 (0, 0)) (by (with_reducible repeat (first|refine zN ?_ _|refine zD ?_|refine zA ?_ _)); exact BK188.out) NB188_0.out (by simp)); have n4_ := Aside0.mk (KeepBut.trans (by repeat (first | (with_reducible first | exact HK.out | apply KeepBut.set_ | apply zF | apply zG | apply zH | refine zI ?_ GW185.out _ | refine zI ?_ GW188.out _) | exact HK.out)) hk (.inl rfl)); have n5_ := Aside0.mk (hb); have n6_ := Aside0.mk (hi); clear HO_6 HO_189002 BK185 BK188 HK HB HI0; have HO_6 := n0_; have HO_189002 := n1_; have BK185 := n2_; have BK188 := n3_; have HK := n4_; have HB := n5_; have HI0 := n6_; clear n0_ n1_ n2_ n3_ n4_ n5_ n6_; (try clear hb); (try clear hb2); (try clear hk); (try clear hi); (try clear hge)))
              go_roundg k1
              case measure => have := HK1.out; omega
              case rel => exact ⟨(wrap64 (x7_1 + 1)), (t194), (x189002_1), (u189002), (by first | rfl | (simp; done) | (simp [*]; done)), H', ⟨by have := HK1.out; omega⟩, ⟨by (with_reducible repeat (first | apply Kd.R_alloc | apply Kd.R_drewN | apply Kd.R_drew)); exact HO_6.out⟩, ⟨by (with_reducible repeat (first | apply Kd.S_alloc | apply Kd.S_drewN | apply Kd.S_drew)); exact HO_189002.out⟩, ⟨by (with_reducible repeat (first|refine zN ?_ _|refine zD ?_|refine zA ?_ _)); exact BK185.out⟩, ⟨by (with_reducible repeat (first|refine zN ?_ _|refine zD ?_|refine zA ?_ _)); exact BK188.out⟩, ⟨by repeat (first | (with_reducible first | exact HI0.out | apply IsS71.alloc | apply IsS71.drewN | apply IsS71.drew | apply IsS71.set_1 | refine IsS71.far ?_ NB0_185.out _ | refine IsS71.far ?_ NB0_188.out _) | exact HI0.out)⟩, ⟨by repeat (first | (with_reducible first | exact HK.out | apply KeepBut.set_ | apply zF | apply zG | apply zH | refine zI ?_ GW185.out _ | refine zI ?_ GW188.out _) | exact HK.out)⟩, ⟨by repeat (first | (with_reducible first|exact HB.out|apply zE|apply zB|apply zC | refine zJ ?_ (IsS71.ge HI0.out) | refine zJ ?_ GE185.out | refine zJ ?_ GE188.out) | exact HB.out)⟩⟩
          · rw [if_neg c14] at H
            have c14b0 : (((rd_T65 t189 x7_1).f0).toList == a1.toList) = false := beq_eq_false_iff_ne.mpr c14
            have c14b1 : (((rd_T65 t189 x7_1).f0).toList != a1.toList) = true := bne_iff_ne.mpr c14
            have H' := Aside0.mk H; clear H
            obtain ⟨Ao29, co29, eo29⟩ := Kd.R_slice HO_6.out
            subst eo29
            have p192 : 0 ≤ (x7_1 : Int) := of_decide_eq_true (by first | (with_reducible assumption) | assumption)
            have q192 : x7_1 < (t189.length : Int) := of_decide_eq_true (by first | (with_reducible assumption) | assumption)
            (try (obtain ⟨AoX_, coX_, eoX_⟩ := Kd.R_slice HO_6.out; subst eoX_))
            obtain ⟨ad192, e192, hx192_0, hx192_1, hx192_2⟩ := at_T65 (Kd.R_reads' HO_6.out).2.2 x7_1 p192 q192
            cases e192
            replace p192 := eq_true p192
            replace q192 := eq_true q192
            go_wp2
            go_roundg k1
            case measure => have := HK1.out; omega
            case rel => exact ⟨(wrap64 (x7_1 + 1)), (x1001_1), (x189002_1), (u189002), (by first | rfl | (simp; done) | (simp [*]; done)), H', ⟨by have := HK1.out; omega⟩, ⟨by (with_reducible repeat (first | apply Kd.R_alloc | apply Kd.R_drewN | apply Kd.R_drew)); exact HO_6.out⟩, ⟨by (with_reducible repeat (first | apply Kd.S_alloc | apply Kd.S_drewN | apply Kd.S_drew)); exact HO_189002.out⟩, ⟨by (with_reducible repeat (first|refine zN ?_ _|refine zD ?_|refine zA ?_ _)); exact BK185.out⟩, ⟨by (with_reducible repeat (first|refine zN ?_ _|refine zD ?_|refine zA ?_ _)); exact BK188.out⟩, ⟨by repeat (first | (with_reducible first | exact HI0.out | apply IsS71.alloc | apply IsS71.drewN | apply IsS71.drew | apply IsS71.set_1 | refine IsS71.far ?_ NB0_185.out _ | refine IsS71.far ?_ NB0_188.out _) | exact HI0.out)⟩, ⟨by repeat (first | (with_reducible first | exact HK.out | apply KeepBut.set_ | apply zF | apply zG | apply zH | refine zI ?_ GW185.out _ | refine zI ?_ GW188.out _) | exact HK.out)⟩, ⟨by repeat (first | (with_reducible first|exact HB.out|apply zE|apply zB|apply zC | refine zJ ?_ (IsS71.ge HI0.out) | refine zJ ?_ GE185.out | refine zJ ?_ GE188.out) | exact HB.out)⟩⟩
        · rw [if_neg c13] at H
          exact absurd H (by simp)
      · rw [if_neg c12] at H
        have c12b0 : decide (x7_1 < (t189.length : Int)) = false := decide_eq_false c12
        clear c12
        simp only [Option.some.injEq, Prod.mk.injEq] at H
        obtain ⟨rfl, rfl, rfl, rfl⟩ := H
        obtain ⟨Ao30, co30, eo30⟩ := Kd.R_slice HO_6.out
        subst eo30; have hnb31 := NB188_185.out; have hnc31 := NB185_188.out; have hnb32 := NB188_0.out; have hnc32 := NB0_188.out
        have hcz33_0 : wr.cell? ⟨gb188, 0, none⟩ = some (.string a1) := (blk_cell BK188.out 0).trans rfl
        have hcz33_1 : wr.cell? ⟨gb188, 1, none⟩ = some (.string t186) := (blk_cell BK188.out 1).trans rfl
        have hcz33_2 : wr.cell? ⟨gb188, 2, none⟩ = some (u189002) := (blk_cell BK188.out 2).trans rfl
        have hfz33_0 := blk_frozen BK188.out 0
        have hfz33_1 := blk_frozen BK188.out 1
        have hfz33_2 := blk_frozen BK188.out 2
        have hnb34 := NB185_0.out; have hnc34 := NB0_185.out
        have hcz35_0 : wr.cell? ⟨gb185, 0, none⟩ = some (.string (⟨#[]⟩ : ByteArray)) := (blk_cell BK185.out 0).trans rfl
        have hcz35_1 : wr.cell? ⟨gb185, 1, none⟩ = some (.string (⟨#[]⟩ : ByteArray)) := (blk_cell BK185.out 1).trans rfl
        have hcz35_2 : wr.cell? ⟨gb185, 2, none⟩ = some (.slice none 0 0) := (blk_cell BK185.out 2).trans rfl
        have hfz35_0 := blk_frozen BK185.out 0
        have hfz35_1 := blk_frozen BK185.out 1
        have hfz35_2 := blk_frozen BK185.out 2
        obtain ⟨Ao36, co36, eo36⟩ := Kd.S_slice HO_189002.out
        subst eo36
        go_wp2
        refine bodyPost_ret (results_cell_row rfl _ _ gb185 85 #[.string a1, .string t186, .slice Ao36 x189002_1.length co36] (0, 0) _ rfl (by (with_reducible repeat (first|refine zN ?_ _|refine zD ?_|refine zA ?_ _)); refine blk_put (cs := #[.string a1, .string t186, .slice none 0 0]) ?_ 2 _ rfl; (with_reducible repeat (first|refine zN ?_ _|refine zD ?_|refine zA ?_ _)); refine blk_put (cs := #[.string a1, .string (⟨#[]⟩ : ByteArray), .slice none 0 0]) ?_ 1 _ rfl; (with_reducible repeat (first|refine zN ?_ _|refine zD ?_|refine zA ?_ _)); refine blk_put (cs := #[.string (⟨#[]⟩ : ByteArray), .string (⟨#[]⟩ : ByteArray), .slice none 0 0]) ?_ 0 _ rfl; (with_reducible repeat (first|refine zN ?_ _|refine zD ?_|refine zA ?_ _)); exact BK185.out) Tryd.underlying85 rfl (by kernel_rfl)) rfl ?_
        exact ⟨_, by first | rfl | (simp [errW_none, errW_some] <;> rfl) | (simp [*, errW_none, errW_some] <;> rfl), by (with_reducible repeat (first | apply Kd.S_alloc | apply Kd.S_drewN | apply Kd.S_drew)); exact Kd.S_mono (Kd.S_far (p := ⟨gb185, 2, none⟩) (Kd.S_far (p := ⟨gb185, 1, none⟩) (Kd.S_far (p := ⟨gb185, 0, none⟩) (Kd.S_types HO_189002.out BK185.out (by decide)) (fun _ hk => hk.2) (.string a1)) (fun _ hk => hk.2) (.string t186)) (fun _ hk => hk.2) (.slice Ao36 x189002_1.length co36)) (fun _ hk => trivial), by repeat (first | (with_reducible first | exact HI0.out | apply IsS71.alloc | apply IsS71.drewN | apply IsS71.drew | apply IsS71.set_1 | refine IsS71.far ?_ NB0_185.out _ | refine IsS71.far ?_ NB0_188.out _) | exact HI0.out), by repeat (first | (with_reducible first|exact HB.out|apply zE|apply zB|apply zC | refine zJ ?_ (IsS71.ge HI0.out) | refine zJ ?_ GE185.out | refine zJ ?_ GE188.out) | exact HB.out), by repeat (first | (with_reducible first | exact HK.out | apply KeepBut.set_ | apply zF | apply zG | apply zH | refine zI ?_ GW185.out _ | refine zI ?_ GW188.out _) | exact HK.out)⟩

end Go.Proofs.YtefglphdiimhnaaDoor.Q
