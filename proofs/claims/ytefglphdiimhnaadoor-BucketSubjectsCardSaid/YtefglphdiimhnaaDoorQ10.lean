-- printed by wip/hp.py (the session's driver of the print, with hand-proved contracts)
import Derived.Lib.ItoaLen
import Derived.Test.YtefglphdiimhnaaDoorNumPlain
import Derived.Test.YtefglphdiimhnaaDoorShelf
import Derived.Test.YtefglphdiimhnaaDoorQ0
import Derived.Test.YtefglphdiimhnaaDoorQ6
namespace Go.Proofs.YtefglphdiimhnaaDoor.Q
open Go.RowKit Go.Proofs.YtefglphdiimhnaaDoorW.PrintWords Go.Proofs.YtefglphdiimhnaaDoorW.PrintLast Go.Proofs.YtefglphdiimhnaaDoorW.PrintMore
attribute [local go_sem] max2_int min2_int max_two min_two max_three min_three max_four min_four   -- for this text's walks alone
set_option linter.unusedVariables false
set_option linter.unusedSimpArgs false

/-! ### text_Number: function 46 -/
theorem below_grown_itoa (w : World) (k : Nat) (os : Array Obj) : Below w.heap.size w (Go.Sort.grow (w.drewN k) os) := by
  refine ⟨rfl, rfl, rfl, ?_, fun i hi => ?_⟩
  · show w.heap.size ≤ (w.heap ++ os).size
    rw [Array.size_append]; omega
  · show (w.heap ++ os)[i]? = w.heap[i]?
    rw [Array.getElem?_append_left hi]
def text_Number.f (a0 : Int) : Option ByteArray := if -9223372036854775808 ≤ a0 ∧ a0 ≤ 9223372036854775807 then some ⟨(Lib.itoa a0).toArray⟩ else none
set_option maxHeartbeats 1000000 in
theorem text_Number.calls (a0 : Int) (r : ByteArray) (w : World) (hGL : GL w) (h : text_Number.f a0 = some r) :
    Calls Tryd.prog 46 #[.int .i64 a0] w fun e w' => e = .returned (.string r) ∧ Below w.heap.size w w' := by
  unfold text_Number.f at h
  split at h
  · rename_i hb
    obtain rfl := Option.some.inj h
    have HT := Aside0.mk hGL.uint64pow10
    obtain ⟨b0, b1⟩ := hb
    clear h hGL
    go_enter Tryd.func46, Tryd.ntmps46
    go_wp2_with fail
    refine (Tryd.strconv_Itoa a0 b0 b1 w HT.out).mono ?_
    rintro e w' ⟨rfl, k, os, hw⟩
    have HB := Aside0.mk (show Below w.heap.size w w' by rw [hw]; exact below_grown_itoa w k os)
    clear hw
    go_wp2_with fail
    go_ret
    exact ⟨rfl, HB.out⟩
  · cases h

/-! ### bucket_Key: function 28 -/
def bucket_Key.j0 : Nat → Int → Bool → Int → Int → ByteArray → List ByteArray → Option (ByteArray × Bool)
  | 0, _, _, _, _, _, _ => none
  | k + 1, x5, x6, x239000, x239001, x239002, x239003 => if x6 = true then (some (x239002, true)) else (if x5 = 2 then ((text_Number.f x239001).bind fun t239 => (some (t239, true))) else (if x5 = 1 then (if x239001 = 1 then (some ((⟨#[116, 114, 117, 101]⟩ : ByteArray), true)) else (some ((⟨#[102, 97, 108, 115, 101]⟩ : ByteArray), true))) else (some ((⟨#[]⟩ : ByteArray), false))))
def bucket_Key.f (k : Nat) (a0_0 : Int) (a0_1 : Int) (a0_2 : ByteArray) (l0_3 : List ByteArray) : Option (ByteArray × Bool) := if a0_0 = 3 then (bucket_Key.j0 k a0_0 (a0_0 == 3) a0_0 a0_1 a0_2 l0_3) else (bucket_Key.j0 k a0_0 (a0_0 == 4) a0_0 a0_1 a0_2 l0_3)
theorem bucket_Key.mono_l : ∀ k, (∀ y0 y1 y2 y3 y4 y5, LeO (bucket_Key.j0 k y0 y1 y2 y3 y4 y5) (bucket_Key.j0 (k + 1) y0 y1 y2 y3 y4 y5))
  | 0 => fun _ _ _ _ _ _ r h => by simp [bucket_Key.j0] at h
  | k + 1 => by
    have ih0 := bucket_Key.mono_l k
    · intro y0 y1 y2 y3 y4 y5
      unfold bucket_Key.j0
      repeat' first
      | (with_reducible exact ih0 _ _ _ _ _ _)
      | (with_reducible exact LeO.refl _)
      | (with_reducible exact LeO.none _)
      | (with_reducible refine LeO.ite ?_ ?_)
      | (with_reducible refine LeO.bind ?_ (fun _ => ?_))
      | exact ih0 _ _ _ _ _ _
      | exact LeO.none _
      | refine LeO.ite ?_ ?_
      | refine LeO.bind ?_ (fun _ => ?_)
theorem bucket_Key.mono : ∀ a0 a1 a2 a3 k, LeO (bucket_Key.f k a0 a1 a2 a3) (bucket_Key.f (k + 1) a0 a1 a2 a3) := by
  intro a0 a1 a2 a3 k
  have ih0 := bucket_Key.mono_l k
  unfold bucket_Key.f
  repeat' first
      | (with_reducible exact ih0 _ _ _ _ _ _)
      | (with_reducible exact LeO.refl _)
      | (with_reducible exact LeO.none _)
      | (with_reducible refine LeO.ite ?_ ?_)
      | (with_reducible refine LeO.bind ?_ (fun _ => ?_))
      | exact ih0 _ _ _ _ _ _
      | exact LeO.none _
      | refine LeO.ite ?_ ?_
      | refine LeO.bind ?_ (fun _ => ?_)
set_option maxHeartbeats 8000000 in
set_option maxRecDepth 100000 in
theorem bucket_Key.calls (k : Nat) (a0_0 : Int) (a0_1 : Int) (a0_2 : ByteArray) (A0_3 : Option Addr) (c0_3 : Nat) (l0_3 : List ByteArray) (r1 : ByteArray) (r2 : Bool) (w : World) (hr0_3 : Kd.C Kd.string w A0_3 l0_3.length l0_3) (hc0_3 : l0_3.length ≤ c0_3) (hGL : GL w) (h : bucket_Key.f k a0_0 a0_1 a0_2 l0_3 = some (r1, r2)) :
    Calls Tryd.prog 28 #[.agg #[.int .i64 a0_0, .int .i64 a0_1, .string a0_2, .slice A0_3 l0_3.length c0_3]] w fun e w' => e = .returned (.tuple #[.string r1, .bool r2]) ∧ Below w.heap.size w w' := by
  have hu49 := Tryd.underlying49; have HR0_3 := Aside0.mk hr0_3; have HC0_3 := Aside0.mk hc0_3; clear hr0_3 hc0_3; have HGL := Aside0.mk hGL; clear hGL
  have HB := Aside0.mk (Below.refl w.heap.size w)
  have H : (if a0_0 = 3 then (bucket_Key.j0 k a0_0 (a0_0 == 3) a0_0 a0_1 a0_2 l0_3) else (bucket_Key.j0 k a0_0 (a0_0 == 4) a0_0 a0_1 a0_2 l0_3)) = some (r1, r2) := h
  clear h; have HC2 := Aside0.mk H; clear H
  go_enter Tryd.func28, Tryd.ntmps28
  go_upto_if 6 with (first | ((with_reducible refine gate_dst (N := 1) rfl ?_); refine box_event ?hg (N := 1) ?hd (cs := #[.int .i64 a0_0, .int .i64 a0_1, .string a0_2, .slice A0_3 l0_3.length c0_3]) (t := 49) ?hr ?_; (case hd => rfl); (case hg => rfl); (case hr => first | (go_simp; done) | (go_simp; rfl)); intro gb238 hg w3 hbox hb; have n0_ := Aside0.mk (below_step (by repeat (first | (with_reducible first|exact HB.out|apply zE|apply zB|apply zC) | exact HB.out)) hb); have n1_ := Aside0.mk (hbox); have n2_ := Aside0.mk ((by rw [hg]; exact (below_size (by repeat (first | (with_reducible first|exact HB.out|apply zE|apply zB|apply zC) | exact HB.out))) : w.heap.size ≤ gb238)); have n3_ := Aside0.mk ((by rw [hg]; exact (below_size (by repeat (first | (with_reducible first|exact HB.out|apply zE|apply zB|apply zC) | exact HB.out))) : w.heap.size ≤ gb238)); clear HB; have HB := n0_; have BK238 := n1_; have GW238 := n2_; have GE238 := n3_; clear n0_ n1_ n2_ n3_ hb hbox hg; have hcz4_0 : w3.cell? ⟨gb238, 0, none⟩ = some (.int .i64 a0_0) := (blk_cell BK238.out 0).trans rfl; have hcz4_1 : w3.cell? ⟨gb238, 1, none⟩ = some (.int .i64 a0_1) := (blk_cell BK238.out 1).trans rfl; have hcz4_2 : w3.cell? ⟨gb238, 2, none⟩ = some (.string a0_2) := (blk_cell BK238.out 2).trans rfl; have hcz4_3 : w3.cell? ⟨gb238, 3, none⟩ = some (.slice A0_3 l0_3.length c0_3) := (blk_cell BK238.out 3).trans rfl; have hfz4_0 := blk_frozen BK238.out 0; have hfz4_1 := blk_frozen BK238.out 1; have hfz4_2 := blk_frozen BK238.out 2; have hfz4_3 := blk_frozen BK238.out 3))
  (try simp only [Act.put, List.setIfInBounds_toArray, List.set_cons_zero, List.set_cons_succ])
  go_cut [6] (fun v6 wc => ∃ (kq : Nat) (x6_1 : Bool), v6 = .bool x6_1 ∧ Aside0 (bucket_Key.j0 kq a0_0 x6_1 a0_0 a0_1 a0_2 l0_3 = some (r1, r2)) ∧ Aside0 (kq ≤ k) ∧ Aside0 (wc.heap[gb238]? = some (.cells #[.int .i64 a0_0, .int .i64 a0_1, .string a0_2, (.slice A0_3 l0_3.length c0_3)] 49 (0, 0))) ∧ Aside0 (Below w.heap.size w wc))
  case first =>
    have H := HC2.out; clear HC2
    by_cases c5 : a0_0 = 3
    · rw [if_pos c5] at H
      have c5b0 : (a0_0 == 3) = true := beq_iff_eq.mpr c5
      have c5b1 : (a0_0 != 3) = false := bne_eq_false_iff_eq.mpr c5
      clear c5
      (first | rw [c5b0] | (simp only [i64_w, i32_w]; rw [c5b0]) | skip)
      have H' := Aside0.mk H; clear H
      go_wp2
      go_meet
      case rel => exact ⟨_, ((a0_0 == 3)), (by first | rfl | (simp; done) | (simp [*]; done)), H', ⟨by first | omega | exact Nat.le_refl _⟩, ⟨by (with_reducible repeat (first|refine zN ?_ _|refine zD ?_|refine zA ?_ _)); exact BK238.out⟩, ⟨by repeat (first | (with_reducible first|exact HB.out|apply zE|apply zB|apply zC | refine zJ ?_ GE238.out) | exact HB.out)⟩⟩
    · rw [if_neg c5] at H
      have c5b0 : (a0_0 == 3) = false := beq_eq_false_iff_ne.mpr c5
      have c5b1 : (a0_0 != 3) = true := bne_iff_ne.mpr c5
      (first | rw [c5b0] | (simp only [i64_w, i32_w]; rw [c5b0]) | skip)
      have H' := Aside0.mk H; clear H
      go_wp2
      go_meet
      case rel => exact ⟨_, ((a0_0 == 4)), (by first | rfl | (simp; done) | (simp [*]; done)), H', ⟨by first | omega | exact Nat.le_refl _⟩, ⟨by (with_reducible repeat (first|refine zN ?_ _|refine zD ?_|refine zA ?_ _)); exact BK238.out⟩, ⟨by repeat (first | (with_reducible first|exact HB.out|apply zE|apply zB|apply zC | refine zJ ?_ GE238.out) | exact HB.out)⟩⟩
  case rest =>
    clear HC2; (try clear c2); (try clear p2); (try clear c5); (try clear c5b0); (try clear c5b1); (try clear hcz4_0); (try clear hcz4_1); (try clear hcz4_2); (try clear hcz4_3); (try clear hfz4_0); (try clear hfz4_1); (try clear hfz4_2); (try clear hfz4_3)
    obtain ⟨kq, x6_1, rfl, HA, HJ1, BK238, HB⟩ := hcut
    cases kq with
    | zero => exact absurd HA.out (by simp [bucket_Key.j0])
    | succ kj1 =>
      have H := HA.out; clear HA
      simp only [bucket_Key.j0] at H
      by_cases c6 : x6_1 = true
      · subst c6
        have H1 : (some (a0_2, true)) = some (r1, r2) := by rw [if_pos rfl] at H; exact H
        clear H; have H := H1; clear H1
        simp only [Option.some.injEq, Prod.mk.injEq] at H
        obtain ⟨rfl, rfl⟩ := H
        have hcz7_0 : wc.cell? ⟨gb238, 0, none⟩ = some (.int .i64 a0_0) := (blk_cell BK238.out 0).trans rfl
        have hcz7_1 : wc.cell? ⟨gb238, 1, none⟩ = some (.int .i64 a0_1) := (blk_cell BK238.out 1).trans rfl
        have hcz7_2 : wc.cell? ⟨gb238, 2, none⟩ = some (.string a0_2) := (blk_cell BK238.out 2).trans rfl
        have hcz7_3 : wc.cell? ⟨gb238, 3, none⟩ = some (.slice A0_3 l0_3.length c0_3) := (blk_cell BK238.out 3).trans rfl
        have hfz7_0 := blk_frozen BK238.out 0
        have hfz7_1 := blk_frozen BK238.out 1
        have hfz7_2 := blk_frozen BK238.out 2
        have hfz7_3 := blk_frozen BK238.out 3
        go_wp2
        go_ret2
        exact ⟨by first | rfl | (simp [errW_none, errW_some] <;> rfl) | (simp [*, errW_none, errW_some] <;> rfl), by repeat (first | (with_reducible first|exact HB.out|apply zE|apply zB|apply zC | refine zJ ?_ GE238.out) | exact HB.out)⟩
      · replace c6 := Bool.eq_false_iff.mpr c6
        subst c6
        have H1 : (if a0_0 = 2 then ((text_Number.f a0_1).bind fun t239 => (some (t239, true))) else (if a0_0 = 1 then (if a0_1 = 1 then (some ((⟨#[116, 114, 117, 101]⟩ : ByteArray), true)) else (some ((⟨#[102, 97, 108, 115, 101]⟩ : ByteArray), true))) else (some ((⟨#[]⟩ : ByteArray), false)))) = some (r1, r2) := by rw [if_neg (show ¬ (false = true) by decide)] at H; exact H
        clear H; have H := H1; clear H1
        by_cases c8 : a0_0 = 2
        · rw [if_pos c8] at H
          have c8b0 : (a0_0 == 2) = true := beq_iff_eq.mpr c8
          have c8b1 : (a0_0 != 2) = false := bne_eq_false_iff_eq.mpr c8
          clear c8; replace H := Option.bind_eq_some_iff.mp H; obtain ⟨t239, A90, H⟩ := H
          replace H : (some (t239, true)) = some (r1, r2) := H
          have A9 := Aside0.mk A90; clear A90
          simp only [Option.some.injEq, Prod.mk.injEq] at H
          obtain ⟨rfl, rfl⟩ := H
          have hcz10_0 : wc.cell? ⟨gb238, 0, none⟩ = some (.int .i64 a0_0) := (blk_cell BK238.out 0).trans rfl
          have hcz10_1 : wc.cell? ⟨gb238, 1, none⟩ = some (.int .i64 a0_1) := (blk_cell BK238.out 1).trans rfl
          have hcz10_2 : wc.cell? ⟨gb238, 2, none⟩ = some (.string a0_2) := (blk_cell BK238.out 2).trans rfl
          have hcz10_3 : wc.cell? ⟨gb238, 3, none⟩ = some (.slice A0_3 l0_3.length c0_3) := (blk_cell BK238.out 3).trans rfl
          have hfz10_0 := blk_frozen BK238.out 0
          have hfz10_1 := blk_frozen BK238.out 1
          have hfz10_2 := blk_frozen BK238.out 2
          have hfz10_3 := blk_frozen BK238.out 3
          go_wp2_with (first | ((with_reducible refine gate_callee (f := 46) rfl ?_); refine goesL_ (some 15) rfl rfl Tryd.func46 (by kernel_rfl) rfl #[.int .i64 a0_1] rfl (by (try simp only [List.map_toArray, List.map_cons, List.map_nil]); first | done | rfl | (simp only [List.length_drop, List.length_take]; rfl)) ?_; (with_reducible refine (text_Number.calls a0_1 t239 _ ?side1 A9.out).mono ?_); (case side1 => exact GL.below HGL.out (by repeat (first | (with_reducible first|exact HB.out|apply zE|apply zB|apply zC | refine zJ ?_ GE238.out) | exact HB.out))); rintro e w11 ⟨rfl, hb⟩; refine ⟨_, rfl, ?_⟩; have n0_ := Aside0.mk (blk_below (g := gb238) (o := .cells #[.int .i64 a0_0, .int .i64 a0_1, .string a0_2, .slice A0_3 l0_3.length c0_3] 49 (0, 0)) (by (with_reducible repeat (first|refine zN ?_ _|refine zD ?_|refine zA ?_ _)); exact BK238.out) hb); have n1_ := Aside0.mk (below_step (by repeat (first | (with_reducible first|exact HB.out|apply zE|apply zB|apply zC | refine zJ ?_ GE238.out) | exact HB.out)) hb); clear BK238 HB; have BK238 := n0_; have HB := n1_; clear n0_ n1_; (try clear hb); (try clear hb2); (try clear hk); (try clear hi); (try clear hge)))
          go_ret2
          exact ⟨by first | rfl | (simp [errW_none, errW_some] <;> rfl) | (simp [*, errW_none, errW_some] <;> rfl), by repeat (first | (with_reducible first|exact HB.out|apply zE|apply zB|apply zC | refine zJ ?_ GE238.out) | exact HB.out)⟩
        · rw [if_neg c8] at H
          have c8b0 : (a0_0 == 2) = false := beq_eq_false_iff_ne.mpr c8
          have c8b1 : (a0_0 != 2) = true := bne_iff_ne.mpr c8
          by_cases c12 : a0_0 = 1
          · rw [if_pos c12] at H
            have c12b0 : (a0_0 == 1) = true := beq_iff_eq.mpr c12
            have c12b1 : (a0_0 != 1) = false := bne_eq_false_iff_eq.mpr c12
            clear c12
            by_cases c13 : a0_1 = 1
            · rw [if_pos c13] at H
              have c13b0 : (a0_1 == 1) = true := beq_iff_eq.mpr c13
              have c13b1 : (a0_1 != 1) = false := bne_eq_false_iff_eq.mpr c13
              clear c13
              simp only [Option.some.injEq, Prod.mk.injEq] at H
              obtain ⟨rfl, rfl⟩ := H
              have hcz14_0 : wc.cell? ⟨gb238, 0, none⟩ = some (.int .i64 a0_0) := (blk_cell BK238.out 0).trans rfl
              have hcz14_1 : wc.cell? ⟨gb238, 1, none⟩ = some (.int .i64 a0_1) := (blk_cell BK238.out 1).trans rfl
              have hcz14_2 : wc.cell? ⟨gb238, 2, none⟩ = some (.string a0_2) := (blk_cell BK238.out 2).trans rfl
              have hcz14_3 : wc.cell? ⟨gb238, 3, none⟩ = some (.slice A0_3 l0_3.length c0_3) := (blk_cell BK238.out 3).trans rfl
              have hfz14_0 := blk_frozen BK238.out 0
              have hfz14_1 := blk_frozen BK238.out 1
              have hfz14_2 := blk_frozen BK238.out 2
              have hfz14_3 := blk_frozen BK238.out 3
              go_wp2
              go_ret2
              exact ⟨by first | rfl | (simp [errW_none, errW_some] <;> rfl) | (simp [*, errW_none, errW_some] <;> rfl), by repeat (first | (with_reducible first|exact HB.out|apply zE|apply zB|apply zC | refine zJ ?_ GE238.out) | exact HB.out)⟩
            · rw [if_neg c13] at H
              have c13b0 : (a0_1 == 1) = false := beq_eq_false_iff_ne.mpr c13
              have c13b1 : (a0_1 != 1) = true := bne_iff_ne.mpr c13
              simp only [Option.some.injEq, Prod.mk.injEq] at H
              obtain ⟨rfl, rfl⟩ := H
              have hcz15_0 : wc.cell? ⟨gb238, 0, none⟩ = some (.int .i64 a0_0) := (blk_cell BK238.out 0).trans rfl
              have hcz15_1 : wc.cell? ⟨gb238, 1, none⟩ = some (.int .i64 a0_1) := (blk_cell BK238.out 1).trans rfl
              have hcz15_2 : wc.cell? ⟨gb238, 2, none⟩ = some (.string a0_2) := (blk_cell BK238.out 2).trans rfl
              have hcz15_3 : wc.cell? ⟨gb238, 3, none⟩ = some (.slice A0_3 l0_3.length c0_3) := (blk_cell BK238.out 3).trans rfl
              have hfz15_0 := blk_frozen BK238.out 0
              have hfz15_1 := blk_frozen BK238.out 1
              have hfz15_2 := blk_frozen BK238.out 2
              have hfz15_3 := blk_frozen BK238.out 3
              go_wp2
              go_ret2
              exact ⟨by first | rfl | (simp [errW_none, errW_some] <;> rfl) | (simp [*, errW_none, errW_some] <;> rfl), by repeat (first | (with_reducible first|exact HB.out|apply zE|apply zB|apply zC | refine zJ ?_ GE238.out) | exact HB.out)⟩
          · rw [if_neg c12] at H
            have c12b0 : (a0_0 == 1) = false := beq_eq_false_iff_ne.mpr c12
            have c12b1 : (a0_0 != 1) = true := bne_iff_ne.mpr c12
            simp only [Option.some.injEq, Prod.mk.injEq] at H
            obtain ⟨rfl, rfl⟩ := H
            go_wp2
            go_ret2
            exact ⟨by first | rfl | (simp [errW_none, errW_some] <;> rfl) | (simp [*, errW_none, errW_some] <;> rfl), by repeat (first | (with_reducible first|exact HB.out|apply zE|apply zB|apply zC | refine zJ ?_ GE238.out) | exact HB.out)⟩

/-! ### subject_index: function 62 -/
/-- The place of the first context of a kind, from i on. -/
def idxFrom (kind : ByteArray) : List S85 → Nat → Int
  | [], _ => -1
  | x :: xs, i => if x.f0.toList = kind.toList then (i : Int) else idxFrom kind xs (i + 1)
set_option maxHeartbeats 1000000 in
theorem index1_any (s0 s1 kind : ByteArray) (A : Option Addr) (n c : Nat) (b : Nat) (w : World) (hb : w.cell? ⟨b, 0, none⟩ = some (.string kind)) :
    Calls Tryd.prog 70 #[.agg #[.string s0, .string s1, .slice A n c], .pointer (some ⟨b, 0, none⟩)] w fun e w' => e = .returned (.bool (s0.toList == kind.toList)) ∧ Below w.heap.size w w' := by
  have hb2 := pw_cell_below (zE (Below.refl w.heap.size w) (Obj.cells #[.string s0, .string s1, .slice A n c] 85)) hb
  go_enter Tryd.func70, Tryd.ntmps70
  go_wp2_with fail
  go_ret
  exact ⟨rfl, zE (Below.refl _ _) _⟩
set_option maxHeartbeats 2000000 in
set_option maxRecDepth 100000 in
theorem indexFunc_any (A0 : Option Addr) (c0 : Nat) (l0 : List S85) (kind : ByteArray) (b : Nat) (w : World) (hr0 : Kd.C k85 w A0 l0.length l0) (hb : w.cell? ⟨b, 0, none⟩ = some (.string kind)) :
    Calls Tryd.prog 69 #[.slice A0 l0.length c0, .func (.func 70) #[] #[.pointer (some ⟨b, 0, none⟩)]] w fun e w' => e = .returned (.int .i64 (idxFrom kind l0 0)) ∧ Below w.heap.size w w' := by
  have HR0 := Aside0.mk hr0; have HBc := Aside0.mk hb
  have hmax := Aside0.mk (Kd.C_max hr0)
  clear hr0 hb
  go_enter Tryd.func69, Tryd.ntmps69
  go_wp2_with fail
  go_loopw [8] (fun v wr => ∃ q : Nat, v = .int .i64 (q : Int) ∧ q ≤ l0.length ∧ Aside0 (idxFrom kind l0 0 = idxFrom kind (l0.drop q) q) ∧ Aside0 (Below w.heap.size w wr)) (fun v _ => l0.length - (intOf v).toNat)
  case atStart => exact ⟨0, rfl, by omega, ⟨by simp⟩, ⟨Below.refl _ _⟩⟩
  case round =>
    obtain ⟨q, rfl, hq, HI, HB⟩ := hrel
    by_cases hlt : q < l0.length
    · obtain ⟨ad, A2, c2, ea, h0, h1, h2, _, _⟩ := at_T85 (Kd.C_below HR0.out HB.out) (q : Int) (by omega) (by omega)
      cases ea
      have hcw := Aside0.mk (pw_cell_below HB.out HBc.out)
      have hd : decide ((q : Int) < (l0.length : Int)) = true := decide_eq_true (by omega)
      have hm := hmax.out
      have hr : rd_T85 l0 (q : Int) = l0[q] := by unfold rd_T85; simp [hlt]
      have HS := Aside0.mk (show idxFrom kind (l0.drop q) q = if (l0[q]).f0.toList = kind.toList then (q : Int) else idxFrom kind (l0.drop (q + 1)) (q + 1) by
        rw [List.drop_eq_getElem_cons hlt]; rfl)
      rw [show (q : Int).toNat = q by omega, hr] at h0 h1 h2
      clear hr
      by_cases he : (l0[q]).f0.toList = kind.toList
      · have heb : ((l0[q]).f0.toList == kind.toList) = true := by simpa using he
        have HE := Aside0.mk he; clear he
        go_wp2_with fail
        refine (index1_any _ _ kind A2 _ c2 b _ hcw.out).mono ?_
        rintro e w1 ⟨rfl, hb1⟩
        have HB1 := Aside0.mk (below_step HB.out hb1)
        clear hb1
        go_wp2_with fail
        go_ret
        exact ⟨by rw [HI.out, HS.out, if_pos HE.out]; rfl, HB1.out⟩
      · have heb : ((l0[q]).f0.toList == kind.toList) = false := by simpa using he
        have HE := Aside0.mk he; clear he
        go_wp2_with fail
        refine (index1_any _ _ kind A2 _ c2 b _ hcw.out).mono ?_
        rintro e w1 ⟨rfl, hb1⟩
        have HB1 := Aside0.mk (below_step HB.out hb1)
        clear hb1
        go_wp2_with fail
        go_roundw
        case measure => simp [intOf]; omega
        case rel => exact ⟨q + 1, by go_num, by omega, ⟨by rw [HI.out, HS.out, if_neg HE.out]⟩, HB1⟩
    · have e2 : q = l0.length := by omega
      subst e2
      have HE := Aside0.mk (show idxFrom kind l0 0 = -1 by rw [HI.out, List.drop_length]; rfl)
      clear HI
      go_wp2_with fail
      go_ret
      exact ⟨by rw [HE.out]; rfl, HB.out⟩
def subject_index.f (l0_0 : List S85) (a1 : ByteArray) : Option Int := some (idxFrom a1 l0_0 0)
set_option maxHeartbeats 1000000 in
theorem subject_index.calls (A0_0 : Option Addr) (c0_0 : Nat) (l0_0 : List S85) (a1 : ByteArray) (r : Int) (w : World) (hr0_0 : Kd.C k85 w A0_0 l0_0.length l0_0) (hc0_0 : l0_0.length ≤ c0_0) (h : subject_index.f l0_0 a1 = some r) :
    Calls Tryd.prog 62 #[.agg #[.slice A0_0 l0_0.length c0_0], .string a1] w fun e w' => e = .returned (.int .i64 r) ∧ Below w.heap.size w w' := by
  obtain rfl := Option.some.inj h
  have HR0 := Aside0.mk hr0_0; clear hr0_0 hc0_0 h
  go_enter Tryd.func62, Tryd.ntmps62
  go_wp2_with fail
  have HB2 := Aside0.mk (zE (zE (Below.refl w.heap.size w) (Obj.cells #[Value.slice A0_0 l0_0.length c0_0] 58)) (Obj.cells #[Value.string a1] 9))
  refine (indexFunc_any A0_0 c0_0 l0_0 a1 (w.heap.size + 1) _ (Kd.C_below HR0.out HB2.out) (by go_simp)).mono ?_
  rintro e w1 ⟨rfl, hb1⟩
  have HB3 := Aside0.mk (below_step HB2.out hb1)
  clear hb1
  go_wp2_with fail
  go_ret
  exact ⟨rfl, HB3.out⟩

/-! ### slices_Clone_string_string: function 71 -/
def slices_Clone_string_string.f (l0 : List ByteArray) : Option (List ByteArray) := if l0.length * 16 ≤ 140737488355328 then some l0 else none
theorem slices_Clone_string_string.calls (A0 : Option Addr) (c0 : Nat) (l0 : List ByteArray) (r : List ByteArray) (w : World) (hr0 : Kd.C Kd.string w A0 l0.length l0) (hc0 : l0.length ≤ c0) (h : slices_Clone_string_string.f l0 = some r) :
    Calls Tryd.prog 71 #[.slice A0 l0.length c0] w fun e w' => ∃ v0_ : Value, e = .returned (v0_) ∧ Kd.R Kd.string 9 w' w.heap.size (fun _ => True) v0_ r ∧ Below w.heap.size w w' := by
  unfold slices_Clone_string_string.f at h
  split at h
  · rename_i hb
    obtain rfl := Option.some.inj h
    by_cases h0 : l0.length = 0
    · obtain rfl : l0 = [] := List.eq_nil_of_length_eq_zero h0
      rcases A0 with _ | ad
      · refine (Tryd.slices_Clone_string_nil 0 c0 w).mono ?_
        rintro e w' ⟨rfl, rfl⟩
        exact ⟨_, rfl, Kd.R_nil _ _ _ _ _, Below.refl _ _⟩
      · refine (Tryd.slices_Clone_string_zero ad c0 w).mono ?_
        rintro e w' ⟨v, rfl, ho, -, hw⟩
        exact ⟨v, rfl, Kd.R_of_own (xs := []) ho (fun _ _ => trivial), hw⟩
    · obtain ⟨ad, rfl, hcl⟩ := hr0.2.2 (by omega)
      have hcell : ∀ j, j < l0.length → w.cell? (ad.add j) = some (.string (l0.getD j ByteArray.empty)) := fun j hj => by
        obtain ⟨cs, hl, hk, hu⟩ := hcl j l0[j] (List.getElem?_eq_getElem hj)
        have hk2 : cs = [.string l0[j]] := hk
        subst hk2
        have := hu 0 _ rfl
        rw [show j * Kd.string.sz + 0 = j from Nat.mul_one j] at this
        rw [this, List.getD_eq_getElem?_getD, List.getElem?_eq_getElem hj]
        rfl
      obtain ⟨b, off, sp⟩ := ad
      have hsp : sp = none := by
        have := World.cell?_spot (hcell 0 (by omega))
        simpa [Addr.add] using this
      subst hsp
      refine (Tryd.slices_Clone_string b off l0.length c0 l0 w (Nat.le_refl _) hb (fun j hj => ?_)).mono ?_
      · have := hcell j hj
        rwa [WideShapes.add_plain] at this
      · rintro e w' ⟨v, rfl, ho, -, hw⟩
        rw [List.take_length] at ho
        exact ⟨v, rfl, Kd.R_of_own ho (fun _ _ => trivial), hw⟩
  · cases h

/-! ### clone_Value: function 63 -/
def clone_Value.f (a0_0 : Int) (a0_1 : Int) (a0_2 : ByteArray) (l0_3 : List ByteArray) : Option (Int × Int × ByteArray × List ByteArray) := (slices_Clone_string_string.f l0_3).bind fun t242 => (some (a0_0, a0_1, a0_2, t242))
set_option maxHeartbeats 8000000 in
set_option maxRecDepth 100000 in
theorem clone_Value.calls (a0_0 : Int) (a0_1 : Int) (a0_2 : ByteArray) (A0_3 : Option Addr) (c0_3 : Nat) (l0_3 : List ByteArray) (r1 : Int) (r2 : Int) (r3 : ByteArray) (r4 : List ByteArray) (w : World) (hr0_3 : Kd.C Kd.string w A0_3 l0_3.length l0_3) (hc0_3 : l0_3.length ≤ c0_3) (h : clone_Value.f a0_0 a0_1 a0_2 l0_3 = some (r1, r2, r3, r4)) :
    Calls Tryd.prog 63 #[.agg #[.int .i64 a0_0, .int .i64 a0_1, .string a0_2, .slice A0_3 l0_3.length c0_3]] w fun e w' => ∃ v3_ : Value, e = .returned (.agg #[.int .i64 r1, .int .i64 r2, .string r3, v3_]) ∧ Kd.R Kd.string 9 w' w.heap.size (fun _ => True) v3_ r4 ∧ Below w.heap.size w w' := by
  have hu49 := Tryd.underlying49; have HR0_3 := Aside0.mk hr0_3; have HC0_3 := Aside0.mk hc0_3; clear hr0_3 hc0_3
  have HB := Aside0.mk (Below.refl w.heap.size w)
  have H : ((slices_Clone_string_string.f l0_3).bind fun t242 => (some (a0_0, a0_1, a0_2, t242))) = some (r1, r2, r3, r4) := h
  clear h; replace H := Option.bind_eq_some_iff.mp H; obtain ⟨t242, A20, H⟩ := H
  replace H : (some (a0_0, a0_1, a0_2, t242)) = some (r1, r2, r3, r4) := H
  have A2 := Aside0.mk A20; clear A20
  simp only [Option.some.injEq, Prod.mk.injEq] at H
  obtain ⟨rfl, rfl, rfl, rfl⟩ := H
  go_enter Tryd.func63, Tryd.ntmps63
  go_wp2_with (first | ((with_reducible refine gate_dst (N := 1) rfl ?_); refine box_event ?hg (N := 1) ?hd (cs := #[.int .i64 a0_0, .int .i64 a0_1, .string a0_2, .slice A0_3 l0_3.length c0_3]) (t := 49) ?hr ?_; (case hd => rfl); (case hg => rfl); (case hr => first | (go_simp; done) | (go_simp; rfl)); intro gb240 hg w3 hbox hb; have n0_ := Aside0.mk (below_step (by repeat (first | (with_reducible first|exact HB.out|apply zE|apply zB|apply zC) | exact HB.out)) hb); have n1_ := Aside0.mk (hbox); have n2_ := Aside0.mk ((by rw [hg]; exact (below_size (by repeat (first | (with_reducible first|exact HB.out|apply zE|apply zB|apply zC) | exact HB.out))) : w.heap.size ≤ gb240)); have n3_ := Aside0.mk ((by rw [hg]; exact (below_size (by repeat (first | (with_reducible first|exact HB.out|apply zE|apply zB|apply zC) | exact HB.out))) : w.heap.size ≤ gb240)); clear HB; have HB := n0_; have BK240 := n1_; have GW240 := n2_; have GE240 := n3_; clear n0_ n1_ n2_ n3_ hb hbox hg) | ((with_reducible refine gate_dst (N := 2) rfl ?_); refine box_event ?hg (N := 2) ?hd (cs := #[.int .i64 0, .int .i64 0, .string (⟨#[]⟩ : ByteArray), .slice none 0 0]) (t := 49) ?hr ?_; (case hd => rfl); (case hg => rfl); (case hr => first | (go_simp; done) | (go_simp; rfl)); intro gb241 hg w4 hbox hb; have n0_ := Aside0.mk (blk_below (g := gb240) (o := .cells #[.int .i64 a0_0, .int .i64 a0_1, .string a0_2, .slice A0_3 l0_3.length c0_3] 49 (0, 0)) (by (with_reducible repeat (first|refine zN ?_ _|refine zD ?_|refine zA ?_ _)); exact BK240.out) hb); have n1_ := Aside0.mk (below_step (by repeat (first | (with_reducible first|exact HB.out|apply zE|apply zB|apply zC | refine zJ ?_ GE240.out) | exact HB.out)) hb); have n2_ := Aside0.mk (hbox); have n3_ := Aside0.mk ((by rw [hg]; exact (below_size (by repeat (first | (with_reducible first|exact HB.out|apply zE|apply zB|apply zC | refine zJ ?_ GE240.out) | exact HB.out))) : w.heap.size ≤ gb241)); have n4_ := Aside0.mk ((by rw [hg]; exact (below_size (by repeat (first | (with_reducible first|exact HB.out|apply zE|apply zB|apply zC | refine zJ ?_ GE240.out) | exact HB.out))) : w.heap.size ≤ gb241)); have n5_ := Aside0.mk ((by rw [hg]; exact Nat.ne_of_lt (blk_lt (g := gb240) (o := .cells #[.int .i64 a0_0, .int .i64 a0_1, .string a0_2, .slice A0_3 l0_3.length c0_3] 49 (0, 0)) (by (with_reducible repeat (first|refine zN ?_ _|refine zD ?_|refine zA ?_ _)); exact BK240.out)) : gb240 ≠ gb241)); have n6_ := Aside0.mk ((by rw [hg]; exact Nat.ne_of_gt (blk_lt (g := gb240) (o := .cells #[.int .i64 a0_0, .int .i64 a0_1, .string a0_2, .slice A0_3 l0_3.length c0_3] 49 (0, 0)) (by (with_reducible repeat (first|refine zN ?_ _|refine zD ?_|refine zA ?_ _)); exact BK240.out)) : gb241 ≠ gb240)); clear BK240 HB; have BK240 := n0_; have HB := n1_; have BK241 := n2_; have GW241 := n3_; have GE241 := n4_; have NB240_241 := n5_; have NB241_240 := n6_; clear n0_ n1_ n2_ n3_ n4_ n5_ n6_ hb hbox hg; have hnb5 := NB240_241.out; have hnc5 := NB241_240.out; have hcz6_0 : w4.cell? ⟨gb240, 0, none⟩ = some (.int .i64 a0_0) := (blk_cell BK240.out 0).trans rfl; have hcz6_1 : w4.cell? ⟨gb240, 1, none⟩ = some (.int .i64 a0_1) := (blk_cell BK240.out 1).trans rfl; have hcz6_2 : w4.cell? ⟨gb240, 2, none⟩ = some (.string a0_2) := (blk_cell BK240.out 2).trans rfl; have hcz6_3 : w4.cell? ⟨gb240, 3, none⟩ = some (.slice A0_3 l0_3.length c0_3) := (blk_cell BK240.out 3).trans rfl; have hfz6_0 := blk_frozen BK240.out 0; have hfz6_1 := blk_frozen BK240.out 1; have hfz6_2 := blk_frozen BK240.out 2; have hfz6_3 := blk_frozen BK240.out 3) | ((with_reducible refine gate_callee (f := 71) rfl ?_); refine goesL_ (some 5) rfl rfl Tryd.func71 (by kernel_rfl) rfl #[.slice A0_3 l0_3.length c0_3] rfl (by (try simp only [List.map_toArray, List.map_cons, List.map_nil]); first | done | rfl | (simp only [List.length_drop, List.length_take]; rfl)) ?_; (with_reducible refine (slices_Clone_string_string.calls _ _ l0_3 t242 _ ?side1 ?side2 A2.out).mono ?_); (case side1 => repeat (first | exact (Kd.C_below HR0_3.out HB.out) | (with_reducible refine Kd.C_alloc ?_ _) | (with_reducible refine Kd.C_drewN ?_ _) | (with_reducible refine Kd.C_drew ?_))); (case side2 => exact HC0_3.out); rintro e w7 ⟨v243, rfl, ho0, hb⟩; refine ⟨_, rfl, ?_⟩; have n0_ := Aside0.mk (Kd.R_lower ho0 (below_size (by repeat (first | (with_reducible first|exact HB.out|apply zE|apply zB|apply zC | refine zJ ?_ GE240.out | refine zJ ?_ GE241.out) | exact HB.out)))); have n1_ := Aside0.mk (blk_below (g := gb240) (o := .cells #[.int .i64 a0_0, .int .i64 a0_1, .string a0_2, .slice A0_3 l0_3.length c0_3] 49 (0, 0)) (by (with_reducible repeat (first|refine zN ?_ _|refine zD ?_|refine zA ?_ _)); exact BK240.out) hb); have n2_ := Aside0.mk (blk_below (g := gb241) (o := .cells #[.int .i64 0, .int .i64 0, .string (⟨#[]⟩ : ByteArray), .slice none 0 0] 49 (0, 0)) (by (with_reducible repeat (first|refine zN ?_ _|refine zD ?_|refine zA ?_ _)); exact BK241.out) hb); have n3_ := Aside0.mk (below_step (by repeat (first | (with_reducible first|exact HB.out|apply zE|apply zB|apply zC | refine zJ ?_ GE240.out | refine zJ ?_ GE241.out) | exact HB.out)) hb); clear BK240 BK241 HB; have HO244 := n0_; have BK240 := n1_; have BK241 := n2_; have HB := n3_; clear n0_ n1_ n2_ n3_; (try clear hb); (try clear hb2); (try clear hk); (try clear hi); (try clear hge); (try clear ho0); obtain ⟨Ao8, co8, eo8⟩ := Kd.R_slice HO244.out; subst eo8; have hcz9_0 : w7.cell? ⟨gb240, 0, none⟩ = some (.int .i64 a0_0) := (blk_cell BK240.out 0).trans rfl; have hcz9_1 : w7.cell? ⟨gb240, 1, none⟩ = some (.int .i64 a0_1) := (blk_cell BK240.out 1).trans rfl; have hcz9_2 : w7.cell? ⟨gb240, 2, none⟩ = some (.string a0_2) := (blk_cell BK240.out 2).trans rfl; have hcz9_3 : w7.cell? ⟨gb240, 3, none⟩ = some (.slice A0_3 l0_3.length c0_3) := (blk_cell BK240.out 3).trans rfl; have hfz9_0 := blk_frozen BK240.out 0; have hfz9_1 := blk_frozen BK240.out 1; have hfz9_2 := blk_frozen BK240.out 2; have hfz9_3 := blk_frozen BK240.out 3; have hcz10_0 : w7.cell? ⟨gb241, 0, none⟩ = some (.int .i64 0) := (blk_cell BK241.out 0).trans rfl; have hcz10_1 : w7.cell? ⟨gb241, 1, none⟩ = some (.int .i64 0) := (blk_cell BK241.out 1).trans rfl; have hcz10_2 : w7.cell? ⟨gb241, 2, none⟩ = some (.string (⟨#[]⟩ : ByteArray)) := (blk_cell BK241.out 2).trans rfl; have hcz10_3 : w7.cell? ⟨gb241, 3, none⟩ = some (.slice none 0 0) := (blk_cell BK241.out 3).trans rfl; have hfz10_0 := blk_frozen BK241.out 0; have hfz10_1 := blk_frozen BK241.out 1; have hfz10_2 := blk_frozen BK241.out 2; have hfz10_3 := blk_frozen BK241.out 3))
  refine bodyPost_ret (results_cell_row rfl _ _ gb241 49 #[.int .i64 a0_0, .int .i64 a0_1, .string a0_2, .slice Ao8 t242.length co8] (0, 0) _ rfl (by (with_reducible repeat (first|refine zN ?_ _|refine zD ?_|refine zA ?_ _)); refine blk_put (cs := #[.int .i64 a0_0, .int .i64 a0_1, .string a0_2, .slice none 0 0]) ?_ 3 _ rfl; (with_reducible repeat (first|refine zN ?_ _|refine zD ?_|refine zA ?_ _)); refine blk_put (cs := #[.int .i64 a0_0, .int .i64 a0_1, .string (⟨#[]⟩ : ByteArray), .slice none 0 0]) ?_ 2 _ rfl; (with_reducible repeat (first|refine zN ?_ _|refine zD ?_|refine zA ?_ _)); refine blk_put (cs := #[.int .i64 a0_0, .int .i64 0, .string (⟨#[]⟩ : ByteArray), .slice none 0 0]) ?_ 1 _ rfl; (with_reducible repeat (first|refine zN ?_ _|refine zD ?_|refine zA ?_ _)); refine blk_put (cs := #[.int .i64 0, .int .i64 0, .string (⟨#[]⟩ : ByteArray), .slice none 0 0]) ?_ 0 _ rfl; (with_reducible repeat (first|refine zN ?_ _|refine zD ?_|refine zA ?_ _)); refine blk_far ?_ NB241_240.out _; (with_reducible repeat (first|refine zN ?_ _|refine zD ?_|refine zA ?_ _)); exact BK241.out) Tryd.underlying49 rfl (by kernel_rfl)) rfl ?_
  exact ⟨_, by first | rfl | (simp [errW_none, errW_some] <;> rfl) | (simp [*, errW_none, errW_some] <;> rfl), by (with_reducible repeat (first | apply Kd.R_alloc | apply Kd.R_drewN | apply Kd.R_drew)); exact Kd.R_mono (Kd.R_far (p := ⟨gb241, 3, none⟩) (Kd.R_far (p := ⟨gb241, 2, none⟩) (Kd.R_far (p := ⟨gb241, 1, none⟩) (Kd.R_far (p := ⟨gb241, 0, none⟩) (Kd.R_far (p := ⟨gb240, 3, none⟩) (Kd.R_types (Kd.R_types HO244.out BK240.out (by decide)) BK241.out (by decide)) (fun _ hk => hk.1.2) (.slice Ao8 t242.length co8)) (fun _ hk => hk.2) (.int .i64 a0_0)) (fun _ hk => hk.2) (.int .i64 a0_1)) (fun _ hk => hk.2) (.string a0_2)) (fun _ hk => hk.2) (.slice Ao8 t242.length co8)) (fun _ hk => trivial), by repeat (first | (with_reducible first|exact HB.out|apply zE|apply zB|apply zC | refine zJ ?_ GE240.out | refine zJ ?_ GE241.out) | exact HB.out)⟩

/-! ### subject_Lookup: function 51 -/
def subject_Lookup.l0 : Nat → ByteArray → List (S98) → Int → Int → Option (Int × Int × ByteArray × List ByteArray × Bool)
  | 0, _, _, _, _ => none
  | k + 1, x2, x29, x30, x31 => if x31 < x30 then (if 0 ≤ x31 then (if x31 < (x29.length : Int) then (if ((rd_T98 x29 x31).f0).toList = x2.toList then ((clone_Value.f ((rd_T98 x29 x31).f1.f0) ((rd_T98 x29 x31).f1.f1) ((rd_T98 x29 x31).f1.f2) ((rd_T98 x29 x31).f1.f3)).bind fun bt252 => (some (bt252.1, bt252.2.1, bt252.2.2.1, bt252.2.2.2, true))) else (subject_Lookup.l0 k x2 x29 x30 (wrap64 (x31 + 1)))) else (none)) else (none)) else (some (0, 0, (⟨#[]⟩ : ByteArray), ([] : List ByteArray), false))
def subject_Lookup.f (k : Nat) (l0_0 : List (S85)) (a1 : ByteArray) (a2 : ByteArray) : Option (Int × Int × ByteArray × List ByteArray × Bool) := (subject_index.f l0_0 a1).bind fun t247 => (if t247 < 0 then (some (0, 0, (⟨#[]⟩ : ByteArray), ([] : List ByteArray), false)) else (if 0 ≤ t247 then (if t247 < (l0_0.length : Int) then (if a2.toList = ([107, 101, 121] : List UInt8) then (some (3, 0, (rd_T85 l0_0 t247).f1, ([] : List ByteArray), true)) else (subject_Lookup.l0 k a2 ((rd_T85 l0_0 t247).f2) (((rd_T85 l0_0 t247).f2).length : Int) 0)) else (none)) else (none)))
theorem subject_Lookup.mono_l : ∀ k, (∀ y0 y1 y2 y3, LeO (subject_Lookup.l0 k y0 y1 y2 y3) (subject_Lookup.l0 (k + 1) y0 y1 y2 y3))
  | 0 => fun _ _ _ _ r h => by simp [subject_Lookup.l0] at h
  | k + 1 => by
    have ih0 := subject_Lookup.mono_l k
    · intro y0 y1 y2 y3
      unfold subject_Lookup.l0
      repeat' first
      | (with_reducible exact ih0 _ _ _ _)
      | (with_reducible exact LeO.refl _)
      | (with_reducible exact LeO.none _)
      | (with_reducible refine LeO.ite ?_ ?_)
      | (with_reducible refine LeO.bind ?_ (fun _ => ?_))
      | exact ih0 _ _ _ _
      | exact LeO.none _
      | refine LeO.ite ?_ ?_
      | refine LeO.bind ?_ (fun _ => ?_)
theorem subject_Lookup.mono : ∀ a0 a1 a2 k, LeO (subject_Lookup.f k a0 a1 a2) (subject_Lookup.f (k + 1) a0 a1 a2) := by
  intro a0 a1 a2 k
  have ih0 := subject_Lookup.mono_l k
  unfold subject_Lookup.f
  repeat' first
      | (with_reducible exact ih0 _ _ _ _)
      | (with_reducible exact LeO.refl _)
      | (with_reducible exact LeO.none _)
      | (with_reducible refine LeO.ite ?_ ?_)
      | (with_reducible refine LeO.bind ?_ (fun _ => ?_))
      | exact ih0 _ _ _ _
      | exact LeO.none _
      | refine LeO.ite ?_ ?_
      | refine LeO.bind ?_ (fun _ => ?_)
set_option maxHeartbeats 8000000 in
set_option maxRecDepth 100000 in
theorem subject_Lookup.calls (k : Nat) (A0_0 : Option Addr) (c0_0 : Nat) (l0_0 : List (S85)) (a1 : ByteArray) (a2 : ByteArray) (r1 : Int) (r2 : Int) (r3 : ByteArray) (r4 : List ByteArray) (r5 : Bool) (w : World) (hr0_0 : Kd.C k85 w A0_0 l0_0.length l0_0) (hc0_0 : l0_0.length ≤ c0_0) (h : subject_Lookup.f k l0_0 a1 a2 = some (r1, r2, r3, r4, r5)) :
    Calls Tryd.prog 51 #[.agg #[.slice A0_0 l0_0.length c0_0], .string a1, .string a2] w fun e w' => ∃ v3_ : Value, e = .returned (.tuple #[.agg #[.int .i64 r1, .int .i64 r2, .string r3, v3_], .bool r5]) ∧ Kd.R Kd.string 9 w' w.heap.size (fun _ => True) v3_ r4 ∧ Below w.heap.size w w' := by
  have hu58 := Tryd.underlying58; have hu49 := Tryd.underlying49; have hu85 := Tryd.underlying85; have hu98 := Tryd.underlying98; have HR0_0 := Aside0.mk hr0_0; have HC0_0 := Aside0.mk hc0_0; clear hr0_0 hc0_0
  have HB := Aside0.mk (Below.refl w.heap.size w)
  have H : ((subject_index.f l0_0 a1).bind fun t247 => (if t247 < 0 then (some (0, 0, (⟨#[]⟩ : ByteArray), ([] : List ByteArray), false)) else (if 0 ≤ t247 then (if t247 < (l0_0.length : Int) then (if a2.toList = ([107, 101, 121] : List UInt8) then (some (3, 0, (rd_T85 l0_0 t247).f1, ([] : List ByteArray), true)) else (subject_Lookup.l0 k a2 ((rd_T85 l0_0 t247).f2) (((rd_T85 l0_0 t247).f2).length : Int) 0)) else (none)) else (none)))) = some (r1, r2, r3, r4, r5) := h
  clear h; replace H := Option.bind_eq_some_iff.mp H; obtain ⟨t247, A40, H⟩ := H
  replace H : (if t247 < 0 then (some (0, 0, (⟨#[]⟩ : ByteArray), ([] : List ByteArray), false)) else (if 0 ≤ t247 then (if t247 < (l0_0.length : Int) then (if a2.toList = ([107, 101, 121] : List UInt8) then (some (3, 0, (rd_T85 l0_0 t247).f1, ([] : List ByteArray), true)) else (subject_Lookup.l0 k a2 ((rd_T85 l0_0 t247).f2) (((rd_T85 l0_0 t247).f2).length : Int) 0)) else (none)) else (none))) = some (r1, r2, r3, r4, r5) := H
  have A4 := Aside0.mk A40; clear A40
  by_cases c5 : t247 < 0
  · rw [if_pos c5] at H
    have c5b0 : decide (t247 < 0) = true := decide_eq_true c5
    clear c5
    simp only [Option.some.injEq, Prod.mk.injEq] at H
    obtain ⟨rfl, rfl, rfl, rfl, rfl⟩ := H
    go_enter Tryd.func51, Tryd.ntmps51
    go_wp2_with (first | ((with_reducible refine gate_dst (N := 3) rfl ?_); refine box_event ?hg (N := 3) ?hd (cs := #[.slice A0_0 l0_0.length c0_0]) (t := 58) ?hr ?_; (case hd => rfl); (case hg => rfl); (case hr => first | (go_simp; done) | (go_simp; rfl)); intro gb245 hg w6 hbox hb; have n0_ := Aside0.mk (below_step (by repeat (first | (with_reducible first|exact HB.out|apply zE|apply zB|apply zC) | exact HB.out)) hb); have n1_ := Aside0.mk (hbox); have n2_ := Aside0.mk ((by rw [hg]; exact (below_size (by repeat (first | (with_reducible first|exact HB.out|apply zE|apply zB|apply zC) | exact HB.out))) : w.heap.size ≤ gb245)); have n3_ := Aside0.mk ((by rw [hg]; exact (below_size (by repeat (first | (with_reducible first|exact HB.out|apply zE|apply zB|apply zC) | exact HB.out))) : w.heap.size ≤ gb245)); clear HB; have HB := n0_; have BK245 := n1_; have GW245 := n2_; have GE245 := n3_; clear n0_ n1_ n2_ n3_ hb hbox hg) | ((with_reducible refine gate_dst (N := 6) rfl ?_); refine box_event ?hg (N := 6) ?hd (cs := #[.int .i64 0, .int .i64 0, .string (⟨#[]⟩ : ByteArray), .slice none 0 0]) (t := 49) ?hr ?_; (case hd => rfl); (case hg => rfl); (case hr => first | (go_simp; done) | (go_simp; rfl)); intro gb246 hg w7 hbox hb; have n0_ := Aside0.mk (blk_below (g := gb245) (o := .cells #[.slice A0_0 l0_0.length c0_0] 58 (0, 0)) (by (with_reducible repeat (first|refine zN ?_ _|refine zD ?_|refine zA ?_ _)); exact BK245.out) hb); have n1_ := Aside0.mk (below_step (by repeat (first | (with_reducible first|exact HB.out|apply zE|apply zB|apply zC | refine zJ ?_ GE245.out) | exact HB.out)) hb); have n2_ := Aside0.mk (hbox); have n3_ := Aside0.mk ((by rw [hg]; exact (below_size (by repeat (first | (with_reducible first|exact HB.out|apply zE|apply zB|apply zC | refine zJ ?_ GE245.out) | exact HB.out))) : w.heap.size ≤ gb246)); have n4_ := Aside0.mk ((by rw [hg]; exact (below_size (by repeat (first | (with_reducible first|exact HB.out|apply zE|apply zB|apply zC | refine zJ ?_ GE245.out) | exact HB.out))) : w.heap.size ≤ gb246)); have n5_ := Aside0.mk ((by rw [hg]; exact Nat.ne_of_lt (blk_lt (g := gb245) (o := .cells #[.slice A0_0 l0_0.length c0_0] 58 (0, 0)) (by (with_reducible repeat (first|refine zN ?_ _|refine zD ?_|refine zA ?_ _)); exact BK245.out)) : gb245 ≠ gb246)); have n6_ := Aside0.mk ((by rw [hg]; exact Nat.ne_of_gt (blk_lt (g := gb245) (o := .cells #[.slice A0_0 l0_0.length c0_0] 58 (0, 0)) (by (with_reducible repeat (first|refine zN ?_ _|refine zD ?_|refine zA ?_ _)); exact BK245.out)) : gb246 ≠ gb245)); clear BK245 HB; have BK245 := n0_; have HB := n1_; have BK246 := n2_; have GW246 := n3_; have GE246 := n4_; have NB245_246 := n5_; have NB246_245 := n6_; clear n0_ n1_ n2_ n3_ n4_ n5_ n6_ hb hbox hg; have hnb8 := NB245_246.out; have hnc8 := NB246_245.out; have hcz9_0 : w7.cell? ⟨gb245, 0, none⟩ = some (.slice A0_0 l0_0.length c0_0) := (blk_cell BK245.out 0).trans rfl; have hfz9_0 := blk_frozen BK245.out 0) | ((with_reducible refine gate_callee (f := 62) rfl ?_); refine goesL_ (some 14) rfl rfl Tryd.func62 (by kernel_rfl) rfl #[.agg #[.slice A0_0 l0_0.length c0_0], .string a1] rfl (by (try simp only [List.map_toArray, List.map_cons, List.map_nil]); first | done | rfl | (simp only [List.length_drop, List.length_take]; rfl)) ?_; (with_reducible refine (subject_index.calls _ _ l0_0 a1 t247 _ ?side1 ?side2 A4.out).mono ?_); (case side1 => repeat (first | exact (Kd.C_below HR0_0.out HB.out) | (with_reducible refine Kd.C_alloc ?_ _) | (with_reducible refine Kd.C_drewN ?_ _) | (with_reducible refine Kd.C_drew ?_))); (case side2 => exact HC0_0.out); rintro e w10 ⟨rfl, hb⟩; refine ⟨_, rfl, ?_⟩; have n0_ := Aside0.mk (blk_below (g := gb245) (o := .cells #[.slice A0_0 l0_0.length c0_0] 58 (0, 0)) (by (with_reducible repeat (first|refine zN ?_ _|refine zD ?_|refine zA ?_ _)); exact BK245.out) hb); have n1_ := Aside0.mk (blk_below (g := gb246) (o := .cells #[.int .i64 0, .int .i64 0, .string (⟨#[]⟩ : ByteArray), .slice none 0 0] 49 (0, 0)) (by (with_reducible repeat (first|refine zN ?_ _|refine zD ?_|refine zA ?_ _)); exact BK246.out) hb); have n2_ := Aside0.mk (below_step (by repeat (first | (with_reducible first|exact HB.out|apply zE|apply zB|apply zC | refine zJ ?_ GE245.out | refine zJ ?_ GE246.out) | exact HB.out)) hb); clear BK245 BK246 HB; have BK245 := n0_; have BK246 := n1_; have HB := n2_; clear n0_ n1_ n2_; (try clear hb); (try clear hb2); (try clear hk); (try clear hi); (try clear hge); have hcz11_0 : w10.cell? ⟨gb246, 0, none⟩ = some (.int .i64 0) := (blk_cell BK246.out 0).trans rfl; have hcz11_1 : w10.cell? ⟨gb246, 1, none⟩ = some (.int .i64 0) := (blk_cell BK246.out 1).trans rfl; have hcz11_2 : w10.cell? ⟨gb246, 2, none⟩ = some (.string (⟨#[]⟩ : ByteArray)) := (blk_cell BK246.out 2).trans rfl; have hcz11_3 : w10.cell? ⟨gb246, 3, none⟩ = some (.slice none 0 0) := (blk_cell BK246.out 3).trans rfl; have hfz11_0 := blk_frozen BK246.out 0; have hfz11_1 := blk_frozen BK246.out 1; have hfz11_2 := blk_frozen BK246.out 2; have hfz11_3 := blk_frozen BK246.out 3))
    refine bodyPost_ret (results_ct rfl _ _ gb246 49 #[.int .i64 0, .int .i64 0, .string (⟨#[]⟩ : ByteArray), .slice none 0 0] (0, 0) _ rfl (by (with_reducible repeat (first|refine zN ?_ _|refine zD ?_|refine zA ?_ _)); refine blk_put (cs := #[.int .i64 0, .int .i64 0, .string (⟨#[]⟩ : ByteArray), .slice none 0 0]) ?_ 3 _ rfl; (with_reducible repeat (first|refine zN ?_ _|refine zD ?_|refine zA ?_ _)); refine blk_put (cs := #[.int .i64 0, .int .i64 0, .string (⟨#[]⟩ : ByteArray), .slice none 0 0]) ?_ 2 _ rfl; (with_reducible repeat (first|refine zN ?_ _|refine zD ?_|refine zA ?_ _)); refine blk_put (cs := #[.int .i64 0, .int .i64 0, .string (⟨#[]⟩ : ByteArray), .slice none 0 0]) ?_ 1 _ rfl; (with_reducible repeat (first|refine zN ?_ _|refine zD ?_|refine zA ?_ _)); refine blk_put (cs := #[.int .i64 0, .int .i64 0, .string (⟨#[]⟩ : ByteArray), .slice none 0 0]) ?_ 0 _ rfl; (with_reducible repeat (first|refine zN ?_ _|refine zD ?_|refine zA ?_ _)); exact BK246.out) Tryd.underlying49 rfl (by kernel_rfl)) rfl ?_
    exact ⟨_, by first | rfl | (simp [errW_none, errW_some] <;> rfl) | (simp [*, errW_none, errW_some] <;> rfl), by first | exact Kd.R_nil _ _ _ _ _ | exact Kd.N_nil _ _ _ _ _ | exact Kd.V_nil _ _ _ _ _ | exact Kd.Q_nil _ _ _ _ _ | exact Kd.S_nil _ _ _ _ _, by repeat (first | (with_reducible first|exact HB.out|apply zE|apply zB|apply zC | refine zJ ?_ GE245.out | refine zJ ?_ GE246.out) | exact HB.out)⟩
  · rw [if_neg c5] at H
    have c5b0 : decide (t247 < 0) = false := decide_eq_false c5
    clear c5
    by_cases c12 : 0 ≤ t247
    · rw [if_pos c12] at H
      have c12b0 : decide (0 ≤ t247) = true := decide_eq_true c12
      clear c12
      by_cases c13 : t247 < (l0_0.length : Int)
      · rw [if_pos c13] at H
        have c13b0 : decide (t247 < (l0_0.length : Int)) = true := decide_eq_true c13
        clear c13
        by_cases c14 : a2.toList = ([107, 101, 121] : List UInt8)
        · rw [if_pos c14] at H
          have c14b0 : (a2.toList == ([107, 101, 121] : List UInt8)) = true := beq_iff_eq.mpr c14
          have c14b1 : (a2.toList != ([107, 101, 121] : List UInt8)) = false := bne_eq_false_iff_eq.mpr c14
          clear c14
          simp only [Option.some.injEq, Prod.mk.injEq] at H
          obtain ⟨rfl, rfl, rfl, rfl, rfl⟩ := H
          go_enter Tryd.func51, Tryd.ntmps51
          go_wp2_with (first | ((with_reducible refine gate_dst (N := 3) rfl ?_); refine box_event ?hg (N := 3) ?hd (cs := #[.slice A0_0 l0_0.length c0_0]) (t := 58) ?hr ?_; (case hd => rfl); (case hg => rfl); (case hr => first | (go_simp; done) | (go_simp; rfl)); intro gb245 hg w15 hbox hb; have n0_ := Aside0.mk (below_step (by repeat (first | (with_reducible first|exact HB.out|apply zE|apply zB|apply zC) | exact HB.out)) hb); have n1_ := Aside0.mk (hbox); have n2_ := Aside0.mk ((by rw [hg]; exact (below_size (by repeat (first | (with_reducible first|exact HB.out|apply zE|apply zB|apply zC) | exact HB.out))) : w.heap.size ≤ gb245)); have n3_ := Aside0.mk ((by rw [hg]; exact (below_size (by repeat (first | (with_reducible first|exact HB.out|apply zE|apply zB|apply zC) | exact HB.out))) : w.heap.size ≤ gb245)); clear HB; have HB := n0_; have BK245 := n1_; have GW245 := n2_; have GE245 := n3_; clear n0_ n1_ n2_ n3_ hb hbox hg) | ((with_reducible refine gate_dst (N := 6) rfl ?_); refine box_event ?hg (N := 6) ?hd (cs := #[.int .i64 0, .int .i64 0, .string (⟨#[]⟩ : ByteArray), .slice none 0 0]) (t := 49) ?hr ?_; (case hd => rfl); (case hg => rfl); (case hr => first | (go_simp; done) | (go_simp; rfl)); intro gb246 hg w16 hbox hb; have n0_ := Aside0.mk (blk_below (g := gb245) (o := .cells #[.slice A0_0 l0_0.length c0_0] 58 (0, 0)) (by (with_reducible repeat (first|refine zN ?_ _|refine zD ?_|refine zA ?_ _)); exact BK245.out) hb); have n1_ := Aside0.mk (below_step (by repeat (first | (with_reducible first|exact HB.out|apply zE|apply zB|apply zC | refine zJ ?_ GE245.out) | exact HB.out)) hb); have n2_ := Aside0.mk (hbox); have n3_ := Aside0.mk ((by rw [hg]; exact (below_size (by repeat (first | (with_reducible first|exact HB.out|apply zE|apply zB|apply zC | refine zJ ?_ GE245.out) | exact HB.out))) : w.heap.size ≤ gb246)); have n4_ := Aside0.mk ((by rw [hg]; exact (below_size (by repeat (first | (with_reducible first|exact HB.out|apply zE|apply zB|apply zC | refine zJ ?_ GE245.out) | exact HB.out))) : w.heap.size ≤ gb246)); have n5_ := Aside0.mk ((by rw [hg]; exact Nat.ne_of_lt (blk_lt (g := gb245) (o := .cells #[.slice A0_0 l0_0.length c0_0] 58 (0, 0)) (by (with_reducible repeat (first|refine zN ?_ _|refine zD ?_|refine zA ?_ _)); exact BK245.out)) : gb245 ≠ gb246)); have n6_ := Aside0.mk ((by rw [hg]; exact Nat.ne_of_gt (blk_lt (g := gb245) (o := .cells #[.slice A0_0 l0_0.length c0_0] 58 (0, 0)) (by (with_reducible repeat (first|refine zN ?_ _|refine zD ?_|refine zA ?_ _)); exact BK245.out)) : gb246 ≠ gb245)); clear BK245 HB; have BK245 := n0_; have HB := n1_; have BK246 := n2_; have GW246 := n3_; have GE246 := n4_; have NB245_246 := n5_; have NB246_245 := n6_; clear n0_ n1_ n2_ n3_ n4_ n5_ n6_ hb hbox hg; have hnb17 := NB245_246.out; have hnc17 := NB246_245.out; have hcz18_0 : w16.cell? ⟨gb245, 0, none⟩ = some (.slice A0_0 l0_0.length c0_0) := (blk_cell BK245.out 0).trans rfl; have hfz18_0 := blk_frozen BK245.out 0) | ((with_reducible refine gate_callee (f := 62) rfl ?_); refine goesL_ (some 14) rfl rfl Tryd.func62 (by kernel_rfl) rfl #[.agg #[.slice A0_0 l0_0.length c0_0], .string a1] rfl (by (try simp only [List.map_toArray, List.map_cons, List.map_nil]); first | done | rfl | (simp only [List.length_drop, List.length_take]; rfl)) ?_; (with_reducible refine (subject_index.calls _ _ l0_0 a1 t247 _ ?side1 ?side2 A4.out).mono ?_); (case side1 => repeat (first | exact (Kd.C_below HR0_0.out HB.out) | (with_reducible refine Kd.C_alloc ?_ _) | (with_reducible refine Kd.C_drewN ?_ _) | (with_reducible refine Kd.C_drew ?_))); (case side2 => exact HC0_0.out); rintro e w19 ⟨rfl, hb⟩; refine ⟨_, rfl, ?_⟩; have n0_ := Aside0.mk (blk_below (g := gb245) (o := .cells #[.slice A0_0 l0_0.length c0_0] 58 (0, 0)) (by (with_reducible repeat (first|refine zN ?_ _|refine zD ?_|refine zA ?_ _)); exact BK245.out) hb); have n1_ := Aside0.mk (blk_below (g := gb246) (o := .cells #[.int .i64 0, .int .i64 0, .string (⟨#[]⟩ : ByteArray), .slice none 0 0] 49 (0, 0)) (by (with_reducible repeat (first|refine zN ?_ _|refine zD ?_|refine zA ?_ _)); exact BK246.out) hb); have n2_ := Aside0.mk (below_step (by repeat (first | (with_reducible first|exact HB.out|apply zE|apply zB|apply zC | refine zJ ?_ GE245.out | refine zJ ?_ GE246.out) | exact HB.out)) hb); clear BK245 BK246 HB; have BK245 := n0_; have BK246 := n1_; have HB := n2_; clear n0_ n1_ n2_; (try clear hb); (try clear hb2); (try clear hk); (try clear hi); (try clear hge); have hcz20_0 : w19.cell? ⟨gb245, 0, none⟩ = some (.slice A0_0 l0_0.length c0_0) := (blk_cell BK245.out 0).trans rfl; have hfz20_0 := blk_frozen BK245.out 0; have p248 : 0 ≤ (t247 : Int) := of_decide_eq_true (by first | (with_reducible assumption) | assumption); have q248 : t247 < (l0_0.length : Int) := of_decide_eq_true (by first | (with_reducible assumption) | assumption); obtain ⟨ad248, A248_2, c248_2, e248, hx248_0, hx248_1, hx248_2, hl248_2, hi248_2⟩ := at_T85 HR0_0.out t247 p248 q248; cases e248; replace hx248_0 := (HB.out.cell (World.block_lt_of_cell? w _ hx248_0)).trans hx248_0; replace hx248_1 := (HB.out.cell (World.block_lt_of_cell? w _ hx248_1)).trans hx248_1; replace hx248_2 := (HB.out.cell (World.block_lt_of_cell? w _ hx248_2)).trans hx248_2; have HR248_2 := Aside0.mk hi248_2; have HC248_2 := Aside0.mk hl248_2; clear hi248_2 hl248_2; replace p248 := eq_true p248; replace q248 := eq_true q248) | ((with_reducible refine gate_dst (N := 9) rfl ?_); refine box_event ?hg (N := 9) ?hd (cs := #[.string (⟨#[]⟩ : ByteArray), .string (⟨#[]⟩ : ByteArray), .slice none 0 0]) (t := 85) ?hr ?_; (case hd => rfl); (case hg => rfl); (case hr => first | (go_simp; done) | (go_simp; rfl)); intro gb249 hg w21 hbox hb; have n0_ := Aside0.mk (blk_below (g := gb245) (o := .cells #[.slice (some ad248) l0_0.length c0_0] 58 (0, 0)) (by (with_reducible repeat (first|refine zN ?_ _|refine zD ?_|refine zA ?_ _)); exact BK245.out) hb); have n1_ := Aside0.mk (blk_below (g := gb246) (o := .cells #[.int .i64 0, .int .i64 0, .string (⟨#[]⟩ : ByteArray), .slice none 0 0] 49 (0, 0)) (by (with_reducible repeat (first|refine zN ?_ _|refine zD ?_|refine zA ?_ _)); exact BK246.out) hb); have n2_ := Aside0.mk (below_step (by repeat (first | (with_reducible first|exact HB.out|apply zE|apply zB|apply zC | refine zJ ?_ GE245.out | refine zJ ?_ GE246.out) | exact HB.out)) hb); have n3_ := Aside0.mk (hbox); have n4_ := Aside0.mk ((by rw [hg]; exact (below_size (by repeat (first | (with_reducible first|exact HB.out|apply zE|apply zB|apply zC | refine zJ ?_ GE245.out | refine zJ ?_ GE246.out) | exact HB.out))) : w.heap.size ≤ gb249)); have n5_ := Aside0.mk ((by rw [hg]; exact (below_size (by repeat (first | (with_reducible first|exact HB.out|apply zE|apply zB|apply zC | refine zJ ?_ GE245.out | refine zJ ?_ GE246.out) | exact HB.out))) : w.heap.size ≤ gb249)); have n6_ := Aside0.mk ((by rw [hg]; exact Nat.ne_of_lt (blk_lt (g := gb245) (o := .cells #[.slice (some ad248) l0_0.length c0_0] 58 (0, 0)) (by (with_reducible repeat (first|refine zN ?_ _|refine zD ?_|refine zA ?_ _)); exact BK245.out)) : gb245 ≠ gb249)); have n7_ := Aside0.mk ((by rw [hg]; exact Nat.ne_of_gt (blk_lt (g := gb245) (o := .cells #[.slice (some ad248) l0_0.length c0_0] 58 (0, 0)) (by (with_reducible repeat (first|refine zN ?_ _|refine zD ?_|refine zA ?_ _)); exact BK245.out)) : gb249 ≠ gb245)); have n8_ := Aside0.mk ((by rw [hg]; exact Nat.ne_of_lt (blk_lt (g := gb246) (o := .cells #[.int .i64 0, .int .i64 0, .string (⟨#[]⟩ : ByteArray), .slice none 0 0] 49 (0, 0)) (by (with_reducible repeat (first|refine zN ?_ _|refine zD ?_|refine zA ?_ _)); exact BK246.out)) : gb246 ≠ gb249)); have n9_ := Aside0.mk ((by rw [hg]; exact Nat.ne_of_gt (blk_lt (g := gb246) (o := .cells #[.int .i64 0, .int .i64 0, .string (⟨#[]⟩ : ByteArray), .slice none 0 0] 49 (0, 0)) (by (with_reducible repeat (first|refine zN ?_ _|refine zD ?_|refine zA ?_ _)); exact BK246.out)) : gb249 ≠ gb246)); clear BK245 BK246 HB; have BK245 := n0_; have BK246 := n1_; have HB := n2_; have BK249 := n3_; have GW249 := n4_; have GE249 := n5_; have NB245_249 := n6_; have NB249_245 := n7_; have NB246_249 := n8_; have NB249_246 := n9_; clear n0_ n1_ n2_ n3_ n4_ n5_ n6_ n7_ n8_ n9_ hb hbox hg; have hnb22 := NB249_245.out; have hnc22 := NB245_249.out; have hnb23 := NB249_246.out; have hnc23 := NB246_249.out; have hcz24_0 : w21.cell? ⟨gb249, 0, none⟩ = some (.string (⟨#[]⟩ : ByteArray)) := (blk_cell BK249.out 0).trans rfl; have hcz24_1 : w21.cell? ⟨gb249, 1, none⟩ = some (.string (⟨#[]⟩ : ByteArray)) := (blk_cell BK249.out 1).trans rfl; have hcz24_2 : w21.cell? ⟨gb249, 2, none⟩ = some (.slice none 0 0) := (blk_cell BK249.out 2).trans rfl; have hfz24_0 := blk_frozen BK249.out 0; have hfz24_1 := blk_frozen BK249.out 1; have hfz24_2 := blk_frozen BK249.out 2; have hcz25_0 : w21.cell? ⟨gb246, 0, none⟩ = some (.int .i64 0) := (blk_cell BK246.out 0).trans rfl; have hcz25_1 : w21.cell? ⟨gb246, 1, none⟩ = some (.int .i64 0) := (blk_cell BK246.out 1).trans rfl; have hcz25_2 : w21.cell? ⟨gb246, 2, none⟩ = some (.string (⟨#[]⟩ : ByteArray)) := (blk_cell BK246.out 2).trans rfl; have hcz25_3 : w21.cell? ⟨gb246, 3, none⟩ = some (.slice none 0 0) := (blk_cell BK246.out 3).trans rfl; have hfz25_0 := blk_frozen BK246.out 0; have hfz25_1 := blk_frozen BK246.out 1; have hfz25_2 := blk_frozen BK246.out 2; have hfz25_3 := blk_frozen BK246.out 3))
          refine bodyPost_ret (results_ct rfl _ _ gb246 49 #[.int .i64 3, .int .i64 0, .string ((rd_T85 l0_0 t247).f1), .slice none 0 0] (0, 0) _ rfl (by (with_reducible repeat (first|refine zN ?_ _|refine zD ?_|refine zA ?_ _)); refine blk_put (cs := #[.int .i64 3, .int .i64 0, .string ((rd_T85 l0_0 t247).f1), .slice none 0 0]) ?_ 3 _ rfl; (with_reducible repeat (first|refine zN ?_ _|refine zD ?_|refine zA ?_ _)); refine blk_put (cs := #[.int .i64 3, .int .i64 0, .string (⟨#[]⟩ : ByteArray), .slice none 0 0]) ?_ 2 _ rfl; (with_reducible repeat (first|refine zN ?_ _|refine zD ?_|refine zA ?_ _)); refine blk_put (cs := #[.int .i64 3, .int .i64 0, .string (⟨#[]⟩ : ByteArray), .slice none 0 0]) ?_ 1 _ rfl; (with_reducible repeat (first|refine zN ?_ _|refine zD ?_|refine zA ?_ _)); refine blk_put (cs := #[.int .i64 0, .int .i64 0, .string (⟨#[]⟩ : ByteArray), .slice none 0 0]) ?_ 0 _ rfl; (with_reducible repeat (first|refine zN ?_ _|refine zD ?_|refine zA ?_ _)); refine blk_far ?_ NB246_249.out _; (with_reducible repeat (first|refine zN ?_ _|refine zD ?_|refine zA ?_ _)); refine blk_far ?_ NB246_249.out _; (with_reducible repeat (first|refine zN ?_ _|refine zD ?_|refine zA ?_ _)); refine blk_far ?_ NB246_249.out _; (with_reducible repeat (first|refine zN ?_ _|refine zD ?_|refine zA ?_ _)); exact BK246.out) Tryd.underlying49 rfl (by kernel_rfl)) rfl ?_
          exact ⟨_, by first | rfl | (simp [errW_none, errW_some] <;> rfl) | (simp [*, errW_none, errW_some] <;> rfl), by first | exact Kd.R_nil _ _ _ _ _ | exact Kd.N_nil _ _ _ _ _ | exact Kd.V_nil _ _ _ _ _ | exact Kd.Q_nil _ _ _ _ _ | exact Kd.S_nil _ _ _ _ _, by repeat (first | (with_reducible first|exact HB.out|apply zE|apply zB|apply zC | refine zJ ?_ GE245.out | refine zJ ?_ GE246.out | refine zJ ?_ GE249.out) | exact HB.out)⟩
        · rw [if_neg c14] at H
          have c14b0 : (a2.toList == ([107, 101, 121] : List UInt8)) = false := beq_eq_false_iff_ne.mpr c14
          have c14b1 : (a2.toList != ([107, 101, 121] : List UInt8)) = true := bne_iff_ne.mpr c14
          have H' := Aside0.mk H; clear H
          go_enter Tryd.func51, Tryd.ntmps51
          go_wp2_with (first | ((with_reducible refine gate_dst (N := 3) rfl ?_); refine box_event ?hg (N := 3) ?hd (cs := #[.slice A0_0 l0_0.length c0_0]) (t := 58) ?hr ?_; (case hd => rfl); (case hg => rfl); (case hr => first | (go_simp; done) | (go_simp; rfl)); intro gb245 hg w26 hbox hb; have n0_ := Aside0.mk (below_step (by repeat (first | (with_reducible first|exact HB.out|apply zE|apply zB|apply zC) | exact HB.out)) hb); have n1_ := Aside0.mk (hbox); have n2_ := Aside0.mk ((by rw [hg]; exact (below_size (by repeat (first | (with_reducible first|exact HB.out|apply zE|apply zB|apply zC) | exact HB.out))) : w.heap.size ≤ gb245)); have n3_ := Aside0.mk ((by rw [hg]; exact (below_size (by repeat (first | (with_reducible first|exact HB.out|apply zE|apply zB|apply zC) | exact HB.out))) : w.heap.size ≤ gb245)); clear HB; have HB := n0_; have BK245 := n1_; have GW245 := n2_; have GE245 := n3_; clear n0_ n1_ n2_ n3_ hb hbox hg) | ((with_reducible refine gate_dst (N := 6) rfl ?_); refine box_event ?hg (N := 6) ?hd (cs := #[.int .i64 0, .int .i64 0, .string (⟨#[]⟩ : ByteArray), .slice none 0 0]) (t := 49) ?hr ?_; (case hd => rfl); (case hg => rfl); (case hr => first | (go_simp; done) | (go_simp; rfl)); intro gb246 hg w27 hbox hb; have n0_ := Aside0.mk (blk_below (g := gb245) (o := .cells #[.slice A0_0 l0_0.length c0_0] 58 (0, 0)) (by (with_reducible repeat (first|refine zN ?_ _|refine zD ?_|refine zA ?_ _)); exact BK245.out) hb); have n1_ := Aside0.mk (below_step (by repeat (first | (with_reducible first|exact HB.out|apply zE|apply zB|apply zC | refine zJ ?_ GE245.out) | exact HB.out)) hb); have n2_ := Aside0.mk (hbox); have n3_ := Aside0.mk ((by rw [hg]; exact (below_size (by repeat (first | (with_reducible first|exact HB.out|apply zE|apply zB|apply zC | refine zJ ?_ GE245.out) | exact HB.out))) : w.heap.size ≤ gb246)); have n4_ := Aside0.mk ((by rw [hg]; exact (below_size (by repeat (first | (with_reducible first|exact HB.out|apply zE|apply zB|apply zC | refine zJ ?_ GE245.out) | exact HB.out))) : w.heap.size ≤ gb246)); have n5_ := Aside0.mk ((by rw [hg]; exact Nat.ne_of_lt (blk_lt (g := gb245) (o := .cells #[.slice A0_0 l0_0.length c0_0] 58 (0, 0)) (by (with_reducible repeat (first|refine zN ?_ _|refine zD ?_|refine zA ?_ _)); exact BK245.out)) : gb245 ≠ gb246)); have n6_ := Aside0.mk ((by rw [hg]; exact Nat.ne_of_gt (blk_lt (g := gb245) (o := .cells #[.slice A0_0 l0_0.length c0_0] 58 (0, 0)) (by (with_reducible repeat (first|refine zN ?_ _|refine zD ?_|refine zA ?_ _)); exact BK245.out)) : gb246 ≠ gb245)); clear BK245 HB; have BK245 := n0_; have HB := n1_; have BK246 := n2_; have GW246 := n3_; have GE246 := n4_; have NB245_246 := n5_; have NB246_245 := n6_; clear n0_ n1_ n2_ n3_ n4_ n5_ n6_ hb hbox hg; have hnb28 := NB245_246.out; have hnc28 := NB246_245.out; have hcz29_0 : w27.cell? ⟨gb245, 0, none⟩ = some (.slice A0_0 l0_0.length c0_0) := (blk_cell BK245.out 0).trans rfl; have hfz29_0 := blk_frozen BK245.out 0) | ((with_reducible refine gate_callee (f := 62) rfl ?_); refine goesL_ (some 14) rfl rfl Tryd.func62 (by kernel_rfl) rfl #[.agg #[.slice A0_0 l0_0.length c0_0], .string a1] rfl (by (try simp only [List.map_toArray, List.map_cons, List.map_nil]); first | done | rfl | (simp only [List.length_drop, List.length_take]; rfl)) ?_; (with_reducible refine (subject_index.calls _ _ l0_0 a1 t247 _ ?side1 ?side2 A4.out).mono ?_); (case side1 => repeat (first | exact (Kd.C_below HR0_0.out HB.out) | (with_reducible refine Kd.C_alloc ?_ _) | (with_reducible refine Kd.C_drewN ?_ _) | (with_reducible refine Kd.C_drew ?_))); (case side2 => exact HC0_0.out); rintro e w30 ⟨rfl, hb⟩; refine ⟨_, rfl, ?_⟩; have n0_ := Aside0.mk (blk_below (g := gb245) (o := .cells #[.slice A0_0 l0_0.length c0_0] 58 (0, 0)) (by (with_reducible repeat (first|refine zN ?_ _|refine zD ?_|refine zA ?_ _)); exact BK245.out) hb); have n1_ := Aside0.mk (blk_below (g := gb246) (o := .cells #[.int .i64 0, .int .i64 0, .string (⟨#[]⟩ : ByteArray), .slice none 0 0] 49 (0, 0)) (by (with_reducible repeat (first|refine zN ?_ _|refine zD ?_|refine zA ?_ _)); exact BK246.out) hb); have n2_ := Aside0.mk (below_step (by repeat (first | (with_reducible first|exact HB.out|apply zE|apply zB|apply zC | refine zJ ?_ GE245.out | refine zJ ?_ GE246.out) | exact HB.out)) hb); clear BK245 BK246 HB; have BK245 := n0_; have BK246 := n1_; have HB := n2_; clear n0_ n1_ n2_; (try clear hb); (try clear hb2); (try clear hk); (try clear hi); (try clear hge); have hcz31_0 : w30.cell? ⟨gb245, 0, none⟩ = some (.slice A0_0 l0_0.length c0_0) := (blk_cell BK245.out 0).trans rfl; have hfz31_0 := blk_frozen BK245.out 0; have p248 : 0 ≤ (t247 : Int) := of_decide_eq_true (by first | (with_reducible assumption) | assumption); have q248 : t247 < (l0_0.length : Int) := of_decide_eq_true (by first | (with_reducible assumption) | assumption); obtain ⟨ad248, A248_2, c248_2, e248, hx248_0, hx248_1, hx248_2, hl248_2, hi248_2⟩ := at_T85 HR0_0.out t247 p248 q248; cases e248; replace hx248_0 := (HB.out.cell (World.block_lt_of_cell? w _ hx248_0)).trans hx248_0; replace hx248_1 := (HB.out.cell (World.block_lt_of_cell? w _ hx248_1)).trans hx248_1; replace hx248_2 := (HB.out.cell (World.block_lt_of_cell? w _ hx248_2)).trans hx248_2; have HR248_2 := Aside0.mk hi248_2; have HC248_2 := Aside0.mk hl248_2; clear hi248_2 hl248_2; replace p248 := eq_true p248; replace q248 := eq_true q248) | ((with_reducible refine gate_dst (N := 9) rfl ?_); refine box_event ?hg (N := 9) ?hd (cs := #[.string (⟨#[]⟩ : ByteArray), .string (⟨#[]⟩ : ByteArray), .slice none 0 0]) (t := 85) ?hr ?_; (case hd => rfl); (case hg => rfl); (case hr => first | (go_simp; done) | (go_simp; rfl)); intro gb249 hg w32 hbox hb; have n0_ := Aside0.mk (blk_below (g := gb245) (o := .cells #[.slice (some ad248) l0_0.length c0_0] 58 (0, 0)) (by (with_reducible repeat (first|refine zN ?_ _|refine zD ?_|refine zA ?_ _)); exact BK245.out) hb); have n1_ := Aside0.mk (blk_below (g := gb246) (o := .cells #[.int .i64 0, .int .i64 0, .string (⟨#[]⟩ : ByteArray), .slice none 0 0] 49 (0, 0)) (by (with_reducible repeat (first|refine zN ?_ _|refine zD ?_|refine zA ?_ _)); exact BK246.out) hb); have n2_ := Aside0.mk (below_step (by repeat (first | (with_reducible first|exact HB.out|apply zE|apply zB|apply zC | refine zJ ?_ GE245.out | refine zJ ?_ GE246.out) | exact HB.out)) hb); have n3_ := Aside0.mk (hbox); have n4_ := Aside0.mk ((by rw [hg]; exact (below_size (by repeat (first | (with_reducible first|exact HB.out|apply zE|apply zB|apply zC | refine zJ ?_ GE245.out | refine zJ ?_ GE246.out) | exact HB.out))) : w.heap.size ≤ gb249)); have n5_ := Aside0.mk ((by rw [hg]; exact (below_size (by repeat (first | (with_reducible first|exact HB.out|apply zE|apply zB|apply zC | refine zJ ?_ GE245.out | refine zJ ?_ GE246.out) | exact HB.out))) : w.heap.size ≤ gb249)); have n6_ := Aside0.mk ((by rw [hg]; exact Nat.ne_of_lt (blk_lt (g := gb245) (o := .cells #[.slice (some ad248) l0_0.length c0_0] 58 (0, 0)) (by (with_reducible repeat (first|refine zN ?_ _|refine zD ?_|refine zA ?_ _)); exact BK245.out)) : gb245 ≠ gb249)); have n7_ := Aside0.mk ((by rw [hg]; exact Nat.ne_of_gt (blk_lt (g := gb245) (o := .cells #[.slice (some ad248) l0_0.length c0_0] 58 (0, 0)) (by (with_reducible repeat (first|refine zN ?_ _|refine zD ?_|refine zA ?_ _)); exact BK245.out)) : gb249 ≠ gb245)); have n8_ := Aside0.mk ((by rw [hg]; exact Nat.ne_of_lt (blk_lt (g := gb246) (o := .cells #[.int .i64 0, .int .i64 0, .string (⟨#[]⟩ : ByteArray), .slice none 0 0] 49 (0, 0)) (by (with_reducible repeat (first|refine zN ?_ _|refine zD ?_|refine zA ?_ _)); exact BK246.out)) : gb246 ≠ gb249)); have n9_ := Aside0.mk ((by rw [hg]; exact Nat.ne_of_gt (blk_lt (g := gb246) (o := .cells #[.int .i64 0, .int .i64 0, .string (⟨#[]⟩ : ByteArray), .slice none 0 0] 49 (0, 0)) (by (with_reducible repeat (first|refine zN ?_ _|refine zD ?_|refine zA ?_ _)); exact BK246.out)) : gb249 ≠ gb246)); clear BK245 BK246 HB; have BK245 := n0_; have BK246 := n1_; have HB := n2_; have BK249 := n3_; have GW249 := n4_; have GE249 := n5_; have NB245_249 := n6_; have NB249_245 := n7_; have NB246_249 := n8_; have NB249_246 := n9_; clear n0_ n1_ n2_ n3_ n4_ n5_ n6_ n7_ n8_ n9_ hb hbox hg; have hnb33 := NB249_245.out; have hnc33 := NB245_249.out; have hnb34 := NB249_246.out; have hnc34 := NB246_249.out; have hcz35_0 : w32.cell? ⟨gb249, 0, none⟩ = some (.string (⟨#[]⟩ : ByteArray)) := (blk_cell BK249.out 0).trans rfl; have hcz35_1 : w32.cell? ⟨gb249, 1, none⟩ = some (.string (⟨#[]⟩ : ByteArray)) := (blk_cell BK249.out 1).trans rfl; have hcz35_2 : w32.cell? ⟨gb249, 2, none⟩ = some (.slice none 0 0) := (blk_cell BK249.out 2).trans rfl; have hfz35_0 := blk_frozen BK249.out 0; have hfz35_1 := blk_frozen BK249.out 1; have hfz35_2 := blk_frozen BK249.out 2))
          go_loopg [31] k (fun kq v31 w' => ∃ (x31_1 : Int) (x247000_1 : Int) (x247001_1 : Int) (x247002_1 : ByteArray), v31 = .int .i64 x31_1 ∧ Aside0 (subject_Lookup.l0 kq a2 ((rd_T85 l0_0 t247).f2) (((rd_T85 l0_0 t247).f2).length : Int) x31_1 = some (r1, r2, r3, r4, r5)) ∧ Aside0 (kq ≤ k) ∧ Aside0 (w'.heap[gb245]? = some (.cells #[(.slice (some ad248) l0_0.length c0_0)] 58 (0, 0))) ∧ Aside0 (w'.heap[gb246]? = some (.cells #[.int .i64 x247000_1, .int .i64 x247001_1, .string x247002_1, (.slice none 0 0)] 49 (0, 0))) ∧ Aside0 (w'.heap[gb249]? = some (.cells #[.string ((rd_T85 l0_0 t247).f0), .string ((rd_T85 l0_0 t247).f1), (.slice A248_2 ((rd_T85 l0_0 t247).f2).length c248_2)] 85 (0, 0))) ∧ Aside0 (Below w.heap.size w w'))
          case atStart => exact ⟨(0), (0), (0), ((⟨#[]⟩ : ByteArray)), (by first | rfl | (simp; done) | (simp [*]; done)), H', ⟨Nat.le_refl _⟩, ⟨by (with_reducible repeat (first|refine zN ?_ _|refine zD ?_|refine zA ?_ _)); refine blk_far ?_ NB245_249.out _; (with_reducible repeat (first|refine zN ?_ _|refine zD ?_|refine zA ?_ _)); refine blk_far ?_ NB245_249.out _; (with_reducible repeat (first|refine zN ?_ _|refine zD ?_|refine zA ?_ _)); refine blk_far ?_ NB245_249.out _; (with_reducible repeat (first|refine zN ?_ _|refine zD ?_|refine zA ?_ _)); exact BK245.out⟩, ⟨by (with_reducible repeat (first|refine zN ?_ _|refine zD ?_|refine zA ?_ _)); refine blk_far ?_ NB246_249.out _; (with_reducible repeat (first|refine zN ?_ _|refine zD ?_|refine zA ?_ _)); refine blk_far ?_ NB246_249.out _; (with_reducible repeat (first|refine zN ?_ _|refine zD ?_|refine zA ?_ _)); refine blk_far ?_ NB246_249.out _; (with_reducible repeat (first|refine zN ?_ _|refine zD ?_|refine zA ?_ _)); exact BK246.out⟩, ⟨by (with_reducible repeat (first|refine zN ?_ _|refine zD ?_|refine zA ?_ _)); refine blk_put (cs := #[.string ((rd_T85 l0_0 t247).f0), .string ((rd_T85 l0_0 t247).f1), .slice none 0 0]) ?_ 2 _ rfl; (with_reducible repeat (first|refine zN ?_ _|refine zD ?_|refine zA ?_ _)); refine blk_put (cs := #[.string ((rd_T85 l0_0 t247).f0), .string (⟨#[]⟩ : ByteArray), .slice none 0 0]) ?_ 1 _ rfl; (with_reducible repeat (first|refine zN ?_ _|refine zD ?_|refine zA ?_ _)); refine blk_put (cs := #[.string (⟨#[]⟩ : ByteArray), .string (⟨#[]⟩ : ByteArray), .slice none 0 0]) ?_ 0 _ rfl; (with_reducible repeat (first|refine zN ?_ _|refine zD ?_|refine zA ?_ _)); exact BK249.out⟩, ⟨by repeat (first | (with_reducible first|exact HB.out|apply zE|apply zB|apply zC | refine zJ ?_ GE245.out | refine zJ ?_ GE246.out | refine zJ ?_ GE249.out) | exact HB.out)⟩⟩
          case round =>
            clear H'; (try clear c1); (try clear c2); (try clear p2); (try clear q2); (try clear hx2); (try clear c3); (try clear c5); (try clear c5b0); (try clear c6); (try clear c8); (try clear c12); (try clear c12b0); (try clear c13); (try clear c13b0); (try clear c14); (try clear c14b0); (try clear c14b1); (try clear c17); (try clear c22); (try clear c23); (try clear c24); (try clear p24); (try clear q24); (try clear hx24); (try clear c28); (try clear c33); (try clear c34); (try clear hcz11_0); (try clear hcz11_1); (try clear hcz11_2); (try clear hcz11_3); (try clear hcz18_0); (try clear hcz20_0); (try clear hcz24_0); (try clear hcz24_1); (try clear hcz24_2); (try clear hcz25_0); (try clear hcz25_1); (try clear hcz25_2); (try clear hcz25_3); (try clear hcz29_0); (try clear hcz31_0); (try clear hcz35_0); (try clear hcz35_1); (try clear hcz35_2); (try clear hcz9_0); (try clear hfz11_0); (try clear hfz11_1); (try clear hfz11_2); (try clear hfz11_3); (try clear hfz18_0); (try clear hfz20_0); (try clear hfz24_0); (try clear hfz24_1); (try clear hfz24_2); (try clear hfz25_0); (try clear hfz25_1); (try clear hfz25_2); (try clear hfz25_3); (try clear hfz29_0); (try clear hfz31_0); (try clear hfz35_0); (try clear hfz35_1); (try clear hfz35_2); (try clear hfz9_0); (try clear hx248_0); (try clear hx248_1); (try clear hx248_2); (try clear p248); (try clear q248)
            obtain ⟨x31_1, x247000_1, x247001_1, x247002_1, rfl, HA, HK1, BK245, BK246, BK249, HB⟩ := hrel
            cases gk with
            | zero => exact absurd HA.out (by simp [subject_Lookup.l0])
            | succ k1 =>
              have H := HA.out; clear HA
              simp only [subject_Lookup.l0] at H
              by_cases c36 : x31_1 < (((rd_T85 l0_0 t247).f2).length : Int)
              · rw [if_pos c36] at H
                have c36b0 : decide (x31_1 < (((rd_T85 l0_0 t247).f2).length : Int)) = true := decide_eq_true c36
                clear c36
                by_cases c37 : 0 ≤ x31_1
                · rw [if_pos c37] at H
                  have c37b0 : decide (0 ≤ x31_1) = true := decide_eq_true c37
                  clear c37
                  by_cases c38 : x31_1 < (((rd_T85 l0_0 t247).f2).length : Int)
                  · rw [if_pos c38] at H
                    have c38b0 : decide (x31_1 < (((rd_T85 l0_0 t247).f2).length : Int)) = true := decide_eq_true c38
                    clear c38
                    by_cases c39 : ((rd_T98 ((rd_T85 l0_0 t247).f2) x31_1).f0).toList = a2.toList
                    · rw [if_pos c39] at H
                      have c39b0 : (((rd_T98 ((rd_T85 l0_0 t247).f2) x31_1).f0).toList == a2.toList) = true := beq_iff_eq.mpr c39
                      have c39b1 : (((rd_T98 ((rd_T85 l0_0 t247).f2) x31_1).f0).toList != a2.toList) = false := bne_eq_false_iff_eq.mpr c39
                      clear c39; replace H := Option.bind_eq_some_iff.mp H
                      obtain ⟨⟨t252, t253, t254, t255⟩, A400, H⟩ := H
                      replace H : (some (t252, t253, t254, t255, true)) = some (r1, r2, r3, r4, r5) := H
                      have A40 := Aside0.mk A400; clear A400
                      simp only [Option.some.injEq, Prod.mk.injEq] at H
                      obtain ⟨rfl, rfl, rfl, rfl, rfl⟩ := H
                      have p250 : 0 ≤ (x31_1 : Int) := of_decide_eq_true (by first | (with_reducible assumption) | assumption)
                      have q250 : x31_1 < (((rd_T85 l0_0 t247).f2).length : Int) := of_decide_eq_true (by first | (with_reducible assumption) | assumption)
                      obtain ⟨ad250, A250_4, c250_4, e250, hx250_0, hx250_1, hx250_2, hx250_3, hx250_4, hl250_4, hi250_4⟩ := at_T98 HR248_2.out x31_1 p250 q250
                      cases e250
                      replace hx250_0 := (HB.out.cell (World.block_lt_of_cell? w _ hx250_0)).trans hx250_0
                      replace hx250_1 := (HB.out.cell (World.block_lt_of_cell? w _ hx250_1)).trans hx250_1
                      replace hx250_2 := (HB.out.cell (World.block_lt_of_cell? w _ hx250_2)).trans hx250_2
                      replace hx250_3 := (HB.out.cell (World.block_lt_of_cell? w _ hx250_3)).trans hx250_3
                      replace hx250_4 := (HB.out.cell (World.block_lt_of_cell? w _ hx250_4)).trans hx250_4
                      have HR250_4 := Aside0.mk hi250_4; have HC250_4 := Aside0.mk hl250_4; clear hi250_4 hl250_4
                      replace p250 := eq_true p250
                      replace q250 := eq_true q250
                      go_wp2_with (first | ((with_reducible refine gate_dst (N := 11) rfl ?_); refine box_event ?hg (N := 11) ?hd (cs := #[.string (⟨#[]⟩ : ByteArray), .int .i64 0, .int .i64 0, .string (⟨#[]⟩ : ByteArray), .slice none 0 0]) (t := 98) ?hr ?_; (case hd => rfl); (case hg => rfl); (case hr => first | (go_simp; done) | (go_simp; rfl)); intro gb251 hg w41 hbox hb; have n0_ := Aside0.mk (blk_below (g := gb245) (o := .cells #[.slice (some ad248) l0_0.length c0_0] 58 (0, 0)) (by (with_reducible repeat (first|refine zN ?_ _|refine zD ?_|refine zA ?_ _)); exact BK245.out) hb); have n1_ := Aside0.mk (blk_below (g := gb246) (o := .cells #[.int .i64 x247000_1, .int .i64 x247001_1, .string x247002_1, .slice none 0 0] 49 (0, 0)) (by (with_reducible repeat (first|refine zN ?_ _|refine zD ?_|refine zA ?_ _)); exact BK246.out) hb); have n2_ := Aside0.mk (blk_below (g := gb249) (o := .cells #[.string ((rd_T85 l0_0 t247).f0), .string ((rd_T85 l0_0 t247).f1), .slice (some ad250) ((rd_T85 l0_0 t247).f2).length c248_2] 85 (0, 0)) (by (with_reducible repeat (first|refine zN ?_ _|refine zD ?_|refine zA ?_ _)); exact BK249.out) hb); have n3_ := Aside0.mk (below_step (by repeat (first | (with_reducible first|exact HB.out|apply zE|apply zB|apply zC | refine zJ ?_ GE245.out | refine zJ ?_ GE246.out | refine zJ ?_ GE249.out) | exact HB.out)) hb); have n4_ := Aside0.mk (hbox); have n5_ := Aside0.mk ((by rw [hg]; exact (below_size (by repeat (first | (with_reducible first|exact HB.out|apply zE|apply zB|apply zC | refine zJ ?_ GE245.out | refine zJ ?_ GE246.out | refine zJ ?_ GE249.out) | exact HB.out))) : w.heap.size ≤ gb251)); have n6_ := Aside0.mk ((by rw [hg]; exact (below_size (by repeat (first | (with_reducible first|exact HB.out|apply zE|apply zB|apply zC | refine zJ ?_ GE245.out | refine zJ ?_ GE246.out | refine zJ ?_ GE249.out) | exact HB.out))) : w.heap.size ≤ gb251)); have n7_ := Aside0.mk ((by rw [hg]; exact Nat.ne_of_lt (blk_lt (g := gb245) (o := .cells #[.slice (some ad248) l0_0.length c0_0] 58 (0, 0)) (by (with_reducible repeat (first|refine zN ?_ _|refine zD ?_|refine zA ?_ _)); exact BK245.out)) : gb245 ≠ gb251)); have n8_ := Aside0.mk ((by rw [hg]; exact Nat.ne_of_gt (blk_lt (g := gb245) (o := .cells #[.slice (some ad248) l0_0.length c0_0] 58 (0, 0)) (by (with_reducible repeat (first|refine zN ?_ _|refine zD ?_|refine zA ?_ _)); exact BK245.out)) : gb251 ≠ gb245)); have n9_ := Aside0.mk ((by rw [hg]; exact Nat.ne_of_lt (blk_lt (g := gb246) (o := .cells #[.int .i64 x247000_1, .int .i64 x247001_1, .string x247002_1, .slice none 0 0] 49 (0, 0)) (by (with_reducible repeat (first|refine zN ?_ _|refine zD ?_|refine zA ?_ _)); exact BK246.out)) : gb246 ≠ gb251)); have n10_ := Aside0.mk ((by rw [hg]; exact Nat.ne_of_gt (blk_lt (g := gb246) (o := .cells #[.int .i64 x247000_1, .int .i64 x247001_1, .string x247002_1, .slice none 0 0] 49 (0, 0)) (by (with_reducible repeat (first|refine zN ?_ _|refine zD ?_|refine zA ?_ _)); exact BK246.out)) : gb251 ≠ gb246)); have n11_ := Aside0.mk ((by rw [hg]; exact Nat.ne_of_lt (blk_lt (g := gb249) (o := .cells #[.string ((rd_T85 l0_0 t247).f0), .string ((rd_T85 l0_0 t247).f1), .slice (some ad250) ((rd_T85 l0_0 t247).f2).length c248_2] 85 (0, 0)) (by (with_reducible repeat (first|refine zN ?_ _|refine zD ?_|refine zA ?_ _)); exact BK249.out)) : gb249 ≠ gb251)); have n12_ := Aside0.mk ((by rw [hg]; exact Nat.ne_of_gt (blk_lt (g := gb249) (o := .cells #[.string ((rd_T85 l0_0 t247).f0), .string ((rd_T85 l0_0 t247).f1), .slice (some ad250) ((rd_T85 l0_0 t247).f2).length c248_2] 85 (0, 0)) (by (with_reducible repeat (first|refine zN ?_ _|refine zD ?_|refine zA ?_ _)); exact BK249.out)) : gb251 ≠ gb249)); clear BK245 BK246 BK249 HB; have BK245 := n0_; have BK246 := n1_; have BK249 := n2_; have HB := n3_; have BK251 := n4_; have GW251 := n5_; have GE251 := n6_; have NB245_251 := n7_; have NB251_245 := n8_; have NB246_251 := n9_; have NB251_246 := n10_; have NB249_251 := n11_; have NB251_249 := n12_; clear n0_ n1_ n2_ n3_ n4_ n5_ n6_ n7_ n8_ n9_ n10_ n11_ n12_ hb hbox hg; have hnb42 := NB251_245.out; have hnc42 := NB245_251.out; have hnb43 := NB251_246.out; have hnc43 := NB246_251.out; have hnb44 := NB251_249.out; have hnc44 := NB249_251.out; have hcz45_0 : w41.cell? ⟨gb251, 0, none⟩ = some (.string (⟨#[]⟩ : ByteArray)) := (blk_cell BK251.out 0).trans rfl; have hcz45_1 : w41.cell? ⟨gb251, 1, none⟩ = some (.int .i64 0) := (blk_cell BK251.out 1).trans rfl; have hcz45_2 : w41.cell? ⟨gb251, 2, none⟩ = some (.int .i64 0) := (blk_cell BK251.out 2).trans rfl; have hcz45_3 : w41.cell? ⟨gb251, 3, none⟩ = some (.string (⟨#[]⟩ : ByteArray)) := (blk_cell BK251.out 3).trans rfl; have hcz45_4 : w41.cell? ⟨gb251, 4, none⟩ = some (.slice none 0 0) := (blk_cell BK251.out 4).trans rfl; have hfz45_0 := blk_frozen BK251.out 0; have hfz45_1 := blk_frozen BK251.out 1; have hfz45_2 := blk_frozen BK251.out 2; have hfz45_3 := blk_frozen BK251.out 3; have hfz45_4 := blk_frozen BK251.out 4) | ((with_reducible refine gate_callee (f := 63) rfl ?_); refine goesL_ (some 41) rfl rfl Tryd.func63 (by kernel_rfl) rfl #[.agg #[.int .i64 ((rd_T98 ((rd_T85 l0_0 t247).f2) x31_1).f1.f0), .int .i64 ((rd_T98 ((rd_T85 l0_0 t247).f2) x31_1).f1.f1), .string ((rd_T98 ((rd_T85 l0_0 t247).f2) x31_1).f1.f2), .slice A250_4 ((rd_T98 ((rd_T85 l0_0 t247).f2) x31_1).f1.f3).length c250_4]] rfl (by (try simp only [List.map_toArray, List.map_cons, List.map_nil]); first | done | rfl | (simp only [List.length_drop, List.length_take]; rfl)) ?_; (with_reducible refine (clone_Value.calls ((rd_T98 ((rd_T85 l0_0 t247).f2) x31_1).f1.f0) ((rd_T98 ((rd_T85 l0_0 t247).f2) x31_1).f1.f1) ((rd_T98 ((rd_T85 l0_0 t247).f2) x31_1).f1.f2) _ _ ((rd_T98 ((rd_T85 l0_0 t247).f2) x31_1).f1.f3) t252 t253 t254 t255 _ ?side1 ?side2 A40.out).mono ?_); (case side1 => exact Kd.C_below HR250_4.out (by repeat (first | (with_reducible first|exact HB.out|apply zE|apply zB|apply zC | refine zJ ?_ GE245.out | refine zJ ?_ GE246.out | refine zJ ?_ GE249.out | refine zJ ?_ GE251.out) | exact HB.out))); (case side2 => exact HC250_4.out); rintro e w46 ⟨v256, rfl, ho0, hb⟩; refine ⟨_, rfl, ?_⟩; have n0_ := Aside0.mk (Kd.R_lower ho0 (below_size (by repeat (first | (with_reducible first|exact HB.out|apply zE|apply zB|apply zC | refine zJ ?_ GE245.out | refine zJ ?_ GE246.out | refine zJ ?_ GE249.out | refine zJ ?_ GE251.out) | exact HB.out)))); have n1_ := Aside0.mk (blk_below (g := gb245) (o := .cells #[.slice (some ad248) l0_0.length c0_0] 58 (0, 0)) (by (with_reducible repeat (first|refine zN ?_ _|refine zD ?_|refine zA ?_ _)); refine blk_far ?_ NB245_251.out _; (with_reducible repeat (first|refine zN ?_ _|refine zD ?_|refine zA ?_ _)); refine blk_far ?_ NB245_251.out _; (with_reducible repeat (first|refine zN ?_ _|refine zD ?_|refine zA ?_ _)); refine blk_far ?_ NB245_251.out _; (with_reducible repeat (first|refine zN ?_ _|refine zD ?_|refine zA ?_ _)); refine blk_far ?_ NB245_251.out _; (with_reducible repeat (first|refine zN ?_ _|refine zD ?_|refine zA ?_ _)); refine blk_far ?_ NB245_251.out _; (with_reducible repeat (first|refine zN ?_ _|refine zD ?_|refine zA ?_ _)); exact BK245.out) hb); have n2_ := Aside0.mk (blk_below (g := gb246) (o := .cells #[.int .i64 x247000_1, .int .i64 x247001_1, .string x247002_1, .slice none 0 0] 49 (0, 0)) (by (with_reducible repeat (first|refine zN ?_ _|refine zD ?_|refine zA ?_ _)); refine blk_far ?_ NB246_251.out _; (with_reducible repeat (first|refine zN ?_ _|refine zD ?_|refine zA ?_ _)); refine blk_far ?_ NB246_251.out _; (with_reducible repeat (first|refine zN ?_ _|refine zD ?_|refine zA ?_ _)); refine blk_far ?_ NB246_251.out _; (with_reducible repeat (first|refine zN ?_ _|refine zD ?_|refine zA ?_ _)); refine blk_far ?_ NB246_251.out _; (with_reducible repeat (first|refine zN ?_ _|refine zD ?_|refine zA ?_ _)); refine blk_far ?_ NB246_251.out _; (with_reducible repeat (first|refine zN ?_ _|refine zD ?_|refine zA ?_ _)); exact BK246.out) hb); have n3_ := Aside0.mk (blk_below (g := gb249) (o := .cells #[.string ((rd_T85 l0_0 t247).f0), .string ((rd_T85 l0_0 t247).f1), .slice (some ad250) ((rd_T85 l0_0 t247).f2).length c248_2] 85 (0, 0)) (by (with_reducible repeat (first|refine zN ?_ _|refine zD ?_|refine zA ?_ _)); refine blk_far ?_ NB249_251.out _; (with_reducible repeat (first|refine zN ?_ _|refine zD ?_|refine zA ?_ _)); refine blk_far ?_ NB249_251.out _; (with_reducible repeat (first|refine zN ?_ _|refine zD ?_|refine zA ?_ _)); refine blk_far ?_ NB249_251.out _; (with_reducible repeat (first|refine zN ?_ _|refine zD ?_|refine zA ?_ _)); refine blk_far ?_ NB249_251.out _; (with_reducible repeat (first|refine zN ?_ _|refine zD ?_|refine zA ?_ _)); refine blk_far ?_ NB249_251.out _; (with_reducible repeat (first|refine zN ?_ _|refine zD ?_|refine zA ?_ _)); exact BK249.out) hb); have n4_ := Aside0.mk (blk_below (g := gb251) (o := .cells #[.string ((rd_T98 ((rd_T85 l0_0 t247).f2) x31_1).f0), .int .i64 ((rd_T98 ((rd_T85 l0_0 t247).f2) x31_1).f1.f0), .int .i64 ((rd_T98 ((rd_T85 l0_0 t247).f2) x31_1).f1.f1), .string ((rd_T98 ((rd_T85 l0_0 t247).f2) x31_1).f1.f2), .slice A250_4 ((rd_T98 ((rd_T85 l0_0 t247).f2) x31_1).f1.f3).length c250_4] 98 (0, 0)) (by (with_reducible repeat (first|refine zN ?_ _|refine zD ?_|refine zA ?_ _)); refine blk_put (cs := #[.string ((rd_T98 ((rd_T85 l0_0 t247).f2) x31_1).f0), .int .i64 ((rd_T98 ((rd_T85 l0_0 t247).f2) x31_1).f1.f0), .int .i64 ((rd_T98 ((rd_T85 l0_0 t247).f2) x31_1).f1.f1), .string ((rd_T98 ((rd_T85 l0_0 t247).f2) x31_1).f1.f2), .slice none 0 0]) ?_ 4 _ rfl; (with_reducible repeat (first|refine zN ?_ _|refine zD ?_|refine zA ?_ _)); refine blk_put (cs := #[.string ((rd_T98 ((rd_T85 l0_0 t247).f2) x31_1).f0), .int .i64 ((rd_T98 ((rd_T85 l0_0 t247).f2) x31_1).f1.f0), .int .i64 ((rd_T98 ((rd_T85 l0_0 t247).f2) x31_1).f1.f1), .string (⟨#[]⟩ : ByteArray), .slice none 0 0]) ?_ 3 _ rfl; (with_reducible repeat (first|refine zN ?_ _|refine zD ?_|refine zA ?_ _)); refine blk_put (cs := #[.string ((rd_T98 ((rd_T85 l0_0 t247).f2) x31_1).f0), .int .i64 ((rd_T98 ((rd_T85 l0_0 t247).f2) x31_1).f1.f0), .int .i64 0, .string (⟨#[]⟩ : ByteArray), .slice none 0 0]) ?_ 2 _ rfl; (with_reducible repeat (first|refine zN ?_ _|refine zD ?_|refine zA ?_ _)); refine blk_put (cs := #[.string ((rd_T98 ((rd_T85 l0_0 t247).f2) x31_1).f0), .int .i64 0, .int .i64 0, .string (⟨#[]⟩ : ByteArray), .slice none 0 0]) ?_ 1 _ rfl; (with_reducible repeat (first|refine zN ?_ _|refine zD ?_|refine zA ?_ _)); refine blk_put (cs := #[.string (⟨#[]⟩ : ByteArray), .int .i64 0, .int .i64 0, .string (⟨#[]⟩ : ByteArray), .slice none 0 0]) ?_ 0 _ rfl; (with_reducible repeat (first|refine zN ?_ _|refine zD ?_|refine zA ?_ _)); exact BK251.out) hb); have n5_ := Aside0.mk (below_step (by repeat (first | (with_reducible first|exact HB.out|apply zE|apply zB|apply zC | refine zJ ?_ GE245.out | refine zJ ?_ GE246.out | refine zJ ?_ GE249.out | refine zJ ?_ GE251.out) | exact HB.out)) hb); clear BK245 BK246 BK249 BK251 HB; have HO257 := n0_; have BK245 := n1_; have BK246 := n2_; have BK249 := n3_; have BK251 := n4_; have HB := n5_; clear n0_ n1_ n2_ n3_ n4_ n5_; (try clear hb); (try clear hb2); (try clear hk); (try clear hi); (try clear hge); (try clear ho0); have hnb47 := NB246_245.out; have hnc47 := NB245_246.out; have hnb48 := NB246_249.out; have hnc48 := NB249_246.out; have hcz49_0 : w46.cell? ⟨gb246, 0, none⟩ = some (.int .i64 x247000_1) := (blk_cell BK246.out 0).trans rfl; have hcz49_1 : w46.cell? ⟨gb246, 1, none⟩ = some (.int .i64 x247001_1) := (blk_cell BK246.out 1).trans rfl; have hcz49_2 : w46.cell? ⟨gb246, 2, none⟩ = some (.string x247002_1) := (blk_cell BK246.out 2).trans rfl; have hcz49_3 : w46.cell? ⟨gb246, 3, none⟩ = some (.slice none 0 0) := (blk_cell BK246.out 3).trans rfl; have hfz49_0 := blk_frozen BK246.out 0; have hfz49_1 := blk_frozen BK246.out 1; have hfz49_2 := blk_frozen BK246.out 2; have hfz49_3 := blk_frozen BK246.out 3; obtain ⟨Ao50, co50, eo50⟩ := Kd.R_slice HO257.out; subst eo50))
                      refine bodyPost_ret (results_ct rfl _ _ gb246 49 #[.int .i64 t252, .int .i64 t253, .string t254, .slice Ao50 t255.length co50] (0, 0) _ rfl (by (with_reducible repeat (first|refine zN ?_ _|refine zD ?_|refine zA ?_ _)); refine blk_put (cs := #[.int .i64 t252, .int .i64 t253, .string t254, .slice none 0 0]) ?_ 3 _ rfl; (with_reducible repeat (first|refine zN ?_ _|refine zD ?_|refine zA ?_ _)); refine blk_put (cs := #[.int .i64 t252, .int .i64 t253, .string x247002_1, .slice none 0 0]) ?_ 2 _ rfl; (with_reducible repeat (first|refine zN ?_ _|refine zD ?_|refine zA ?_ _)); refine blk_put (cs := #[.int .i64 t252, .int .i64 x247001_1, .string x247002_1, .slice none 0 0]) ?_ 1 _ rfl; (with_reducible repeat (first|refine zN ?_ _|refine zD ?_|refine zA ?_ _)); refine blk_put (cs := #[.int .i64 x247000_1, .int .i64 x247001_1, .string x247002_1, .slice none 0 0]) ?_ 0 _ rfl; (with_reducible repeat (first|refine zN ?_ _|refine zD ?_|refine zA ?_ _)); exact BK246.out) Tryd.underlying49 rfl (by kernel_rfl)) rfl ?_
                      exact ⟨_, by first | rfl | (simp [errW_none, errW_some] <;> rfl) | (simp [*, errW_none, errW_some] <;> rfl), by (with_reducible repeat (first | apply Kd.R_alloc | apply Kd.R_drewN | apply Kd.R_drew)); exact Kd.R_mono (Kd.R_far (p := ⟨gb246, 3, none⟩) (Kd.R_far (p := ⟨gb246, 2, none⟩) (Kd.R_far (p := ⟨gb246, 1, none⟩) (Kd.R_far (p := ⟨gb246, 0, none⟩) (Kd.R_types HO257.out BK246.out (by decide)) (fun _ hk => hk.2) (.int .i64 t252)) (fun _ hk => hk.2) (.int .i64 t253)) (fun _ hk => hk.2) (.string t254)) (fun _ hk => hk.2) (.slice Ao50 t255.length co50)) (fun _ hk => trivial), by repeat (first | (with_reducible first|exact HB.out|apply zE|apply zB|apply zC | refine zJ ?_ GE245.out | refine zJ ?_ GE246.out | refine zJ ?_ GE249.out | refine zJ ?_ GE251.out) | exact HB.out)⟩
                    · rw [if_neg c39] at H
                      have c39b0 : (((rd_T98 ((rd_T85 l0_0 t247).f2) x31_1).f0).toList == a2.toList) = false := beq_eq_false_iff_ne.mpr c39
                      have c39b1 : (((rd_T98 ((rd_T85 l0_0 t247).f2) x31_1).f0).toList != a2.toList) = true := bne_iff_ne.mpr c39
                      have H' := Aside0.mk H; clear H
                      have p250 : 0 ≤ (x31_1 : Int) := of_decide_eq_true (by first | (with_reducible assumption) | assumption)
                      have q250 : x31_1 < (((rd_T85 l0_0 t247).f2).length : Int) := of_decide_eq_true (by first | (with_reducible assumption) | assumption)
                      obtain ⟨ad250, A250_4, c250_4, e250, hx250_0, hx250_1, hx250_2, hx250_3, hx250_4, hl250_4, hi250_4⟩ := at_T98 HR248_2.out x31_1 p250 q250
                      cases e250
                      replace hx250_0 := (HB.out.cell (World.block_lt_of_cell? w _ hx250_0)).trans hx250_0
                      replace hx250_1 := (HB.out.cell (World.block_lt_of_cell? w _ hx250_1)).trans hx250_1
                      replace hx250_2 := (HB.out.cell (World.block_lt_of_cell? w _ hx250_2)).trans hx250_2
                      replace hx250_3 := (HB.out.cell (World.block_lt_of_cell? w _ hx250_3)).trans hx250_3
                      replace hx250_4 := (HB.out.cell (World.block_lt_of_cell? w _ hx250_4)).trans hx250_4
                      have HR250_4 := Aside0.mk hi250_4; have HC250_4 := Aside0.mk hl250_4; clear hi250_4 hl250_4
                      replace p250 := eq_true p250
                      replace q250 := eq_true q250
                      go_wp2_with (first | ((with_reducible refine gate_dst (N := 11) rfl ?_); refine box_event ?hg (N := 11) ?hd (cs := #[.string (⟨#[]⟩ : ByteArray), .int .i64 0, .int .i64 0, .string (⟨#[]⟩ : ByteArray), .slice none 0 0]) (t := 98) ?hr ?_; (case hd => rfl); (case hg => rfl); (case hr => first | (go_simp; done) | (go_simp; rfl)); intro gb251 hg w51 hbox hb; have n0_ := Aside0.mk (blk_below (g := gb245) (o := .cells #[.slice (some ad248) l0_0.length c0_0] 58 (0, 0)) (by (with_reducible repeat (first|refine zN ?_ _|refine zD ?_|refine zA ?_ _)); exact BK245.out) hb); have n1_ := Aside0.mk (blk_below (g := gb246) (o := .cells #[.int .i64 x247000_1, .int .i64 x247001_1, .string x247002_1, .slice none 0 0] 49 (0, 0)) (by (with_reducible repeat (first|refine zN ?_ _|refine zD ?_|refine zA ?_ _)); exact BK246.out) hb); have n2_ := Aside0.mk (blk_below (g := gb249) (o := .cells #[.string ((rd_T85 l0_0 t247).f0), .string ((rd_T85 l0_0 t247).f1), .slice (some ad250) ((rd_T85 l0_0 t247).f2).length c248_2] 85 (0, 0)) (by (with_reducible repeat (first|refine zN ?_ _|refine zD ?_|refine zA ?_ _)); exact BK249.out) hb); have n3_ := Aside0.mk (below_step (by repeat (first | (with_reducible first|exact HB.out|apply zE|apply zB|apply zC | refine zJ ?_ GE245.out | refine zJ ?_ GE246.out | refine zJ ?_ GE249.out) | exact HB.out)) hb); have n4_ := Aside0.mk (hbox); have n5_ := Aside0.mk ((by rw [hg]; exact (below_size (by repeat (first | (with_reducible first|exact HB.out|apply zE|apply zB|apply zC | refine zJ ?_ GE245.out | refine zJ ?_ GE246.out | refine zJ ?_ GE249.out) | exact HB.out))) : w.heap.size ≤ gb251)); have n6_ := Aside0.mk ((by rw [hg]; exact (below_size (by repeat (first | (with_reducible first|exact HB.out|apply zE|apply zB|apply zC | refine zJ ?_ GE245.out | refine zJ ?_ GE246.out | refine zJ ?_ GE249.out) | exact HB.out))) : w.heap.size ≤ gb251)); have n7_ := Aside0.mk ((by rw [hg]; exact Nat.ne_of_lt (blk_lt (g := gb245) (o := .cells #[.slice (some ad248) l0_0.length c0_0] 58 (0, 0)) (by (with_reducible repeat (first|refine zN ?_ _|refine zD ?_|refine zA ?_ _)); exact BK245.out)) : gb245 ≠ gb251)); have n8_ := Aside0.mk ((by rw [hg]; exact Nat.ne_of_gt (blk_lt (g := gb245) (o := .cells #[.slice (some ad248) l0_0.length c0_0] 58 (0, 0)) (by (with_reducible repeat (first|refine zN ?_ _|refine zD ?_|refine zA ?_ _)); exact BK245.out)) : gb251 ≠ gb245)); have n9_ := Aside0.mk ((by rw [hg]; exact Nat.ne_of_lt (blk_lt (g := gb246) (o := .cells #[.int .i64 x247000_1, .int .i64 x247001_1, .string x247002_1, .slice none 0 0] 49 (0, 0)) (by (with_reducible repeat (first|refine zN ?_ _|refine zD ?_|refine zA ?_ _)); exact BK246.out)) : gb246 ≠ gb251)); have n10_ := Aside0.mk ((by rw [hg]; exact Nat.ne_of_gt (blk_lt (g := gb246) (o := .cells #[.int .i64 x247000_1, .int .i64 x247001_1, .string x247002_1, .slice none 0 0] 49 (0, 0)) (by (with_reducible repeat (first|refine zN ?_ _|refine zD ?_|refine zA ?_ _)); exact BK246.out)) : gb251 ≠ gb246)); have n11_ := Aside0.mk ((by rw [hg]; exact Nat.ne_of_lt (blk_lt (g := gb249) (o := .cells #[.string ((rd_T85 l0_0 t247).f0), .string ((rd_T85 l0_0 t247).f1), .slice (some ad250) ((rd_T85 l0_0 t247).f2).length c248_2] 85 (0, 0)) (by (with_reducible repeat (first|refine zN ?_ _|refine zD ?_|refine zA ?_ _)); exact BK249.out)) : gb249 ≠ gb251)); have n12_ := Aside0.mk ((by rw [hg]; exact Nat.ne_of_gt (blk_lt (g := gb249) (o := .cells #[.string ((rd_T85 l0_0 t247).f0), .string ((rd_T85 l0_0 t247).f1), .slice (some ad250) ((rd_T85 l0_0 t247).f2).length c248_2] 85 (0, 0)) (by (with_reducible repeat (first|refine zN ?_ _|refine zD ?_|refine zA ?_ _)); exact BK249.out)) : gb251 ≠ gb249)); clear BK245 BK246 BK249 HB; have BK245 := n0_; have BK246 := n1_; have BK249 := n2_; have HB := n3_; have BK251 := n4_; have GW251 := n5_; have GE251 := n6_; have NB245_251 := n7_; have NB251_245 := n8_; have NB246_251 := n9_; have NB251_246 := n10_; have NB249_251 := n11_; have NB251_249 := n12_; clear n0_ n1_ n2_ n3_ n4_ n5_ n6_ n7_ n8_ n9_ n10_ n11_ n12_ hb hbox hg; have hnb52 := NB251_245.out; have hnc52 := NB245_251.out; have hnb53 := NB251_246.out; have hnc53 := NB246_251.out; have hnb54 := NB251_249.out; have hnc54 := NB249_251.out; have hcz55_0 : w51.cell? ⟨gb251, 0, none⟩ = some (.string (⟨#[]⟩ : ByteArray)) := (blk_cell BK251.out 0).trans rfl; have hcz55_1 : w51.cell? ⟨gb251, 1, none⟩ = some (.int .i64 0) := (blk_cell BK251.out 1).trans rfl; have hcz55_2 : w51.cell? ⟨gb251, 2, none⟩ = some (.int .i64 0) := (blk_cell BK251.out 2).trans rfl; have hcz55_3 : w51.cell? ⟨gb251, 3, none⟩ = some (.string (⟨#[]⟩ : ByteArray)) := (blk_cell BK251.out 3).trans rfl; have hcz55_4 : w51.cell? ⟨gb251, 4, none⟩ = some (.slice none 0 0) := (blk_cell BK251.out 4).trans rfl; have hfz55_0 := blk_frozen BK251.out 0; have hfz55_1 := blk_frozen BK251.out 1; have hfz55_2 := blk_frozen BK251.out 2; have hfz55_3 := blk_frozen BK251.out 3; have hfz55_4 := blk_frozen BK251.out 4))
                      go_roundg k1
                      case measure => have := HK1.out; omega
                      case rel => exact ⟨(wrap64 (x31_1 + 1)), (x247000_1), (x247001_1), (x247002_1), (by first | rfl | (simp; done) | (simp [*]; done)), H', ⟨by have := HK1.out; omega⟩, ⟨by (with_reducible repeat (first|refine zN ?_ _|refine zD ?_|refine zA ?_ _)); refine blk_far ?_ NB245_251.out _; (with_reducible repeat (first|refine zN ?_ _|refine zD ?_|refine zA ?_ _)); refine blk_far ?_ NB245_251.out _; (with_reducible repeat (first|refine zN ?_ _|refine zD ?_|refine zA ?_ _)); refine blk_far ?_ NB245_251.out _; (with_reducible repeat (first|refine zN ?_ _|refine zD ?_|refine zA ?_ _)); refine blk_far ?_ NB245_251.out _; (with_reducible repeat (first|refine zN ?_ _|refine zD ?_|refine zA ?_ _)); refine blk_far ?_ NB245_251.out _; (with_reducible repeat (first|refine zN ?_ _|refine zD ?_|refine zA ?_ _)); exact BK245.out⟩, ⟨by (with_reducible repeat (first|refine zN ?_ _|refine zD ?_|refine zA ?_ _)); refine blk_far ?_ NB246_251.out _; (with_reducible repeat (first|refine zN ?_ _|refine zD ?_|refine zA ?_ _)); refine blk_far ?_ NB246_251.out _; (with_reducible repeat (first|refine zN ?_ _|refine zD ?_|refine zA ?_ _)); refine blk_far ?_ NB246_251.out _; (with_reducible repeat (first|refine zN ?_ _|refine zD ?_|refine zA ?_ _)); refine blk_far ?_ NB246_251.out _; (with_reducible repeat (first|refine zN ?_ _|refine zD ?_|refine zA ?_ _)); refine blk_far ?_ NB246_251.out _; (with_reducible repeat (first|refine zN ?_ _|refine zD ?_|refine zA ?_ _)); exact BK246.out⟩, ⟨by (with_reducible repeat (first|refine zN ?_ _|refine zD ?_|refine zA ?_ _)); refine blk_far ?_ NB249_251.out _; (with_reducible repeat (first|refine zN ?_ _|refine zD ?_|refine zA ?_ _)); refine blk_far ?_ NB249_251.out _; (with_reducible repeat (first|refine zN ?_ _|refine zD ?_|refine zA ?_ _)); refine blk_far ?_ NB249_251.out _; (with_reducible repeat (first|refine zN ?_ _|refine zD ?_|refine zA ?_ _)); refine blk_far ?_ NB249_251.out _; (with_reducible repeat (first|refine zN ?_ _|refine zD ?_|refine zA ?_ _)); refine blk_far ?_ NB249_251.out _; (with_reducible repeat (first|refine zN ?_ _|refine zD ?_|refine zA ?_ _)); exact BK249.out⟩, ⟨by repeat (first | (with_reducible first|exact HB.out|apply zE|apply zB|apply zC | refine zJ ?_ GE245.out | refine zJ ?_ GE246.out | refine zJ ?_ GE249.out | refine zJ ?_ GE251.out) | exact HB.out)⟩⟩
                  · rw [if_neg c38] at H
                    exact absurd H (by simp)
                · rw [if_neg c37] at H
                  exact absurd H (by simp)
              · rw [if_neg c36] at H
                have c36b0 : decide (x31_1 < (((rd_T85 l0_0 t247).f2).length : Int)) = false := decide_eq_false c36
                clear c36
                simp only [Option.some.injEq, Prod.mk.injEq] at H
                obtain ⟨rfl, rfl, rfl, rfl, rfl⟩ := H; have hnb56 := NB246_245.out; have hnc56 := NB245_246.out; have hnb57 := NB246_249.out; have hnc57 := NB249_246.out
                have hcz58_0 : wr.cell? ⟨gb246, 0, none⟩ = some (.int .i64 x247000_1) := (blk_cell BK246.out 0).trans rfl
                have hcz58_1 : wr.cell? ⟨gb246, 1, none⟩ = some (.int .i64 x247001_1) := (blk_cell BK246.out 1).trans rfl
                have hcz58_2 : wr.cell? ⟨gb246, 2, none⟩ = some (.string x247002_1) := (blk_cell BK246.out 2).trans rfl
                have hcz58_3 : wr.cell? ⟨gb246, 3, none⟩ = some (.slice none 0 0) := (blk_cell BK246.out 3).trans rfl
                have hfz58_0 := blk_frozen BK246.out 0
                have hfz58_1 := blk_frozen BK246.out 1
                have hfz58_2 := blk_frozen BK246.out 2
                have hfz58_3 := blk_frozen BK246.out 3
                go_wp2
                refine bodyPost_ret (results_ct rfl _ _ gb246 49 #[.int .i64 0, .int .i64 0, .string (⟨#[]⟩ : ByteArray), .slice none 0 0] (0, 0) _ rfl (by (with_reducible repeat (first|refine zN ?_ _|refine zD ?_|refine zA ?_ _)); refine blk_put (cs := #[.int .i64 0, .int .i64 0, .string (⟨#[]⟩ : ByteArray), .slice none 0 0]) ?_ 3 _ rfl; (with_reducible repeat (first|refine zN ?_ _|refine zD ?_|refine zA ?_ _)); refine blk_put (cs := #[.int .i64 0, .int .i64 0, .string x247002_1, .slice none 0 0]) ?_ 2 _ rfl; (with_reducible repeat (first|refine zN ?_ _|refine zD ?_|refine zA ?_ _)); refine blk_put (cs := #[.int .i64 0, .int .i64 x247001_1, .string x247002_1, .slice none 0 0]) ?_ 1 _ rfl; (with_reducible repeat (first|refine zN ?_ _|refine zD ?_|refine zA ?_ _)); refine blk_put (cs := #[.int .i64 x247000_1, .int .i64 x247001_1, .string x247002_1, .slice none 0 0]) ?_ 0 _ rfl; (with_reducible repeat (first|refine zN ?_ _|refine zD ?_|refine zA ?_ _)); exact BK246.out) Tryd.underlying49 rfl (by kernel_rfl)) rfl ?_
                exact ⟨_, by first | rfl | (simp [errW_none, errW_some] <;> rfl) | (simp [*, errW_none, errW_some] <;> rfl), by first | exact Kd.R_nil _ _ _ _ _ | exact Kd.N_nil _ _ _ _ _ | exact Kd.V_nil _ _ _ _ _ | exact Kd.Q_nil _ _ _ _ _ | exact Kd.S_nil _ _ _ _ _, by repeat (first | (with_reducible first|exact HB.out|apply zE|apply zB|apply zC | refine zJ ?_ GE245.out | refine zJ ?_ GE246.out | refine zJ ?_ GE249.out) | exact HB.out)⟩
      · rw [if_neg c13] at H
        exact absurd H (by simp)
    · rw [if_neg c12] at H
      exact absurd H (by simp)

/-! ### bucket_Subject: function 34 -/
def bucket_Subject.f (k : Nat) (l0_0 : List (S85)) (a1 : ByteArray) (a2 : ByteArray) (a3 : ByteArray) : Option (Int × Bool) := (subject_Lookup.f k l0_0 a1 a2).bind fun bt259 => (if bt259.2.2.2.2 = true then ((bucket_Key.f k bt259.1 bt259.2.1 bt259.2.2.1 bt259.2.2.2.1).bind fun bt267 => (if bt267.2 = true then ((bucket_Of.f k a3 bt267.1).bind fun t269 => (some (t269, true))) else (some (0, false)))) else (some (0, false)))
theorem bucket_Subject.mono : ∀ a0 a1 a2 a3 k, LeO (bucket_Subject.f k a0 a1 a2 a3) (bucket_Subject.f (k + 1) a0 a1 a2 a3) := by
  intro a0 a1 a2 a3 k
  unfold bucket_Subject.f
  repeat' first
      | (with_reducible exact bucket_Key.mono _ _ _ _ _)
      | (with_reducible exact bucket_Of.mono _ _ _)
      | (with_reducible exact subject_Lookup.mono _ _ _ _)
      | (with_reducible exact LeO.refl _)
      | (with_reducible exact LeO.none _)
      | (with_reducible refine LeO.ite ?_ ?_)
      | (with_reducible refine LeO.bind ?_ (fun _ => ?_))
      | exact bucket_Key.mono _ _ _ _ _
      | exact bucket_Of.mono _ _ _
      | exact subject_Lookup.mono _ _ _ _
      | exact LeO.none _
      | refine LeO.ite ?_ ?_
      | refine LeO.bind ?_ (fun _ => ?_)
set_option maxHeartbeats 8000000 in
set_option maxRecDepth 100000 in
theorem bucket_Subject.calls (k : Nat) (A0_0 : Option Addr) (c0_0 : Nat) (l0_0 : List (S85)) (a1 : ByteArray) (a2 : ByteArray) (a3 : ByteArray) (r1 : Int) (r2 : Bool) (w : World) (hr0_0 : Kd.C k85 w A0_0 l0_0.length l0_0) (hc0_0 : l0_0.length ≤ c0_0) (hGL : GL w) (h : bucket_Subject.f k l0_0 a1 a2 a3 = some (r1, r2)) :
    Calls Tryd.prog 34 #[.agg #[.slice A0_0 l0_0.length c0_0], .string a1, .string a2, .string a3] w fun e w' => e = .returned (.tuple #[.int .i64 r1, .bool r2]) ∧ Below w.heap.size w w' := by
  have hu58 := Tryd.underlying58; have hu49 := Tryd.underlying49; have HR0_0 := Aside0.mk hr0_0; have HC0_0 := Aside0.mk hc0_0; clear hr0_0 hc0_0; have HGL := Aside0.mk hGL; clear hGL
  have HB := Aside0.mk (Below.refl w.heap.size w)
  have H : ((subject_Lookup.f k l0_0 a1 a2).bind fun bt259 => (if bt259.2.2.2.2 = true then ((bucket_Key.f k bt259.1 bt259.2.1 bt259.2.2.1 bt259.2.2.2.1).bind fun bt267 => (if bt267.2 = true then ((bucket_Of.f k a3 bt267.1).bind fun t269 => (some (t269, true))) else (some (0, false)))) else (some (0, false)))) = some (r1, r2) := h
  clear h; replace H := Option.bind_eq_some_iff.mp H
  obtain ⟨⟨t259, t260, t261, t262, t265⟩, A50, H⟩ := H
  replace H : (if t265 = true then ((bucket_Key.f k t259 t260 t261 t262).bind fun bt267 => (if bt267.2 = true then ((bucket_Of.f k a3 bt267.1).bind fun t269 => (some (t269, true))) else (some (0, false)))) else (some (0, false))) = some (r1, r2) := H
  have A5 := Aside0.mk A50; clear A50
  by_cases c6 : t265 = true
  · subst c6
    have H1 : ((bucket_Key.f k t259 t260 t261 t262).bind fun bt267 => (if bt267.2 = true then ((bucket_Of.f k a3 bt267.1).bind fun t269 => (some (t269, true))) else (some (0, false)))) = some (r1, r2) := by rw [if_pos rfl] at H; exact H
    clear H; have H := H1; clear H1; replace H := Option.bind_eq_some_iff.mp H
    obtain ⟨⟨t267, t268⟩, A70, H⟩ := H
    replace H : (if t268 = true then ((bucket_Of.f k a3 t267).bind fun t269 => (some (t269, true))) else (some (0, false))) = some (r1, r2) := H
    have A7 := Aside0.mk A70; clear A70
    by_cases c8 : t268 = true
    · subst c8
      have H1 : ((bucket_Of.f k a3 t267).bind fun t269 => (some (t269, true))) = some (r1, r2) := by rw [if_pos rfl] at H; exact H
      clear H; have H := H1; clear H1; replace H := Option.bind_eq_some_iff.mp H; obtain ⟨t269, A90, H⟩ := H
      replace H : (some (t269, true)) = some (r1, r2) := H
      have A9 := Aside0.mk A90; clear A90
      simp only [Option.some.injEq, Prod.mk.injEq] at H
      obtain ⟨rfl, rfl⟩ := H
      go_enter Tryd.func34, Tryd.ntmps34
      go_wp2_with (first | ((with_reducible refine gate_dst (N := 4) rfl ?_); refine box_event ?hg (N := 4) ?hd (cs := #[.slice A0_0 l0_0.length c0_0]) (t := 58) ?hr ?_; (case hd => rfl); (case hg => rfl); (case hr => first | (go_simp; done) | (go_simp; rfl)); intro gb258 hg w10 hbox hb; have n0_ := Aside0.mk (below_step (by repeat (first | (with_reducible first|exact HB.out|apply zE|apply zB|apply zC) | exact HB.out)) hb); have n1_ := Aside0.mk (hbox); have n2_ := Aside0.mk ((by rw [hg]; exact (below_size (by repeat (first | (with_reducible first|exact HB.out|apply zE|apply zB|apply zC) | exact HB.out))) : w.heap.size ≤ gb258)); have n3_ := Aside0.mk ((by rw [hg]; exact (below_size (by repeat (first | (with_reducible first|exact HB.out|apply zE|apply zB|apply zC) | exact HB.out))) : w.heap.size ≤ gb258)); clear HB; have HB := n0_; have BK258 := n1_; have GW258 := n2_; have GE258 := n3_; clear n0_ n1_ n2_ n3_ hb hbox hg; have hcz11_0 : w10.cell? ⟨gb258, 0, none⟩ = some (.slice A0_0 l0_0.length c0_0) := (blk_cell BK258.out 0).trans rfl; have hfz11_0 := blk_frozen BK258.out 0) | ((with_reducible refine gate_callee (f := 51) rfl ?_); refine goesL_ (some 17) rfl rfl Tryd.func51 (by kernel_rfl) rfl #[.agg #[.slice A0_0 l0_0.length c0_0], .string a1, .string a2] rfl (by (try simp only [List.map_toArray, List.map_cons, List.map_nil]); first | done | rfl | (simp only [List.length_drop, List.length_take]; rfl)) ?_; (with_reducible refine (subject_Lookup.calls k _ _ l0_0 a1 a2 t259 t260 t261 t262 true _ ?side1 ?side2 A5.out).mono ?_); (case side1 => repeat (first | exact (Kd.C_below HR0_0.out HB.out) | (with_reducible refine Kd.C_alloc ?_ _) | (with_reducible refine Kd.C_drewN ?_ _) | (with_reducible refine Kd.C_drew ?_))); (case side2 => exact HC0_0.out); rintro e w12 ⟨v263, rfl, ho0, hb⟩; refine ⟨_, rfl, ?_⟩; have n0_ := Aside0.mk (Kd.R_lower ho0 (below_size (by repeat (first | (with_reducible first|exact HB.out|apply zE|apply zB|apply zC | refine zJ ?_ GE258.out) | exact HB.out)))); have n1_ := Aside0.mk (blk_below (g := gb258) (o := .cells #[.slice A0_0 l0_0.length c0_0] 58 (0, 0)) (by (with_reducible repeat (first|refine zN ?_ _|refine zD ?_|refine zA ?_ _)); exact BK258.out) hb); have n2_ := Aside0.mk (below_step (by repeat (first | (with_reducible first|exact HB.out|apply zE|apply zB|apply zC | refine zJ ?_ GE258.out) | exact HB.out)) hb); clear BK258 HB; have HO264 := n0_; have BK258 := n1_; have HB := n2_; clear n0_ n1_ n2_; (try clear hb); (try clear hb2); (try clear hk); (try clear hi); (try clear hge); (try clear ho0)) | ((with_reducible refine gate_dst (N := 10) rfl ?_); refine box_event ?hg (N := 10) ?hd (cs := #[.int .i64 0, .int .i64 0, .string (⟨#[]⟩ : ByteArray), .slice none 0 0]) (t := 49) ?hr ?_; (case hd => rfl); (case hg => rfl); (case hr => first | (go_simp; done) | (go_simp; rfl)); intro gb266 hg w13 hbox hb; have n0_ := Aside0.mk (Kd.R_below (by (with_reducible repeat (first | apply Kd.R_alloc | apply Kd.R_drewN | apply Kd.R_drew)); exact HO264.out) hb); have n1_ := Aside0.mk (blk_below (g := gb258) (o := .cells #[.slice A0_0 l0_0.length c0_0] 58 (0, 0)) (by (with_reducible repeat (first|refine zN ?_ _|refine zD ?_|refine zA ?_ _)); exact BK258.out) hb); have n2_ := Aside0.mk (below_step (by repeat (first | (with_reducible first|exact HB.out|apply zE|apply zB|apply zC | refine zJ ?_ GE258.out) | exact HB.out)) hb); have n3_ := Aside0.mk (hbox); have n4_ := Aside0.mk ((by rw [hg]; exact (below_size (by repeat (first | (with_reducible first|exact HB.out|apply zE|apply zB|apply zC | refine zJ ?_ GE258.out) | exact HB.out))) : w.heap.size ≤ gb266)); have n5_ := Aside0.mk ((by rw [hg]; exact (below_size (by repeat (first | (with_reducible first|exact HB.out|apply zE|apply zB|apply zC | refine zJ ?_ GE258.out) | exact HB.out))) : w.heap.size ≤ gb266)); have n6_ := Aside0.mk ((by rw [hg]; exact Nat.ne_of_lt (blk_lt (g := gb258) (o := .cells #[.slice A0_0 l0_0.length c0_0] 58 (0, 0)) (by (with_reducible repeat (first|refine zN ?_ _|refine zD ?_|refine zA ?_ _)); exact BK258.out)) : gb258 ≠ gb266)); have n7_ := Aside0.mk ((by rw [hg]; exact Nat.ne_of_gt (blk_lt (g := gb258) (o := .cells #[.slice A0_0 l0_0.length c0_0] 58 (0, 0)) (by (with_reducible repeat (first|refine zN ?_ _|refine zD ?_|refine zA ?_ _)); exact BK258.out)) : gb266 ≠ gb258)); clear HO264 BK258 HB; have HO264 := n0_; have BK258 := n1_; have HB := n2_; have BK266 := n3_; have GW266 := n4_; have GE266 := n5_; have NB258_266 := n6_; have NB266_258 := n7_; clear n0_ n1_ n2_ n3_ n4_ n5_ n6_ n7_ hb hbox hg; have hnb14 := NB266_258.out; have hnc14 := NB258_266.out; have hcz15_0 : w13.cell? ⟨gb266, 0, none⟩ = some (.int .i64 0) := (blk_cell BK266.out 0).trans rfl; have hcz15_1 : w13.cell? ⟨gb266, 1, none⟩ = some (.int .i64 0) := (blk_cell BK266.out 1).trans rfl; have hcz15_2 : w13.cell? ⟨gb266, 2, none⟩ = some (.string (⟨#[]⟩ : ByteArray)) := (blk_cell BK266.out 2).trans rfl; have hcz15_3 : w13.cell? ⟨gb266, 3, none⟩ = some (.slice none 0 0) := (blk_cell BK266.out 3).trans rfl; have hfz15_0 := blk_frozen BK266.out 0; have hfz15_1 := blk_frozen BK266.out 1; have hfz15_2 := blk_frozen BK266.out 2; have hfz15_3 := blk_frozen BK266.out 3; obtain ⟨Ao16, co16, eo16⟩ := Kd.R_slice HO264.out; subst eo16) | ((with_reducible refine gate_callee (f := 28) rfl ?_); refine goesL_ (some 24) rfl rfl Tryd.func28 (by kernel_rfl) rfl #[.agg #[.int .i64 t259, .int .i64 t260, .string t261, .slice Ao16 t262.length co16]] rfl (by (try simp only [List.map_toArray, List.map_cons, List.map_nil]); first | done | rfl | (simp only [List.length_drop, List.length_take]; rfl)) ?_; (with_reducible refine (bucket_Key.calls k t259 t260 t261 _ _ t262 t267 true _ ?side1 ?side2 ?side3 A7.out).mono ?_); (case side1 => refine (Kd.R_reads' (e := 9) (base := w.heap.size) (ok := fun k_ => True) (n := t262.length) (c := co16) ?_).2.2; exact (by (with_reducible repeat (first | apply Kd.R_alloc | apply Kd.R_drewN | apply Kd.R_drew)); exact (Kd.R_mono (Kd.R_far (p := ⟨gb266, 3, none⟩) (Kd.R_far (p := ⟨gb266, 2, none⟩) (Kd.R_far (p := ⟨gb266, 1, none⟩) (Kd.R_far (p := ⟨gb266, 0, none⟩) (Kd.R_types HO264.out BK266.out (by decide)) (fun _ hk => hk.2) (.int .i64 t259)) (fun _ hk => hk.2) (.int .i64 t260)) (fun _ hk => hk.2) (.string t261)) (fun _ hk => hk.2) (.slice Ao16 t262.length co16)) (fun _ h_ => h_.1)))); (case side2 => exact (Kd.R_reads' HO264.out).2.1); (case side3 => exact GL.below HGL.out (by repeat (first | (with_reducible first|exact HB.out|apply zE|apply zB|apply zC | refine zJ ?_ GE258.out | refine zJ ?_ GE266.out) | exact HB.out))); rintro e w17 ⟨rfl, hb⟩; refine ⟨_, rfl, ?_⟩; have n0_ := Aside0.mk (Kd.R_below (by (with_reducible repeat (first | apply Kd.R_alloc | apply Kd.R_drewN | apply Kd.R_drew)); exact (Kd.R_mono (Kd.R_far (p := ⟨gb266, 3, none⟩) (Kd.R_far (p := ⟨gb266, 2, none⟩) (Kd.R_far (p := ⟨gb266, 1, none⟩) (Kd.R_far (p := ⟨gb266, 0, none⟩) (Kd.R_types HO264.out BK266.out (by decide)) (fun _ hk => hk.2) (.int .i64 t259)) (fun _ hk => hk.2) (.int .i64 t260)) (fun _ hk => hk.2) (.string t261)) (fun _ hk => hk.2) (.slice Ao16 t262.length co16)) (fun _ h_ => h_.1))) hb); have n1_ := Aside0.mk (blk_below (g := gb258) (o := .cells #[.slice A0_0 l0_0.length c0_0] 58 (0, 0)) (by (with_reducible repeat (first|refine zN ?_ _|refine zD ?_|refine zA ?_ _)); refine blk_far ?_ NB258_266.out _; (with_reducible repeat (first|refine zN ?_ _|refine zD ?_|refine zA ?_ _)); refine blk_far ?_ NB258_266.out _; (with_reducible repeat (first|refine zN ?_ _|refine zD ?_|refine zA ?_ _)); refine blk_far ?_ NB258_266.out _; (with_reducible repeat (first|refine zN ?_ _|refine zD ?_|refine zA ?_ _)); refine blk_far ?_ NB258_266.out _; (with_reducible repeat (first|refine zN ?_ _|refine zD ?_|refine zA ?_ _)); exact BK258.out) hb); have n2_ := Aside0.mk (blk_below (g := gb266) (o := .cells #[.int .i64 t259, .int .i64 t260, .string t261, .slice Ao16 t262.length co16] 49 (0, 0)) (by (with_reducible repeat (first|refine zN ?_ _|refine zD ?_|refine zA ?_ _)); refine blk_put (cs := #[.int .i64 t259, .int .i64 t260, .string t261, .slice none 0 0]) ?_ 3 _ rfl; (with_reducible repeat (first|refine zN ?_ _|refine zD ?_|refine zA ?_ _)); refine blk_put (cs := #[.int .i64 t259, .int .i64 t260, .string (⟨#[]⟩ : ByteArray), .slice none 0 0]) ?_ 2 _ rfl; (with_reducible repeat (first|refine zN ?_ _|refine zD ?_|refine zA ?_ _)); refine blk_put (cs := #[.int .i64 t259, .int .i64 0, .string (⟨#[]⟩ : ByteArray), .slice none 0 0]) ?_ 1 _ rfl; (with_reducible repeat (first|refine zN ?_ _|refine zD ?_|refine zA ?_ _)); refine blk_put (cs := #[.int .i64 0, .int .i64 0, .string (⟨#[]⟩ : ByteArray), .slice none 0 0]) ?_ 0 _ rfl; (with_reducible repeat (first|refine zN ?_ _|refine zD ?_|refine zA ?_ _)); exact BK266.out) hb); have n3_ := Aside0.mk (below_step (by repeat (first | (with_reducible first|exact HB.out|apply zE|apply zB|apply zC | refine zJ ?_ GE258.out | refine zJ ?_ GE266.out) | exact HB.out)) hb); clear HO264 BK258 BK266 HB; have HO264 := n0_; have BK258 := n1_; have BK266 := n2_; have HB := n3_; clear n0_ n1_ n2_ n3_; (try clear hb); (try clear hb2); (try clear hk); (try clear hi); (try clear hge)) | ((with_reducible refine gate_callee (f := 30) rfl ?_); refine goesL_ (some 31) rfl rfl Tryd.func30 (by kernel_rfl) rfl #[.string a3, .string t267] rfl (by (try simp only [List.map_toArray, List.map_cons, List.map_nil]); first | done | rfl | (simp only [List.length_drop, List.length_take]; rfl)) ?_; (with_reducible refine (bucket_Of.calls k a3 t267 t269 _ A9.out).mono ?_); rintro e w18 ⟨rfl, hb⟩; refine ⟨_, rfl, ?_⟩; have n0_ := Aside0.mk (Kd.R_below (by (with_reducible repeat (first | apply Kd.R_alloc | apply Kd.R_drewN | apply Kd.R_drew)); exact HO264.out) hb); have n1_ := Aside0.mk (blk_below (g := gb258) (o := .cells #[.slice A0_0 l0_0.length c0_0] 58 (0, 0)) (by (with_reducible repeat (first|refine zN ?_ _|refine zD ?_|refine zA ?_ _)); exact BK258.out) hb); have n2_ := Aside0.mk (blk_below (g := gb266) (o := .cells #[.int .i64 t259, .int .i64 t260, .string t261, .slice Ao16 t262.length co16] 49 (0, 0)) (by (with_reducible repeat (first|refine zN ?_ _|refine zD ?_|refine zA ?_ _)); exact BK266.out) hb); have n3_ := Aside0.mk (below_step (by repeat (first | (with_reducible first|exact HB.out|apply zE|apply zB|apply zC | refine zJ ?_ GE258.out | refine zJ ?_ GE266.out) | exact HB.out)) hb); clear HO264 BK258 BK266 HB; have HO264 := n0_; have BK258 := n1_; have BK266 := n2_; have HB := n3_; clear n0_ n1_ n2_ n3_; (try clear hb); (try clear hb2); (try clear hk); (try clear hi); (try clear hge)))
      go_ret2
      exact ⟨by first | rfl | (simp [errW_none, errW_some] <;> rfl) | (simp [*, errW_none, errW_some] <;> rfl), by repeat (first | (with_reducible first|exact HB.out|apply zE|apply zB|apply zC | refine zJ ?_ GE258.out | refine zJ ?_ GE266.out) | exact HB.out)⟩
    · replace c8 := Bool.eq_false_iff.mpr c8
      subst c8
      have H1 : (some (0, false)) = some (r1, r2) := by rw [if_neg (show ¬ (false = true) by decide)] at H; exact H
      clear H; have H := H1; clear H1
      simp only [Option.some.injEq, Prod.mk.injEq] at H
      obtain ⟨rfl, rfl⟩ := H
      go_enter Tryd.func34, Tryd.ntmps34
      go_wp2_with (first | ((with_reducible refine gate_dst (N := 4) rfl ?_); refine box_event ?hg (N := 4) ?hd (cs := #[.slice A0_0 l0_0.length c0_0]) (t := 58) ?hr ?_; (case hd => rfl); (case hg => rfl); (case hr => first | (go_simp; done) | (go_simp; rfl)); intro gb258 hg w19 hbox hb; have n0_ := Aside0.mk (below_step (by repeat (first | (with_reducible first|exact HB.out|apply zE|apply zB|apply zC) | exact HB.out)) hb); have n1_ := Aside0.mk (hbox); have n2_ := Aside0.mk ((by rw [hg]; exact (below_size (by repeat (first | (with_reducible first|exact HB.out|apply zE|apply zB|apply zC) | exact HB.out))) : w.heap.size ≤ gb258)); have n3_ := Aside0.mk ((by rw [hg]; exact (below_size (by repeat (first | (with_reducible first|exact HB.out|apply zE|apply zB|apply zC) | exact HB.out))) : w.heap.size ≤ gb258)); clear HB; have HB := n0_; have BK258 := n1_; have GW258 := n2_; have GE258 := n3_; clear n0_ n1_ n2_ n3_ hb hbox hg; have hcz20_0 : w19.cell? ⟨gb258, 0, none⟩ = some (.slice A0_0 l0_0.length c0_0) := (blk_cell BK258.out 0).trans rfl; have hfz20_0 := blk_frozen BK258.out 0) | ((with_reducible refine gate_callee (f := 51) rfl ?_); refine goesL_ (some 17) rfl rfl Tryd.func51 (by kernel_rfl) rfl #[.agg #[.slice A0_0 l0_0.length c0_0], .string a1, .string a2] rfl (by (try simp only [List.map_toArray, List.map_cons, List.map_nil]); first | done | rfl | (simp only [List.length_drop, List.length_take]; rfl)) ?_; (with_reducible refine (subject_Lookup.calls k _ _ l0_0 a1 a2 t259 t260 t261 t262 true _ ?side1 ?side2 A5.out).mono ?_); (case side1 => repeat (first | exact (Kd.C_below HR0_0.out HB.out) | (with_reducible refine Kd.C_alloc ?_ _) | (with_reducible refine Kd.C_drewN ?_ _) | (with_reducible refine Kd.C_drew ?_))); (case side2 => exact HC0_0.out); rintro e w21 ⟨v263, rfl, ho0, hb⟩; refine ⟨_, rfl, ?_⟩; have n0_ := Aside0.mk (Kd.R_lower ho0 (below_size (by repeat (first | (with_reducible first|exact HB.out|apply zE|apply zB|apply zC | refine zJ ?_ GE258.out) | exact HB.out)))); have n1_ := Aside0.mk (blk_below (g := gb258) (o := .cells #[.slice A0_0 l0_0.length c0_0] 58 (0, 0)) (by (with_reducible repeat (first|refine zN ?_ _|refine zD ?_|refine zA ?_ _)); exact BK258.out) hb); have n2_ := Aside0.mk (below_step (by repeat (first | (with_reducible first|exact HB.out|apply zE|apply zB|apply zC | refine zJ ?_ GE258.out) | exact HB.out)) hb); clear BK258 HB; have HO264 := n0_; have BK258 := n1_; have HB := n2_; clear n0_ n1_ n2_; (try clear hb); (try clear hb2); (try clear hk); (try clear hi); (try clear hge); (try clear ho0)) | ((with_reducible refine gate_dst (N := 10) rfl ?_); refine box_event ?hg (N := 10) ?hd (cs := #[.int .i64 0, .int .i64 0, .string (⟨#[]⟩ : ByteArray), .slice none 0 0]) (t := 49) ?hr ?_; (case hd => rfl); (case hg => rfl); (case hr => first | (go_simp; done) | (go_simp; rfl)); intro gb266 hg w22 hbox hb; have n0_ := Aside0.mk (Kd.R_below (by (with_reducible repeat (first | apply Kd.R_alloc | apply Kd.R_drewN | apply Kd.R_drew)); exact HO264.out) hb); have n1_ := Aside0.mk (blk_below (g := gb258) (o := .cells #[.slice A0_0 l0_0.length c0_0] 58 (0, 0)) (by (with_reducible repeat (first|refine zN ?_ _|refine zD ?_|refine zA ?_ _)); exact BK258.out) hb); have n2_ := Aside0.mk (below_step (by repeat (first | (with_reducible first|exact HB.out|apply zE|apply zB|apply zC | refine zJ ?_ GE258.out) | exact HB.out)) hb); have n3_ := Aside0.mk (hbox); have n4_ := Aside0.mk ((by rw [hg]; exact (below_size (by repeat (first | (with_reducible first|exact HB.out|apply zE|apply zB|apply zC | refine zJ ?_ GE258.out) | exact HB.out))) : w.heap.size ≤ gb266)); have n5_ := Aside0.mk ((by rw [hg]; exact (below_size (by repeat (first | (with_reducible first|exact HB.out|apply zE|apply zB|apply zC | refine zJ ?_ GE258.out) | exact HB.out))) : w.heap.size ≤ gb266)); have n6_ := Aside0.mk ((by rw [hg]; exact Nat.ne_of_lt (blk_lt (g := gb258) (o := .cells #[.slice A0_0 l0_0.length c0_0] 58 (0, 0)) (by (with_reducible repeat (first|refine zN ?_ _|refine zD ?_|refine zA ?_ _)); exact BK258.out)) : gb258 ≠ gb266)); have n7_ := Aside0.mk ((by rw [hg]; exact Nat.ne_of_gt (blk_lt (g := gb258) (o := .cells #[.slice A0_0 l0_0.length c0_0] 58 (0, 0)) (by (with_reducible repeat (first|refine zN ?_ _|refine zD ?_|refine zA ?_ _)); exact BK258.out)) : gb266 ≠ gb258)); clear HO264 BK258 HB; have HO264 := n0_; have BK258 := n1_; have HB := n2_; have BK266 := n3_; have GW266 := n4_; have GE266 := n5_; have NB258_266 := n6_; have NB266_258 := n7_; clear n0_ n1_ n2_ n3_ n4_ n5_ n6_ n7_ hb hbox hg; have hnb23 := NB266_258.out; have hnc23 := NB258_266.out; have hcz24_0 : w22.cell? ⟨gb266, 0, none⟩ = some (.int .i64 0) := (blk_cell BK266.out 0).trans rfl; have hcz24_1 : w22.cell? ⟨gb266, 1, none⟩ = some (.int .i64 0) := (blk_cell BK266.out 1).trans rfl; have hcz24_2 : w22.cell? ⟨gb266, 2, none⟩ = some (.string (⟨#[]⟩ : ByteArray)) := (blk_cell BK266.out 2).trans rfl; have hcz24_3 : w22.cell? ⟨gb266, 3, none⟩ = some (.slice none 0 0) := (blk_cell BK266.out 3).trans rfl; have hfz24_0 := blk_frozen BK266.out 0; have hfz24_1 := blk_frozen BK266.out 1; have hfz24_2 := blk_frozen BK266.out 2; have hfz24_3 := blk_frozen BK266.out 3; obtain ⟨Ao25, co25, eo25⟩ := Kd.R_slice HO264.out; subst eo25) | ((with_reducible refine gate_callee (f := 28) rfl ?_); refine goesL_ (some 24) rfl rfl Tryd.func28 (by kernel_rfl) rfl #[.agg #[.int .i64 t259, .int .i64 t260, .string t261, .slice Ao25 t262.length co25]] rfl (by (try simp only [List.map_toArray, List.map_cons, List.map_nil]); first | done | rfl | (simp only [List.length_drop, List.length_take]; rfl)) ?_; (with_reducible refine (bucket_Key.calls k t259 t260 t261 _ _ t262 t267 false _ ?side1 ?side2 ?side3 A7.out).mono ?_); (case side1 => refine (Kd.R_reads' (e := 9) (base := w.heap.size) (ok := fun k_ => True) (n := t262.length) (c := co25) ?_).2.2; exact (by (with_reducible repeat (first | apply Kd.R_alloc | apply Kd.R_drewN | apply Kd.R_drew)); exact (Kd.R_mono (Kd.R_far (p := ⟨gb266, 3, none⟩) (Kd.R_far (p := ⟨gb266, 2, none⟩) (Kd.R_far (p := ⟨gb266, 1, none⟩) (Kd.R_far (p := ⟨gb266, 0, none⟩) (Kd.R_types HO264.out BK266.out (by decide)) (fun _ hk => hk.2) (.int .i64 t259)) (fun _ hk => hk.2) (.int .i64 t260)) (fun _ hk => hk.2) (.string t261)) (fun _ hk => hk.2) (.slice Ao25 t262.length co25)) (fun _ h_ => h_.1)))); (case side2 => exact (Kd.R_reads' HO264.out).2.1); (case side3 => exact GL.below HGL.out (by repeat (first | (with_reducible first|exact HB.out|apply zE|apply zB|apply zC | refine zJ ?_ GE258.out | refine zJ ?_ GE266.out) | exact HB.out))); rintro e w26 ⟨rfl, hb⟩; refine ⟨_, rfl, ?_⟩; have n0_ := Aside0.mk (Kd.R_below (by (with_reducible repeat (first | apply Kd.R_alloc | apply Kd.R_drewN | apply Kd.R_drew)); exact (Kd.R_mono (Kd.R_far (p := ⟨gb266, 3, none⟩) (Kd.R_far (p := ⟨gb266, 2, none⟩) (Kd.R_far (p := ⟨gb266, 1, none⟩) (Kd.R_far (p := ⟨gb266, 0, none⟩) (Kd.R_types HO264.out BK266.out (by decide)) (fun _ hk => hk.2) (.int .i64 t259)) (fun _ hk => hk.2) (.int .i64 t260)) (fun _ hk => hk.2) (.string t261)) (fun _ hk => hk.2) (.slice Ao25 t262.length co25)) (fun _ h_ => h_.1))) hb); have n1_ := Aside0.mk (blk_below (g := gb258) (o := .cells #[.slice A0_0 l0_0.length c0_0] 58 (0, 0)) (by (with_reducible repeat (first|refine zN ?_ _|refine zD ?_|refine zA ?_ _)); refine blk_far ?_ NB258_266.out _; (with_reducible repeat (first|refine zN ?_ _|refine zD ?_|refine zA ?_ _)); refine blk_far ?_ NB258_266.out _; (with_reducible repeat (first|refine zN ?_ _|refine zD ?_|refine zA ?_ _)); refine blk_far ?_ NB258_266.out _; (with_reducible repeat (first|refine zN ?_ _|refine zD ?_|refine zA ?_ _)); refine blk_far ?_ NB258_266.out _; (with_reducible repeat (first|refine zN ?_ _|refine zD ?_|refine zA ?_ _)); exact BK258.out) hb); have n2_ := Aside0.mk (blk_below (g := gb266) (o := .cells #[.int .i64 t259, .int .i64 t260, .string t261, .slice Ao25 t262.length co25] 49 (0, 0)) (by (with_reducible repeat (first|refine zN ?_ _|refine zD ?_|refine zA ?_ _)); refine blk_put (cs := #[.int .i64 t259, .int .i64 t260, .string t261, .slice none 0 0]) ?_ 3 _ rfl; (with_reducible repeat (first|refine zN ?_ _|refine zD ?_|refine zA ?_ _)); refine blk_put (cs := #[.int .i64 t259, .int .i64 t260, .string (⟨#[]⟩ : ByteArray), .slice none 0 0]) ?_ 2 _ rfl; (with_reducible repeat (first|refine zN ?_ _|refine zD ?_|refine zA ?_ _)); refine blk_put (cs := #[.int .i64 t259, .int .i64 0, .string (⟨#[]⟩ : ByteArray), .slice none 0 0]) ?_ 1 _ rfl; (with_reducible repeat (first|refine zN ?_ _|refine zD ?_|refine zA ?_ _)); refine blk_put (cs := #[.int .i64 0, .int .i64 0, .string (⟨#[]⟩ : ByteArray), .slice none 0 0]) ?_ 0 _ rfl; (with_reducible repeat (first|refine zN ?_ _|refine zD ?_|refine zA ?_ _)); exact BK266.out) hb); have n3_ := Aside0.mk (below_step (by repeat (first | (with_reducible first|exact HB.out|apply zE|apply zB|apply zC | refine zJ ?_ GE258.out | refine zJ ?_ GE266.out) | exact HB.out)) hb); clear HO264 BK258 BK266 HB; have HO264 := n0_; have BK258 := n1_; have BK266 := n2_; have HB := n3_; clear n0_ n1_ n2_ n3_; (try clear hb); (try clear hb2); (try clear hk); (try clear hi); (try clear hge)))
      go_ret2
      exact ⟨by first | rfl | (simp [errW_none, errW_some] <;> rfl) | (simp [*, errW_none, errW_some] <;> rfl), by repeat (first | (with_reducible first|exact HB.out|apply zE|apply zB|apply zC | refine zJ ?_ GE258.out | refine zJ ?_ GE266.out) | exact HB.out)⟩
  · replace c6 := Bool.eq_false_iff.mpr c6
    subst c6
    have H1 : (some (0, false)) = some (r1, r2) := by rw [if_neg (show ¬ (false = true) by decide)] at H; exact H
    clear H; have H := H1; clear H1
    simp only [Option.some.injEq, Prod.mk.injEq] at H
    obtain ⟨rfl, rfl⟩ := H
    go_enter Tryd.func34, Tryd.ntmps34
    go_wp2_with (first | ((with_reducible refine gate_dst (N := 4) rfl ?_); refine box_event ?hg (N := 4) ?hd (cs := #[.slice A0_0 l0_0.length c0_0]) (t := 58) ?hr ?_; (case hd => rfl); (case hg => rfl); (case hr => first | (go_simp; done) | (go_simp; rfl)); intro gb258 hg w27 hbox hb; have n0_ := Aside0.mk (below_step (by repeat (first | (with_reducible first|exact HB.out|apply zE|apply zB|apply zC) | exact HB.out)) hb); have n1_ := Aside0.mk (hbox); have n2_ := Aside0.mk ((by rw [hg]; exact (below_size (by repeat (first | (with_reducible first|exact HB.out|apply zE|apply zB|apply zC) | exact HB.out))) : w.heap.size ≤ gb258)); have n3_ := Aside0.mk ((by rw [hg]; exact (below_size (by repeat (first | (with_reducible first|exact HB.out|apply zE|apply zB|apply zC) | exact HB.out))) : w.heap.size ≤ gb258)); clear HB; have HB := n0_; have BK258 := n1_; have GW258 := n2_; have GE258 := n3_; clear n0_ n1_ n2_ n3_ hb hbox hg; have hcz28_0 : w27.cell? ⟨gb258, 0, none⟩ = some (.slice A0_0 l0_0.length c0_0) := (blk_cell BK258.out 0).trans rfl; have hfz28_0 := blk_frozen BK258.out 0) | ((with_reducible refine gate_callee (f := 51) rfl ?_); refine goesL_ (some 17) rfl rfl Tryd.func51 (by kernel_rfl) rfl #[.agg #[.slice A0_0 l0_0.length c0_0], .string a1, .string a2] rfl (by (try simp only [List.map_toArray, List.map_cons, List.map_nil]); first | done | rfl | (simp only [List.length_drop, List.length_take]; rfl)) ?_; (with_reducible refine (subject_Lookup.calls k _ _ l0_0 a1 a2 t259 t260 t261 t262 false _ ?side1 ?side2 A5.out).mono ?_); (case side1 => repeat (first | exact (Kd.C_below HR0_0.out HB.out) | (with_reducible refine Kd.C_alloc ?_ _) | (with_reducible refine Kd.C_drewN ?_ _) | (with_reducible refine Kd.C_drew ?_))); (case side2 => exact HC0_0.out); rintro e w29 ⟨v263, rfl, ho0, hb⟩; refine ⟨_, rfl, ?_⟩; have n0_ := Aside0.mk (Kd.R_lower ho0 (below_size (by repeat (first | (with_reducible first|exact HB.out|apply zE|apply zB|apply zC | refine zJ ?_ GE258.out) | exact HB.out)))); have n1_ := Aside0.mk (blk_below (g := gb258) (o := .cells #[.slice A0_0 l0_0.length c0_0] 58 (0, 0)) (by (with_reducible repeat (first|refine zN ?_ _|refine zD ?_|refine zA ?_ _)); exact BK258.out) hb); have n2_ := Aside0.mk (below_step (by repeat (first | (with_reducible first|exact HB.out|apply zE|apply zB|apply zC | refine zJ ?_ GE258.out) | exact HB.out)) hb); clear BK258 HB; have HO264 := n0_; have BK258 := n1_; have HB := n2_; clear n0_ n1_ n2_; (try clear hb); (try clear hb2); (try clear hk); (try clear hi); (try clear hge); (try clear ho0)) | ((with_reducible refine gate_dst (N := 10) rfl ?_); refine box_event ?hg (N := 10) ?hd (cs := #[.int .i64 0, .int .i64 0, .string (⟨#[]⟩ : ByteArray), .slice none 0 0]) (t := 49) ?hr ?_; (case hd => rfl); (case hg => rfl); (case hr => first | (go_simp; done) | (go_simp; rfl)); intro gb266 hg w30 hbox hb; have n0_ := Aside0.mk (Kd.R_below (by (with_reducible repeat (first | apply Kd.R_alloc | apply Kd.R_drewN | apply Kd.R_drew)); exact HO264.out) hb); have n1_ := Aside0.mk (blk_below (g := gb258) (o := .cells #[.slice A0_0 l0_0.length c0_0] 58 (0, 0)) (by (with_reducible repeat (first|refine zN ?_ _|refine zD ?_|refine zA ?_ _)); exact BK258.out) hb); have n2_ := Aside0.mk (below_step (by repeat (first | (with_reducible first|exact HB.out|apply zE|apply zB|apply zC | refine zJ ?_ GE258.out) | exact HB.out)) hb); have n3_ := Aside0.mk (hbox); have n4_ := Aside0.mk ((by rw [hg]; exact (below_size (by repeat (first | (with_reducible first|exact HB.out|apply zE|apply zB|apply zC | refine zJ ?_ GE258.out) | exact HB.out))) : w.heap.size ≤ gb266)); have n5_ := Aside0.mk ((by rw [hg]; exact (below_size (by repeat (first | (with_reducible first|exact HB.out|apply zE|apply zB|apply zC | refine zJ ?_ GE258.out) | exact HB.out))) : w.heap.size ≤ gb266)); have n6_ := Aside0.mk ((by rw [hg]; exact Nat.ne_of_lt (blk_lt (g := gb258) (o := .cells #[.slice A0_0 l0_0.length c0_0] 58 (0, 0)) (by (with_reducible repeat (first|refine zN ?_ _|refine zD ?_|refine zA ?_ _)); exact BK258.out)) : gb258 ≠ gb266)); have n7_ := Aside0.mk ((by rw [hg]; exact Nat.ne_of_gt (blk_lt (g := gb258) (o := .cells #[.slice A0_0 l0_0.length c0_0] 58 (0, 0)) (by (with_reducible repeat (first|refine zN ?_ _|refine zD ?_|refine zA ?_ _)); exact BK258.out)) : gb266 ≠ gb258)); clear HO264 BK258 HB; have HO264 := n0_; have BK258 := n1_; have HB := n2_; have BK266 := n3_; have GW266 := n4_; have GE266 := n5_; have NB258_266 := n6_; have NB266_258 := n7_; clear n0_ n1_ n2_ n3_ n4_ n5_ n6_ n7_ hb hbox hg; have hnb31 := NB266_258.out; have hnc31 := NB258_266.out; have hcz32_0 : w30.cell? ⟨gb266, 0, none⟩ = some (.int .i64 0) := (blk_cell BK266.out 0).trans rfl; have hcz32_1 : w30.cell? ⟨gb266, 1, none⟩ = some (.int .i64 0) := (blk_cell BK266.out 1).trans rfl; have hcz32_2 : w30.cell? ⟨gb266, 2, none⟩ = some (.string (⟨#[]⟩ : ByteArray)) := (blk_cell BK266.out 2).trans rfl; have hcz32_3 : w30.cell? ⟨gb266, 3, none⟩ = some (.slice none 0 0) := (blk_cell BK266.out 3).trans rfl; have hfz32_0 := blk_frozen BK266.out 0; have hfz32_1 := blk_frozen BK266.out 1; have hfz32_2 := blk_frozen BK266.out 2; have hfz32_3 := blk_frozen BK266.out 3; obtain ⟨Ao33, co33, eo33⟩ := Kd.R_slice HO264.out; subst eo33))
    go_ret2
    exact ⟨by first | rfl | (simp [errW_none, errW_some] <;> rfl) | (simp [*, errW_none, errW_some] <;> rfl), by repeat (first | (with_reducible first|exact HB.out|apply zE|apply zB|apply zC | refine zJ ?_ GE258.out | refine zJ ?_ GE266.out) | exact HB.out)⟩

/-! ### flagstoneref1_Number: function 47 -/
def dgt (x : Nat) : UInt8 := UInt8.ofNat (48 + x)
theorem enc_digit : ∀ e : Fin 10, Utf8.encode (48 + (e.val : Int)) = ⟨#[dgt e.val]⟩ := by decide +kernel
theorem bytes_cons (c : UInt8) (s : List UInt8) : (⟨#[c]⟩ : ByteArray) ++ ⟨s.toArray⟩ = ⟨(c :: s).toArray⟩ := by
  apply ByteArray.ext
  simp
theorem numL_len {n : Int} (hz : n ≠ 0) (h0 : -9223372036854775808 ≤ n) (h1 : n ≤ 9223372036854775807) : (Num.numL n.natAbs).length ≤ 21 := by
  have h := Lib.itoa_length_le n h0 h1
  rw [Num.itoa_eq hz, List.length_append] at h
  omega
set_option maxHeartbeats 4000000 in
set_option maxRecDepth 100000 in
theorem refnumber_any (n : Int) (h0 : -9223372036854775808 ≤ n) (h1 : n ≤ 9223372036854775807) (w : World) :
    Calls Tryd.prog 47 #[.int .i64 n] w fun e w' => e = .returned (.string ⟨(Lib.itoa n).toArray⟩) ∧ Drawn0 w w' := by
  by_cases hz : n = 0
  · subst hz
    have hi : Lib.itoa 0 = [48] := by decide +kernel
    rw [hi]
    go_enter Tryd.func47, Tryd.ntmps47
    go_wp2_with fail
    go_ret
    exact ⟨rfl, Drawn0.refl _⟩
  have hzb : (n == 0) = false := by simpa using hz
  have hlen := numL_len hz h0 h1
  have hitoa := Aside0.mk (Num.itoa_eq hz)
  go_enter Tryd.func47, Tryd.ntmps47
  go_wp2_with fail
  go_loop [0, 3] (fun a b => ∃ (m : Int) (s : List UInt8), a = .int .i64 m ∧ b = .string ⟨s.toArray⟩ ∧ (m < 0 → n < 0) ∧ (0 < m → 0 < n) ∧ Aside0 (Num.numL m.natAbs ++ s = Num.numL n.natAbs) ∧ -9223372036854775808 ≤ m ∧ m ≤ 9223372036854775807) (fun a _ => (intOf a).natAbs)
  case atStart => exact ⟨n, [], rfl, rfl, id, id, ⟨by simp⟩, h0, h1⟩
  case round =>
    obtain ⟨m, s, rfl, rfl, g1, g2, g3, g4, g5⟩ := hrel
    have hs : s.length ≤ 21 := by
      have := congrArg List.length g3.out
      rw [List.length_append] at this
      omega
    by_cases hm : m = 0
    · subst hm
      have g6 : Aside0 (s = Num.numL n.natAbs) := ⟨by have := g3.out; simpa [Num.numL] using this⟩
      by_cases hneg : n < 0
      · have hd := decide_eq_true hneg
        have hcap : ¬ 9223372036854775807 < 1 + s.length := by omega
        go_wp2_with fail
        go_ret
        refine ⟨?_, Drawn0.refl _⟩
        rw [hitoa.out, if_pos hneg, ← g6.out]
        exact congrArg (fun z => Ending.returned (Value.string z)) (bytes_cons 45 s)
      · have hd := decide_eq_false hneg
        go_wp2_with fail
        go_ret
        refine ⟨?_, Drawn0.refl _⟩
        rw [hitoa.out, if_neg (show ¬ n < 0 by omega), ← g6.out]
        rfl
    · have hmb : (m == 0) = false := by simpa using hm
      have hmn : (m != 0) = true := by simpa using hm
      have hstep := Aside0.mk (Num.numL_step (u := m.natAbs) (by omega))
      have hq : m.tdiv 10 < 0 ∨ 0 ≤ m.tdiv 10 := by omega
      have hcap : ¬ 9223372036854775807 < 1 + s.length := by omega
      have hq1 : (m.tdiv 10).natAbs = m.natAbs / 10 := Int.natAbs_tdiv ..
      have hq2 : 0 < m → 0 ≤ m.tdiv 10 := fun h => Int.tdiv_nonneg (by omega) (by omega)
      have hq3 : m < 0 → m.tdiv 10 ≤ 0 := fun h => by
        have := Int.tdiv_nonneg (a := -m) (b := 10) (by omega) (by omega)
        rw [Int.neg_tdiv] at this
        omega
      have hrel2 : (m.tdiv 10 < 0 → n < 0) ∧ (0 < m.tdiv 10 → 0 < n) ∧ -9223372036854775808 ≤ m.tdiv 10 ∧ m.tdiv 10 ≤ 9223372036854775807 := by
        refine ⟨fun h => g1 (by omega), fun h => g2 (by omega), by omega, by omega⟩
      have hmeas : (m.tdiv 10).natAbs < m.natAbs := by rw [hq1]; omega
      have hR := Aside0.mk hrel2; have hM := Aside0.mk hmeas; have hQ := Aside0.mk hq1
      have hwq := Aside0.mk (show wrap64 (m.tdiv 10) = m.tdiv 10 by unfold wrap64; omega)
      have hr0 : (m.tmod 10).natAbs = m.natAbs % 10 := Int.natAbs_tmod ..
      obtain ⟨e, he⟩ : ∃ e : Fin 10, e.val = m.natAbs % 10 := ⟨⟨m.natAbs % 10, by omega⟩, rfl⟩
      have henc := enc_digit e; clear hq hq1 hq2 hq3 hrel2 hmeas
      by_cases hd : m.tmod 10 < 0
      · have hw : Utf8.encode (wrap32 (wrap64 (48 + wrap64 (-m.tmod 10)))) = ⟨#[dgt (m.natAbs % 10)]⟩ := by
          have h48 : wrap32 (wrap64 (48 + wrap64 (-m.tmod 10))) = 48 + (e.val : Int) := by unfold wrap32 wrap64; omega
          rw [h48, henc, he]
        clear hr0 henc he
        go_wp2_with fail
        go_round
        case measure => simpa [intOf] using hM.out
        case rel =>
          refine ⟨m.tdiv 10, dgt (m.natAbs % 10) :: s, rfl, congrArg Value.string (bytes_cons _ s), hR.out.1, hR.out.2.1, ⟨?_⟩, hR.out.2.2.1, hR.out.2.2.2⟩
          rw [hQ.out, ← g3.out, ← hstep.out, List.append_assoc]
          rfl
      · have hd2 : 0 ≤ m.tmod 10 := by omega
        have hw : Utf8.encode (wrap32 (wrap64 (48 + m.tmod 10))) = ⟨#[dgt (m.natAbs % 10)]⟩ := by
          have h48 : wrap32 (wrap64 (48 + m.tmod 10)) = 48 + (e.val : Int) := by unfold wrap32 wrap64; omega
          rw [h48, henc, he]
        clear hr0 henc he
        go_wp2_with fail
        go_round
        case measure => simpa [intOf] using hM.out
        case rel =>
          refine ⟨m.tdiv 10, dgt (m.natAbs % 10) :: s, rfl, congrArg Value.string (bytes_cons _ s), hR.out.1, hR.out.2.1, ⟨?_⟩, hR.out.2.2.1, hR.out.2.2.2⟩
          rw [hQ.out, ← g3.out, ← hstep.out, List.append_assoc]
          rfl
def flagstoneref1_Number.f (a0 : Int) : Option ByteArray := if -9223372036854775808 ≤ a0 ∧ a0 ≤ 9223372036854775807 then some ⟨(Lib.itoa a0).toArray⟩ else none
theorem flagstoneref1_Number.calls (a0 : Int) (r : ByteArray) (w : World) (h : flagstoneref1_Number.f a0 = some r) :
    Calls Tryd.prog 47 #[.int .i64 a0] w fun e w' => e = .returned (.string r) ∧ Drawn0 w w' := by
  unfold flagstoneref1_Number.f at h
  split at h
  · rename_i hb
    obtain rfl := Option.some.inj h
    exact refnumber_any a0 hb.1 hb.2 w
  · cases h

end Go.Proofs.YtefglphdiimhnaaDoor.Q
