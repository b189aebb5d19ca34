import Derived.Test.YtannjakcnnefhaaGreatDoorCU0
import Derived.Test.YtannjakcnnefhaaGreatDoorCU1
-- printed by wip/hp.py (the session's driver of the print, with hand-proved contracts)
namespace Go.Proofs.YtannjakcnnefhaaGreatDoor.U
open Go.RowKit Go.Proofs.YtannjakcnnefhaaGreatDoorW.PrintWords Go.Proofs.YtannjakcnnefhaaGreatDoorW.PrintLast Go.Proofs.YtannjakcnnefhaaGreatDoorW.PrintMore
attribute [local go_sem] max2_int min2_int max_two min_two max_three min_three max_four min_four   -- for this text's walks alone
set_option linter.unusedVariables false
set_option linter.unusedSimpArgs false

/-! ### flagstoneref3_shape: function 30 -/
def flagstoneref3_shape.f (a0_0 : Int) (a0_1 : Int) (a0_2 : ByteArray) (l0_3 : List ByteArray) : Option (Bool) := if a0_0 = 1 then (if a0_0 = 3 then (if a0_0 = 5 then (some true) else (some ((l0_3.length : Int) == 0))) else (if a0_0 = 4 then (if a0_0 = 5 then (some true) else (some ((l0_3.length : Int) == 0))) else (if a0_2.toList = ([] : List UInt8) then (if a0_0 = 5 then (some true) else (some ((l0_3.length : Int) == 0))) else (some false)))) else (if a0_0 = 3 then (if a0_0 = 2 then (if a0_0 = 5 then (some true) else (some ((l0_3.length : Int) == 0))) else (if a0_1 = 0 then (if a0_0 = 5 then (some true) else (some ((l0_3.length : Int) == 0))) else (some false))) else (if a0_0 = 2 then (if a0_0 = 4 then (if a0_0 = 5 then (some true) else (some ((l0_3.length : Int) == 0))) else (if a0_2.toList = ([] : List UInt8) then (if a0_0 = 5 then (some true) else (some ((l0_3.length : Int) == 0))) else (some false))) else (if a0_1 = 0 then (if a0_0 = 4 then (if a0_0 = 5 then (some true) else (some ((l0_3.length : Int) == 0))) else (if a0_2.toList = ([] : List UInt8) then (if a0_0 = 5 then (some true) else (some ((l0_3.length : Int) == 0))) else (some false))) else (some false))))
set_option maxHeartbeats 8000000 in
set_option maxRecDepth 100000 in
theorem flagstoneref3_shape.calls (a0_0 : Int) (a0_1 : Int) (a0_2 : ByteArray) (A0_3 : Option Addr) (c0_3 : Nat) (l0_3 : List ByteArray) (r : Bool) (w : World) (hr0_3 : Kd.C Kd.string w A0_3 l0_3.length l0_3) (hc0_3 : l0_3.length ≤ c0_3) (h : flagstoneref3_shape.f a0_0 a0_1 a0_2 l0_3 = some r) :
  Calls Tryz.prog 30 #[.agg #[.int .i64 a0_0,.int .i64 a0_1,.string a0_2,.slice A0_3 l0_3.length c0_3]] w fun e w'=>e = .returned (.bool r) ∧ Below w.heap.size w w' := by
 have hu24 := Tryz.underlying24; have HR0_3 := Aside0.mk hr0_3; have HC0_3 := Aside0.mk hc0_3; clear hr0_3 hc0_3
 have HB := Aside0.mk (Below.refl w.heap.size w)
 have H : (if a0_0 = 1 then (if a0_0 = 3 then (if a0_0 = 5 then (some true) else (some ((l0_3.length : Int) == 0))) else (if a0_0 = 4 then (if a0_0 = 5 then (some true) else (some ((l0_3.length : Int) == 0))) else (if a0_2.toList = ([] : List UInt8) then (if a0_0 = 5 then (some true) else (some ((l0_3.length : Int) == 0))) else (some false)))) else (if a0_0 = 3 then (if a0_0 = 2 then (if a0_0 = 5 then (some true) else (some ((l0_3.length : Int) == 0))) else (if a0_1 = 0 then (if a0_0 = 5 then (some true) else (some ((l0_3.length : Int) == 0))) else (some false))) else (if a0_0 = 2 then (if a0_0 = 4 then (if a0_0 = 5 then (some true) else (some ((l0_3.length : Int) == 0))) else (if a0_2.toList = ([] : List UInt8) then (if a0_0 = 5 then (some true) else (some ((l0_3.length : Int) == 0))) else (some false))) else (if a0_1 = 0 then (if a0_0 = 4 then (if a0_0 = 5 then (some true) else (some ((l0_3.length : Int) == 0))) else (if a0_2.toList = ([] : List UInt8) then (if a0_0 = 5 then (some true) else (some ((l0_3.length : Int) == 0))) else (some false))) else (some false))))) = some r := h
 clear h
 by_cases c2 : a0_0 = 1
 ·rw [if_pos c2] at H
  have c2b0 : (a0_0 == 1) = true := beq_iff_eq.mpr c2
  have c2b1 : (a0_0 != 1) = false := bne_eq_false_iff_eq.mpr c2
  clear c2
  by_cases c3 : a0_0 = 3
  ·rw [if_pos c3] at H
   have c3b0 : (a0_0 == 3) = true := beq_iff_eq.mpr c3
   have c3b1 : (a0_0 != 3) = false := bne_eq_false_iff_eq.mpr c3
   clear c3
   by_cases c4 : a0_0 = 5
   ·rw [if_pos c4] at H
    have c4b0 : (a0_0 == 5) = true := beq_iff_eq.mpr c4
    have c4b1 : (a0_0 != 5) = false := bne_eq_false_iff_eq.mpr c4
    clear c4
    obtain rfl := Option.some.inj H
    go_enter Tryz.func30,Tryz.ntmps30
    go_wp2_with (first|((with_reducible refine gate_dst (N := 1) rfl ?_);(try (refine gate_guard (by rfl) ?_; dsimp only)); refine box_event ?hg (N := 1) ?hd (cs := #[.int .i64 a0_0,.int .i64 a0_1,.string a0_2,.slice A0_3 l0_3.length c0_3]) (t := 24) ?hr ?_;(case hd=>rfl);(case hg=>rfl);(case hr=>first|(go_simp; done)|(go_simp; rfl)); intro gb213 hg w5 hbox hb; have n0_ := Aside0.mk (below_step (by repeat (first|(with_reducible first|exact HB.out|apply zE|apply zB|apply zC)|exact HB.out)) hb); have n1_ := Aside0.mk (hbox); have n2_ := Aside0.mk ((by rw [hg]; exact (below_size (by repeat (first|(with_reducible first|exact HB.out|apply zE|apply zB|apply zC)|exact HB.out))) : w.heap.size ≤ gb213)); have n3_ := Aside0.mk ((by rw [hg]; exact (below_size (by repeat (first|(with_reducible first|exact HB.out|apply zE|apply zB|apply zC)|exact HB.out))) : w.heap.size ≤ gb213)); clear HB; have HB := n0_; have BK213 := n1_; have GW213 := n2_; have GE213 := n3_; clear n0_ n1_ n2_ n3_ hb hbox hg; have hcz6_0 : w5.cell? ⟨gb213,0,none⟩ = some (.int .i64 a0_0):=(blk_cell BK213.out 0).trans rfl; have hcz6_1 : w5.cell? ⟨gb213,1,none⟩ = some (.int .i64 a0_1):=(blk_cell BK213.out 1).trans rfl; have hcz6_2 : w5.cell? ⟨gb213,2,none⟩ = some (.string a0_2):=(blk_cell BK213.out 2).trans rfl; have hcz6_3 : w5.cell? ⟨gb213,3,none⟩ = some (.slice A0_3 l0_3.length c0_3):=(blk_cell BK213.out 3).trans rfl; have hfz6_0 := blk_frozen BK213.out 0; have hfz6_1 := blk_frozen BK213.out 1; have hfz6_2 := blk_frozen BK213.out 2; have hfz6_3 := blk_frozen BK213.out 3))
    go_ret
    exact ⟨by first|rfl|(simp [errW_none,errW_some]<;>rfl)|(simp [*,errW_none,errW_some]<;>rfl),by repeat (first|(with_reducible first|exact HB.out|apply zE|apply zB|apply zC|refine zJ ?_ GE213.out)|exact HB.out)⟩
   ·rw [if_neg c4] at H
    have c4b0 : (a0_0 == 5) = false := beq_eq_false_iff_ne.mpr c4
    have c4b1 : (a0_0 != 5) = true := bne_iff_ne.mpr c4
    obtain rfl := Option.some.inj H
    go_enter Tryz.func30,Tryz.ntmps30
    go_wp2_with (first|((with_reducible refine gate_dst (N := 1) rfl ?_);(try (refine gate_guard (by rfl) ?_; dsimp only)); refine box_event ?hg (N := 1) ?hd (cs := #[.int .i64 a0_0,.int .i64 a0_1,.string a0_2,.slice A0_3 l0_3.length c0_3]) (t := 24) ?hr ?_;(case hd=>rfl);(case hg=>rfl);(case hr=>first|(go_simp; done)|(go_simp; rfl)); intro gb213 hg w7 hbox hb; have n0_ := Aside0.mk (below_step (by repeat (first|(with_reducible first|exact HB.out|apply zE|apply zB|apply zC)|exact HB.out)) hb); have n1_ := Aside0.mk (hbox); have n2_ := Aside0.mk ((by rw [hg]; exact (below_size (by repeat (first|(with_reducible first|exact HB.out|apply zE|apply zB|apply zC)|exact HB.out))) : w.heap.size ≤ gb213)); have n3_ := Aside0.mk ((by rw [hg]; exact (below_size (by repeat (first|(with_reducible first|exact HB.out|apply zE|apply zB|apply zC)|exact HB.out))) : w.heap.size ≤ gb213)); clear HB; have HB := n0_; have BK213 := n1_; have GW213 := n2_; have GE213 := n3_; clear n0_ n1_ n2_ n3_ hb hbox hg; have hcz8_0 : w7.cell? ⟨gb213,0,none⟩ = some (.int .i64 a0_0):=(blk_cell BK213.out 0).trans rfl; have hcz8_1 : w7.cell? ⟨gb213,1,none⟩ = some (.int .i64 a0_1):=(blk_cell BK213.out 1).trans rfl; have hcz8_2 : w7.cell? ⟨gb213,2,none⟩ = some (.string a0_2):=(blk_cell BK213.out 2).trans rfl; have hcz8_3 : w7.cell? ⟨gb213,3,none⟩ = some (.slice A0_3 l0_3.length c0_3):=(blk_cell BK213.out 3).trans rfl; have hfz8_0 := blk_frozen BK213.out 0; have hfz8_1 := blk_frozen BK213.out 1; have hfz8_2 := blk_frozen BK213.out 2; have hfz8_3 := blk_frozen BK213.out 3))
    go_ret
    exact ⟨by first|rfl|(simp [errW_none,errW_some]<;>rfl)|(simp [*,errW_none,errW_some]<;>rfl),by repeat (first|(with_reducible first|exact HB.out|apply zE|apply zB|apply zC|refine zJ ?_ GE213.out)|exact HB.out)⟩
  ·rw [if_neg c3] at H
   have c3b0 : (a0_0 == 3) = false := beq_eq_false_iff_ne.mpr c3
   have c3b1 : (a0_0 != 3) = true := bne_iff_ne.mpr c3
   by_cases c9 : a0_0 = 4
   ·rw [if_pos c9] at H
    have c9b0 : (a0_0 == 4) = true := beq_iff_eq.mpr c9
    have c9b1 : (a0_0 != 4) = false := bne_eq_false_iff_eq.mpr c9
    clear c9
    by_cases c10 : a0_0 = 5
    ·rw [if_pos c10] at H
     have c10b0 : (a0_0 == 5) = true := beq_iff_eq.mpr c10
     have c10b1 : (a0_0 != 5) = false := bne_eq_false_iff_eq.mpr c10
     clear c10
     obtain rfl := Option.some.inj H
     go_enter Tryz.func30,Tryz.ntmps30
     go_wp2_with (first|((with_reducible refine gate_dst (N := 1) rfl ?_);(try (refine gate_guard (by rfl) ?_; dsimp only)); refine box_event ?hg (N := 1) ?hd (cs := #[.int .i64 a0_0,.int .i64 a0_1,.string a0_2,.slice A0_3 l0_3.length c0_3]) (t := 24) ?hr ?_;(case hd=>rfl);(case hg=>rfl);(case hr=>first|(go_simp; done)|(go_simp; rfl)); intro gb213 hg w11 hbox hb; have n0_ := Aside0.mk (below_step (by repeat (first|(with_reducible first|exact HB.out|apply zE|apply zB|apply zC)|exact HB.out)) hb); have n1_ := Aside0.mk (hbox); have n2_ := Aside0.mk ((by rw [hg]; exact (below_size (by repeat (first|(with_reducible first|exact HB.out|apply zE|apply zB|apply zC)|exact HB.out))) : w.heap.size ≤ gb213)); have n3_ := Aside0.mk ((by rw [hg]; exact (below_size (by repeat (first|(with_reducible first|exact HB.out|apply zE|apply zB|apply zC)|exact HB.out))) : w.heap.size ≤ gb213)); clear HB; have HB := n0_; have BK213 := n1_; have GW213 := n2_; have GE213 := n3_; clear n0_ n1_ n2_ n3_ hb hbox hg; have hcz12_0 : w11.cell? ⟨gb213,0,none⟩ = some (.int .i64 a0_0):=(blk_cell BK213.out 0).trans rfl; have hcz12_1 : w11.cell? ⟨gb213,1,none⟩ = some (.int .i64 a0_1):=(blk_cell BK213.out 1).trans rfl; have hcz12_2 : w11.cell? ⟨gb213,2,none⟩ = some (.string a0_2):=(blk_cell BK213.out 2).trans rfl; have hcz12_3 : w11.cell? ⟨gb213,3,none⟩ = some (.slice A0_3 l0_3.length c0_3):=(blk_cell BK213.out 3).trans rfl; have hfz12_0 := blk_frozen BK213.out 0; have hfz12_1 := blk_frozen BK213.out 1; have hfz12_2 := blk_frozen BK213.out 2; have hfz12_3 := blk_frozen BK213.out 3))
     go_ret
     exact ⟨by first|rfl|(simp [errW_none,errW_some]<;>rfl)|(simp [*,errW_none,errW_some]<;>rfl),by repeat (first|(with_reducible first|exact HB.out|apply zE|apply zB|apply zC|refine zJ ?_ GE213.out)|exact HB.out)⟩
    ·rw [if_neg c10] at H
     have c10b0 : (a0_0 == 5) = false := beq_eq_false_iff_ne.mpr c10
     have c10b1 : (a0_0 != 5) = true := bne_iff_ne.mpr c10
     obtain rfl := Option.some.inj H
     go_enter Tryz.func30,Tryz.ntmps30
     go_wp2_with (first|((with_reducible refine gate_dst (N := 1) rfl ?_);(try (refine gate_guard (by rfl) ?_; dsimp only)); refine box_event ?hg (N := 1) ?hd (cs := #[.int .i64 a0_0,.int .i64 a0_1,.string a0_2,.slice A0_3 l0_3.length c0_3]) (t := 24) ?hr ?_;(case hd=>rfl);(case hg=>rfl);(case hr=>first|(go_simp; done)|(go_simp; rfl)); intro gb213 hg w13 hbox hb; have n0_ := Aside0.mk (below_step (by repeat (first|(with_reducible first|exact HB.out|apply zE|apply zB|apply zC)|exact HB.out)) hb); have n1_ := Aside0.mk (hbox); have n2_ := Aside0.mk ((by rw [hg]; exact (below_size (by repeat (first|(with_reducible first|exact HB.out|apply zE|apply zB|apply zC)|exact HB.out))) : w.heap.size ≤ gb213)); have n3_ := Aside0.mk ((by rw [hg]; exact (below_size (by repeat (first|(with_reducible first|exact HB.out|apply zE|apply zB|apply zC)|exact HB.out))) : w.heap.size ≤ gb213)); clear HB; have HB := n0_; have BK213 := n1_; have GW213 := n2_; have GE213 := n3_; clear n0_ n1_ n2_ n3_ hb hbox hg; have hcz14_0 : w13.cell? ⟨gb213,0,none⟩ = some (.int .i64 a0_0):=(blk_cell BK213.out 0).trans rfl; have hcz14_1 : w13.cell? ⟨gb213,1,none⟩ = some (.int .i64 a0_1):=(blk_cell BK213.out 1).trans rfl; have hcz14_2 : w13.cell? ⟨gb213,2,none⟩ = some (.string a0_2):=(blk_cell BK213.out 2).trans rfl; have hcz14_3 : w13.cell? ⟨gb213,3,none⟩ = some (.slice A0_3 l0_3.length c0_3):=(blk_cell BK213.out 3).trans rfl; have hfz14_0 := blk_frozen BK213.out 0; have hfz14_1 := blk_frozen BK213.out 1; have hfz14_2 := blk_frozen BK213.out 2; have hfz14_3 := blk_frozen BK213.out 3))
     go_ret
     exact ⟨by first|rfl|(simp [errW_none,errW_some]<;>rfl)|(simp [*,errW_none,errW_some]<;>rfl),by repeat (first|(with_reducible first|exact HB.out|apply zE|apply zB|apply zC|refine zJ ?_ GE213.out)|exact HB.out)⟩
   ·rw [if_neg c9] at H
    have c9b0 : (a0_0 == 4) = false := beq_eq_false_iff_ne.mpr c9
    have c9b1 : (a0_0 != 4) = true := bne_iff_ne.mpr c9
    by_cases c15 : a0_2.toList = ([] : List UInt8)
    ·rw [if_pos c15] at H
     have c15b0 : (a0_2.toList == ([] : List UInt8)) = true := beq_iff_eq.mpr c15
     have c15b1 : (a0_2.toList != ([] : List UInt8)) = false := bne_eq_false_iff_eq.mpr c15
     clear c15
     by_cases c16 : a0_0 = 5
     ·rw [if_pos c16] at H
      have c16b0 : (a0_0 == 5) = true := beq_iff_eq.mpr c16
      have c16b1 : (a0_0 != 5) = false := bne_eq_false_iff_eq.mpr c16
      clear c16
      obtain rfl := Option.some.inj H
      go_enter Tryz.func30,Tryz.ntmps30
      go_wp2_with (first|((with_reducible refine gate_dst (N := 1) rfl ?_);(try (refine gate_guard (by rfl) ?_; dsimp only)); refine box_event ?hg (N := 1) ?hd (cs := #[.int .i64 a0_0,.int .i64 a0_1,.string a0_2,.slice A0_3 l0_3.length c0_3]) (t := 24) ?hr ?_;(case hd=>rfl);(case hg=>rfl);(case hr=>first|(go_simp; done)|(go_simp; rfl)); intro gb213 hg w17 hbox hb; have n0_ := Aside0.mk (below_step (by repeat (first|(with_reducible first|exact HB.out|apply zE|apply zB|apply zC)|exact HB.out)) hb); have n1_ := Aside0.mk (hbox); have n2_ := Aside0.mk ((by rw [hg]; exact (below_size (by repeat (first|(with_reducible first|exact HB.out|apply zE|apply zB|apply zC)|exact HB.out))) : w.heap.size ≤ gb213)); have n3_ := Aside0.mk ((by rw [hg]; exact (below_size (by repeat (first|(with_reducible first|exact HB.out|apply zE|apply zB|apply zC)|exact HB.out))) : w.heap.size ≤ gb213)); clear HB; have HB := n0_; have BK213 := n1_; have GW213 := n2_; have GE213 := n3_; clear n0_ n1_ n2_ n3_ hb hbox hg; have hcz18_0 : w17.cell? ⟨gb213,0,none⟩ = some (.int .i64 a0_0):=(blk_cell BK213.out 0).trans rfl; have hcz18_1 : w17.cell? ⟨gb213,1,none⟩ = some (.int .i64 a0_1):=(blk_cell BK213.out 1).trans rfl; have hcz18_2 : w17.cell? ⟨gb213,2,none⟩ = some (.string a0_2):=(blk_cell BK213.out 2).trans rfl; have hcz18_3 : w17.cell? ⟨gb213,3,none⟩ = some (.slice A0_3 l0_3.length c0_3):=(blk_cell BK213.out 3).trans rfl; have hfz18_0 := blk_frozen BK213.out 0; have hfz18_1 := blk_frozen BK213.out 1; have hfz18_2 := blk_frozen BK213.out 2; have hfz18_3 := blk_frozen BK213.out 3))
      go_ret
      exact ⟨by first|rfl|(simp [errW_none,errW_some]<;>rfl)|(simp [*,errW_none,errW_some]<;>rfl),by repeat (first|(with_reducible first|exact HB.out|apply zE|apply zB|apply zC|refine zJ ?_ GE213.out)|exact HB.out)⟩
     ·rw [if_neg c16] at H
      have c16b0 : (a0_0 == 5) = false := beq_eq_false_iff_ne.mpr c16
      have c16b1 : (a0_0 != 5) = true := bne_iff_ne.mpr c16
      obtain rfl := Option.some.inj H
      go_enter Tryz.func30,Tryz.ntmps30
      go_wp2_with (first|((with_reducible refine gate_dst (N := 1) rfl ?_);(try (refine gate_guard (by rfl) ?_; dsimp only)); refine box_event ?hg (N := 1) ?hd (cs := #[.int .i64 a0_0,.int .i64 a0_1,.string a0_2,.slice A0_3 l0_3.length c0_3]) (t := 24) ?hr ?_;(case hd=>rfl);(case hg=>rfl);(case hr=>first|(go_simp; done)|(go_simp; rfl)); intro gb213 hg w19 hbox hb; have n0_ := Aside0.mk (below_step (by repeat (first|(with_reducible first|exact HB.out|apply zE|apply zB|apply zC)|exact HB.out)) hb); have n1_ := Aside0.mk (hbox); have n2_ := Aside0.mk ((by rw [hg]; exact (below_size (by repeat (first|(with_reducible first|exact HB.out|apply zE|apply zB|apply zC)|exact HB.out))) : w.heap.size ≤ gb213)); have n3_ := Aside0.mk ((by rw [hg]; exact (below_size (by repeat (first|(with_reducible first|exact HB.out|apply zE|apply zB|apply zC)|exact HB.out))) : w.heap.size ≤ gb213)); clear HB; have HB := n0_; have BK213 := n1_; have GW213 := n2_; have GE213 := n3_; clear n0_ n1_ n2_ n3_ hb hbox hg; have hcz20_0 : w19.cell? ⟨gb213,0,none⟩ = some (.int .i64 a0_0):=(blk_cell BK213.out 0).trans rfl; have hcz20_1 : w19.cell? ⟨gb213,1,none⟩ = some (.int .i64 a0_1):=(blk_cell BK213.out 1).trans rfl; have hcz20_2 : w19.cell? ⟨gb213,2,none⟩ = some (.string a0_2):=(blk_cell BK213.out 2).trans rfl; have hcz20_3 : w19.cell? ⟨gb213,3,none⟩ = some (.slice A0_3 l0_3.length c0_3):=(blk_cell BK213.out 3).trans rfl; have hfz20_0 := blk_frozen BK213.out 0; have hfz20_1 := blk_frozen BK213.out 1; have hfz20_2 := blk_frozen BK213.out 2; have hfz20_3 := blk_frozen BK213.out 3))
      go_ret
      exact ⟨by first|rfl|(simp [errW_none,errW_some]<;>rfl)|(simp [*,errW_none,errW_some]<;>rfl),by repeat (first|(with_reducible first|exact HB.out|apply zE|apply zB|apply zC|refine zJ ?_ GE213.out)|exact HB.out)⟩
    ·rw [if_neg c15] at H
     have c15b0 : (a0_2.toList == ([] : List UInt8)) = false := beq_eq_false_iff_ne.mpr c15
     have c15b1 : (a0_2.toList != ([] : List UInt8)) = true := bne_iff_ne.mpr c15
     obtain rfl := Option.some.inj H
     go_enter Tryz.func30,Tryz.ntmps30
     go_wp2_with (first|((with_reducible refine gate_dst (N := 1) rfl ?_);(try (refine gate_guard (by rfl) ?_; dsimp only)); refine box_event ?hg (N := 1) ?hd (cs := #[.int .i64 a0_0,.int .i64 a0_1,.string a0_2,.slice A0_3 l0_3.length c0_3]) (t := 24) ?hr ?_;(case hd=>rfl);(case hg=>rfl);(case hr=>first|(go_simp; done)|(go_simp; rfl)); intro gb213 hg w21 hbox hb; have n0_ := Aside0.mk (below_step (by repeat (first|(with_reducible first|exact HB.out|apply zE|apply zB|apply zC)|exact HB.out)) hb); have n1_ := Aside0.mk (hbox); have n2_ := Aside0.mk ((by rw [hg]; exact (below_size (by repeat (first|(with_reducible first|exact HB.out|apply zE|apply zB|apply zC)|exact HB.out))) : w.heap.size ≤ gb213)); have n3_ := Aside0.mk ((by rw [hg]; exact (below_size (by repeat (first|(with_reducible first|exact HB.out|apply zE|apply zB|apply zC)|exact HB.out))) : w.heap.size ≤ gb213)); clear HB; have HB := n0_; have BK213 := n1_; have GW213 := n2_; have GE213 := n3_; clear n0_ n1_ n2_ n3_ hb hbox hg; have hcz22_0 : w21.cell? ⟨gb213,0,none⟩ = some (.int .i64 a0_0):=(blk_cell BK213.out 0).trans rfl; have hcz22_1 : w21.cell? ⟨gb213,1,none⟩ = some (.int .i64 a0_1):=(blk_cell BK213.out 1).trans rfl; have hcz22_2 : w21.cell? ⟨gb213,2,none⟩ = some (.string a0_2):=(blk_cell BK213.out 2).trans rfl; have hcz22_3 : w21.cell? ⟨gb213,3,none⟩ = some (.slice A0_3 l0_3.length c0_3):=(blk_cell BK213.out 3).trans rfl; have hfz22_0 := blk_frozen BK213.out 0; have hfz22_1 := blk_frozen BK213.out 1; have hfz22_2 := blk_frozen BK213.out 2; have hfz22_3 := blk_frozen BK213.out 3))
     go_ret
     exact ⟨by first|rfl|(simp [errW_none,errW_some]<;>rfl)|(simp [*,errW_none,errW_some]<;>rfl),by repeat (first|(with_reducible first|exact HB.out|apply zE|apply zB|apply zC|refine zJ ?_ GE213.out)|exact HB.out)⟩
 ·rw [if_neg c2] at H
  have c2b0 : (a0_0 == 1) = false := beq_eq_false_iff_ne.mpr c2
  have c2b1 : (a0_0 != 1) = true := bne_iff_ne.mpr c2
  by_cases c23 : a0_0 = 3
  ·rw [if_pos c23] at H
   have c23b0 : (a0_0 == 3) = true := beq_iff_eq.mpr c23
   have c23b1 : (a0_0 != 3) = false := bne_eq_false_iff_eq.mpr c23
   clear c23
   by_cases c24 : a0_0 = 2
   ·rw [if_pos c24] at H
    have c24b0 : (a0_0 == 2) = true := beq_iff_eq.mpr c24
    have c24b1 : (a0_0 != 2) = false := bne_eq_false_iff_eq.mpr c24
    clear c24
    by_cases c25 : a0_0 = 5
    ·rw [if_pos c25] at H
     have c25b0 : (a0_0 == 5) = true := beq_iff_eq.mpr c25
     have c25b1 : (a0_0 != 5) = false := bne_eq_false_iff_eq.mpr c25
     clear c25
     obtain rfl := Option.some.inj H
     go_enter Tryz.func30,Tryz.ntmps30
     go_wp2_with (first|((with_reducible refine gate_dst (N := 1) rfl ?_);(try (refine gate_guard (by rfl) ?_; dsimp only)); refine box_event ?hg (N := 1) ?hd (cs := #[.int .i64 a0_0,.int .i64 a0_1,.string a0_2,.slice A0_3 l0_3.length c0_3]) (t := 24) ?hr ?_;(case hd=>rfl);(case hg=>rfl);(case hr=>first|(go_simp; done)|(go_simp; rfl)); intro gb213 hg w26 hbox hb; have n0_ := Aside0.mk (below_step (by repeat (first|(with_reducible first|exact HB.out|apply zE|apply zB|apply zC)|exact HB.out)) hb); have n1_ := Aside0.mk (hbox); have n2_ := Aside0.mk ((by rw [hg]; exact (below_size (by repeat (first|(with_reducible first|exact HB.out|apply zE|apply zB|apply zC)|exact HB.out))) : w.heap.size ≤ gb213)); have n3_ := Aside0.mk ((by rw [hg]; exact (below_size (by repeat (first|(with_reducible first|exact HB.out|apply zE|apply zB|apply zC)|exact HB.out))) : w.heap.size ≤ gb213)); clear HB; have HB := n0_; have BK213 := n1_; have GW213 := n2_; have GE213 := n3_; clear n0_ n1_ n2_ n3_ hb hbox hg; have hcz27_0 : w26.cell? ⟨gb213,0,none⟩ = some (.int .i64 a0_0):=(blk_cell BK213.out 0).trans rfl; have hcz27_1 : w26.cell? ⟨gb213,1,none⟩ = some (.int .i64 a0_1):=(blk_cell BK213.out 1).trans rfl; have hcz27_2 : w26.cell? ⟨gb213,2,none⟩ = some (.string a0_2):=(blk_cell BK213.out 2).trans rfl; have hcz27_3 : w26.cell? ⟨gb213,3,none⟩ = some (.slice A0_3 l0_3.length c0_3):=(blk_cell BK213.out 3).trans rfl; have hfz27_0 := blk_frozen BK213.out 0; have hfz27_1 := blk_frozen BK213.out 1; have hfz27_2 := blk_frozen BK213.out 2; have hfz27_3 := blk_frozen BK213.out 3))
     go_ret
     exact ⟨by first|rfl|(simp [errW_none,errW_some]<;>rfl)|(simp [*,errW_none,errW_some]<;>rfl),by repeat (first|(with_reducible first|exact HB.out|apply zE|apply zB|apply zC|refine zJ ?_ GE213.out)|exact HB.out)⟩
    ·rw [if_neg c25] at H
     have c25b0 : (a0_0 == 5) = false := beq_eq_false_iff_ne.mpr c25
     have c25b1 : (a0_0 != 5) = true := bne_iff_ne.mpr c25
     obtain rfl := Option.some.inj H
     go_enter Tryz.func30,Tryz.ntmps30
     go_wp2_with (first|((with_reducible refine gate_dst (N := 1) rfl ?_);(try (refine gate_guard (by rfl) ?_; dsimp only)); refine box_event ?hg (N := 1) ?hd (cs := #[.int .i64 a0_0,.int .i64 a0_1,.string a0_2,.slice A0_3 l0_3.length c0_3]) (t := 24) ?hr ?_;(case hd=>rfl);(case hg=>rfl);(case hr=>first|(go_simp; done)|(go_simp; rfl)); intro gb213 hg w28 hbox hb; have n0_ := Aside0.mk (below_step (by repeat (first|(with_reducible first|exact HB.out|apply zE|apply zB|apply zC)|exact HB.out)) hb); have n1_ := Aside0.mk (hbox); have n2_ := Aside0.mk ((by rw [hg]; exact (below_size (by repeat (first|(with_reducible first|exact HB.out|apply zE|apply zB|apply zC)|exact HB.out))) : w.heap.size ≤ gb213)); have n3_ := Aside0.mk ((by rw [hg]; exact (below_size (by repeat (first|(with_reducible first|exact HB.out|apply zE|apply zB|apply zC)|exact HB.out))) : w.heap.size ≤ gb213)); clear HB; have HB := n0_; have BK213 := n1_; have GW213 := n2_; have GE213 := n3_; clear n0_ n1_ n2_ n3_ hb hbox hg; have hcz29_0 : w28.cell? ⟨gb213,0,none⟩ = some (.int .i64 a0_0):=(blk_cell BK213.out 0).trans rfl; have hcz29_1 : w28.cell? ⟨gb213,1,none⟩ = some (.int .i64 a0_1):=(blk_cell BK213.out 1).trans rfl; have hcz29_2 : w28.cell? ⟨gb213,2,none⟩ = some (.string a0_2):=(blk_cell BK213.out 2).trans rfl; have hcz29_3 : w28.cell? ⟨gb213,3,none⟩ = some (.slice A0_3 l0_3.length c0_3):=(blk_cell BK213.out 3).trans rfl; have hfz29_0 := blk_frozen BK213.out 0; have hfz29_1 := blk_frozen BK213.out 1; have hfz29_2 := blk_frozen BK213.out 2; have hfz29_3 := blk_frozen BK213.out 3))
     go_ret
     exact ⟨by first|rfl|(simp [errW_none,errW_some]<;>rfl)|(simp [*,errW_none,errW_some]<;>rfl),by repeat (first|(with_reducible first|exact HB.out|apply zE|apply zB|apply zC|refine zJ ?_ GE213.out)|exact HB.out)⟩
   ·rw [if_neg c24] at H
    have c24b0 : (a0_0 == 2) = false := beq_eq_false_iff_ne.mpr c24
    have c24b1 : (a0_0 != 2) = true := bne_iff_ne.mpr c24
    by_cases c30 : a0_1 = 0
    ·rw [if_pos c30] at H
     have c30b0 : (a0_1 == 0) = true := beq_iff_eq.mpr c30
     have c30b1 : (a0_1 != 0) = false := bne_eq_false_iff_eq.mpr c30
     clear c30
     by_cases c31 : a0_0 = 5
     ·rw [if_pos c31] at H
      have c31b0 : (a0_0 == 5) = true := beq_iff_eq.mpr c31
      have c31b1 : (a0_0 != 5) = false := bne_eq_false_iff_eq.mpr c31
      clear c31
      obtain rfl := Option.some.inj H
      go_enter Tryz.func30,Tryz.ntmps30
      go_wp2_with (first|((with_reducible refine gate_dst (N := 1) rfl ?_);(try (refine gate_guard (by rfl) ?_; dsimp only)); refine box_event ?hg (N := 1) ?hd (cs := #[.int .i64 a0_0,.int .i64 a0_1,.string a0_2,.slice A0_3 l0_3.length c0_3]) (t := 24) ?hr ?_;(case hd=>rfl);(case hg=>rfl);(case hr=>first|(go_simp; done)|(go_simp; rfl)); intro gb213 hg w32 hbox hb; have n0_ := Aside0.mk (below_step (by repeat (first|(with_reducible first|exact HB.out|apply zE|apply zB|apply zC)|exact HB.out)) hb); have n1_ := Aside0.mk (hbox); have n2_ := Aside0.mk ((by rw [hg]; exact (below_size (by repeat (first|(with_reducible first|exact HB.out|apply zE|apply zB|apply zC)|exact HB.out))) : w.heap.size ≤ gb213)); have n3_ := Aside0.mk ((by rw [hg]; exact (below_size (by repeat (first|(with_reducible first|exact HB.out|apply zE|apply zB|apply zC)|exact HB.out))) : w.heap.size ≤ gb213)); clear HB; have HB := n0_; have BK213 := n1_; have GW213 := n2_; have GE213 := n3_; clear n0_ n1_ n2_ n3_ hb hbox hg; have hcz33_0 : w32.cell? ⟨gb213,0,none⟩ = some (.int .i64 a0_0):=(blk_cell BK213.out 0).trans rfl; have hcz33_1 : w32.cell? ⟨gb213,1,none⟩ = some (.int .i64 a0_1):=(blk_cell BK213.out 1).trans rfl; have hcz33_2 : w32.cell? ⟨gb213,2,none⟩ = some (.string a0_2):=(blk_cell BK213.out 2).trans rfl; have hcz33_3 : w32.cell? ⟨gb213,3,none⟩ = some (.slice A0_3 l0_3.length c0_3):=(blk_cell BK213.out 3).trans rfl; have hfz33_0 := blk_frozen BK213.out 0; have hfz33_1 := blk_frozen BK213.out 1; have hfz33_2 := blk_frozen BK213.out 2; have hfz33_3 := blk_frozen BK213.out 3))
      go_ret
      exact ⟨by first|rfl|(simp [errW_none,errW_some]<;>rfl)|(simp [*,errW_none,errW_some]<;>rfl),by repeat (first|(with_reducible first|exact HB.out|apply zE|apply zB|apply zC|refine zJ ?_ GE213.out)|exact HB.out)⟩
     ·rw [if_neg c31] at H
      have c31b0 : (a0_0 == 5) = false := beq_eq_false_iff_ne.mpr c31
      have c31b1 : (a0_0 != 5) = true := bne_iff_ne.mpr c31
      obtain rfl := Option.some.inj H
      go_enter Tryz.func30,Tryz.ntmps30
      go_wp2_with (first|((with_reducible refine gate_dst (N := 1) rfl ?_);(try (refine gate_guard (by rfl) ?_; dsimp only)); refine box_event ?hg (N := 1) ?hd (cs := #[.int .i64 a0_0,.int .i64 a0_1,.string a0_2,.slice A0_3 l0_3.length c0_3]) (t := 24) ?hr ?_;(case hd=>rfl);(case hg=>rfl);(case hr=>first|(go_simp; done)|(go_simp; rfl)); intro gb213 hg w34 hbox hb; have n0_ := Aside0.mk (below_step (by repeat (first|(with_reducible first|exact HB.out|apply zE|apply zB|apply zC)|exact HB.out)) hb); have n1_ := Aside0.mk (hbox); have n2_ := Aside0.mk ((by rw [hg]; exact (below_size (by repeat (first|(with_reducible first|exact HB.out|apply zE|apply zB|apply zC)|exact HB.out))) : w.heap.size ≤ gb213)); have n3_ := Aside0.mk ((by rw [hg]; exact (below_size (by repeat (first|(with_reducible first|exact HB.out|apply zE|apply zB|apply zC)|exact HB.out))) : w.heap.size ≤ gb213)); clear HB; have HB := n0_; have BK213 := n1_; have GW213 := n2_; have GE213 := n3_; clear n0_ n1_ n2_ n3_ hb hbox hg; have hcz35_0 : w34.cell? ⟨gb213,0,none⟩ = some (.int .i64 a0_0):=(blk_cell BK213.out 0).trans rfl; have hcz35_1 : w34.cell? ⟨gb213,1,none⟩ = some (.int .i64 a0_1):=(blk_cell BK213.out 1).trans rfl; have hcz35_2 : w34.cell? ⟨gb213,2,none⟩ = some (.string a0_2):=(blk_cell BK213.out 2).trans rfl; have hcz35_3 : w34.cell? ⟨gb213,3,none⟩ = some (.slice A0_3 l0_3.length c0_3):=(blk_cell BK213.out 3).trans rfl; have hfz35_0 := blk_frozen BK213.out 0; have hfz35_1 := blk_frozen BK213.out 1; have hfz35_2 := blk_frozen BK213.out 2; have hfz35_3 := blk_frozen BK213.out 3))
      go_ret
      exact ⟨by first|rfl|(simp [errW_none,errW_some]<;>rfl)|(simp [*,errW_none,errW_some]<;>rfl),by repeat (first|(with_reducible first|exact HB.out|apply zE|apply zB|apply zC|refine zJ ?_ GE213.out)|exact HB.out)⟩
    ·rw [if_neg c30] at H
     have c30b0 : (a0_1 == 0) = false := beq_eq_false_iff_ne.mpr c30
     have c30b1 : (a0_1 != 0) = true := bne_iff_ne.mpr c30
     obtain rfl := Option.some.inj H
     go_enter Tryz.func30,Tryz.ntmps30
     go_wp2_with (first|((with_reducible refine gate_dst (N := 1) rfl ?_);(try (refine gate_guard (by rfl) ?_; dsimp only)); refine box_event ?hg (N := 1) ?hd (cs := #[.int .i64 a0_0,.int .i64 a0_1,.string a0_2,.slice A0_3 l0_3.length c0_3]) (t := 24) ?hr ?_;(case hd=>rfl);(case hg=>rfl);(case hr=>first|(go_simp; done)|(go_simp; rfl)); intro gb213 hg w36 hbox hb; have n0_ := Aside0.mk (below_step (by repeat (first|(with_reducible first|exact HB.out|apply zE|apply zB|apply zC)|exact HB.out)) hb); have n1_ := Aside0.mk (hbox); have n2_ := Aside0.mk ((by rw [hg]; exact (below_size (by repeat (first|(with_reducible first|exact HB.out|apply zE|apply zB|apply zC)|exact HB.out))) : w.heap.size ≤ gb213)); have n3_ := Aside0.mk ((by rw [hg]; exact (below_size (by repeat (first|(with_reducible first|exact HB.out|apply zE|apply zB|apply zC)|exact HB.out))) : w.heap.size ≤ gb213)); clear HB; have HB := n0_; have BK213 := n1_; have GW213 := n2_; have GE213 := n3_; clear n0_ n1_ n2_ n3_ hb hbox hg; have hcz37_0 : w36.cell? ⟨gb213,0,none⟩ = some (.int .i64 a0_0):=(blk_cell BK213.out 0).trans rfl; have hcz37_1 : w36.cell? ⟨gb213,1,none⟩ = some (.int .i64 a0_1):=(blk_cell BK213.out 1).trans rfl; have hcz37_2 : w36.cell? ⟨gb213,2,none⟩ = some (.string a0_2):=(blk_cell BK213.out 2).trans rfl; have hcz37_3 : w36.cell? ⟨gb213,3,none⟩ = some (.slice A0_3 l0_3.length c0_3):=(blk_cell BK213.out 3).trans rfl; have hfz37_0 := blk_frozen BK213.out 0; have hfz37_1 := blk_frozen BK213.out 1; have hfz37_2 := blk_frozen BK213.out 2; have hfz37_3 := blk_frozen BK213.out 3))
     go_ret
     exact ⟨by first|rfl|(simp [errW_none,errW_some]<;>rfl)|(simp [*,errW_none,errW_some]<;>rfl),by repeat (first|(with_reducible first|exact HB.out|apply zE|apply zB|apply zC|refine zJ ?_ GE213.out)|exact HB.out)⟩
  ·rw [if_neg c23] at H
   have c23b0 : (a0_0 == 3) = false := beq_eq_false_iff_ne.mpr c23
   have c23b1 : (a0_0 != 3) = true := bne_iff_ne.mpr c23
   by_cases c38 : a0_0 = 2
   ·rw [if_pos c38] at H
    have c38b0 : (a0_0 == 2) = true := beq_iff_eq.mpr c38
    have c38b1 : (a0_0 != 2) = false := bne_eq_false_iff_eq.mpr c38
    clear c38
    by_cases c39 : a0_0 = 4
    ·rw [if_pos c39] at H
     have c39b0 : (a0_0 == 4) = true := beq_iff_eq.mpr c39
     have c39b1 : (a0_0 != 4) = false := bne_eq_false_iff_eq.mpr c39
     clear c39
     by_cases c40 : a0_0 = 5
     ·rw [if_pos c40] at H
      have c40b0 : (a0_0 == 5) = true := beq_iff_eq.mpr c40
      have c40b1 : (a0_0 != 5) = false := bne_eq_false_iff_eq.mpr c40
      clear c40
      obtain rfl := Option.some.inj H
      go_enter Tryz.func30,Tryz.ntmps30
      go_wp2_with (first|((with_reducible refine gate_dst (N := 1) rfl ?_);(try (refine gate_guard (by rfl) ?_; dsimp only)); refine box_event ?hg (N := 1) ?hd (cs := #[.int .i64 a0_0,.int .i64 a0_1,.string a0_2,.slice A0_3 l0_3.length c0_3]) (t := 24) ?hr ?_;(case hd=>rfl);(case hg=>rfl);(case hr=>first|(go_simp; done)|(go_simp; rfl)); intro gb213 hg w41 hbox hb; have n0_ := Aside0.mk (below_step (by repeat (first|(with_reducible first|exact HB.out|apply zE|apply zB|apply zC)|exact HB.out)) hb); have n1_ := Aside0.mk (hbox); have n2_ := Aside0.mk ((by rw [hg]; exact (below_size (by repeat (first|(with_reducible first|exact HB.out|apply zE|apply zB|apply zC)|exact HB.out))) : w.heap.size ≤ gb213)); have n3_ := Aside0.mk ((by rw [hg]; exact (below_size (by repeat (first|(with_reducible first|exact HB.out|apply zE|apply zB|apply zC)|exact HB.out))) : w.heap.size ≤ gb213)); clear HB; have HB := n0_; have BK213 := n1_; have GW213 := n2_; have GE213 := n3_; clear n0_ n1_ n2_ n3_ hb hbox hg; have hcz42_0 : w41.cell? ⟨gb213,0,none⟩ = some (.int .i64 a0_0):=(blk_cell BK213.out 0).trans rfl; have hcz42_1 : w41.cell? ⟨gb213,1,none⟩ = some (.int .i64 a0_1):=(blk_cell BK213.out 1).trans rfl; have hcz42_2 : w41.cell? ⟨gb213,2,none⟩ = some (.string a0_2):=(blk_cell BK213.out 2).trans rfl; have hcz42_3 : w41.cell? ⟨gb213,3,none⟩ = some (.slice A0_3 l0_3.length c0_3):=(blk_cell BK213.out 3).trans rfl; have hfz42_0 := blk_frozen BK213.out 0; have hfz42_1 := blk_frozen BK213.out 1; have hfz42_2 := blk_frozen BK213.out 2; have hfz42_3 := blk_frozen BK213.out 3))
      go_ret
      exact ⟨by first|rfl|(simp [errW_none,errW_some]<;>rfl)|(simp [*,errW_none,errW_some]<;>rfl),by repeat (first|(with_reducible first|exact HB.out|apply zE|apply zB|apply zC|refine zJ ?_ GE213.out)|exact HB.out)⟩
     ·rw [if_neg c40] at H
      have c40b0 : (a0_0 == 5) = false := beq_eq_false_iff_ne.mpr c40
      have c40b1 : (a0_0 != 5) = true := bne_iff_ne.mpr c40
      obtain rfl := Option.some.inj H
      go_enter Tryz.func30,Tryz.ntmps30
      go_wp2_with (first|((with_reducible refine gate_dst (N := 1) rfl ?_);(try (refine gate_guard (by rfl) ?_; dsimp only)); refine box_event ?hg (N := 1) ?hd (cs := #[.int .i64 a0_0,.int .i64 a0_1,.string a0_2,.slice A0_3 l0_3.length c0_3]) (t := 24) ?hr ?_;(case hd=>rfl);(case hg=>rfl);(case hr=>first|(go_simp; done)|(go_simp; rfl)); intro gb213 hg w43 hbox hb; have n0_ := Aside0.mk (below_step (by repeat (first|(with_reducible first|exact HB.out|apply zE|apply zB|apply zC)|exact HB.out)) hb); have n1_ := Aside0.mk (hbox); have n2_ := Aside0.mk ((by rw [hg]; exact (below_size (by repeat (first|(with_reducible first|exact HB.out|apply zE|apply zB|apply zC)|exact HB.out))) : w.heap.size ≤ gb213)); have n3_ := Aside0.mk ((by rw [hg]; exact (below_size (by repeat (first|(with_reducible first|exact HB.out|apply zE|apply zB|apply zC)|exact HB.out))) : w.heap.size ≤ gb213)); clear HB; have HB := n0_; have BK213 := n1_; have GW213 := n2_; have GE213 := n3_; clear n0_ n1_ n2_ n3_ hb hbox hg; have hcz44_0 : w43.cell? ⟨gb213,0,none⟩ = some (.int .i64 a0_0):=(blk_cell BK213.out 0).trans rfl; have hcz44_1 : w43.cell? ⟨gb213,1,none⟩ = some (.int .i64 a0_1):=(blk_cell BK213.out 1).trans rfl; have hcz44_2 : w43.cell? ⟨gb213,2,none⟩ = some (.string a0_2):=(blk_cell BK213.out 2).trans rfl; have hcz44_3 : w43.cell? ⟨gb213,3,none⟩ = some (.slice A0_3 l0_3.length c0_3):=(blk_cell BK213.out 3).trans rfl; have hfz44_0 := blk_frozen BK213.out 0; have hfz44_1 := blk_frozen BK213.out 1; have hfz44_2 := blk_frozen BK213.out 2; have hfz44_3 := blk_frozen BK213.out 3))
      go_ret
      exact ⟨by first|rfl|(simp [errW_none,errW_some]<;>rfl)|(simp [*,errW_none,errW_some]<;>rfl),by repeat (first|(with_reducible first|exact HB.out|apply zE|apply zB|apply zC|refine zJ ?_ GE213.out)|exact HB.out)⟩
    ·rw [if_neg c39] at H
     have c39b0 : (a0_0 == 4) = false := beq_eq_false_iff_ne.mpr c39
     have c39b1 : (a0_0 != 4) = true := bne_iff_ne.mpr c39
     by_cases c45 : a0_2.toList = ([] : List UInt8)
     ·rw [if_pos c45] at H
      have c45b0 : (a0_2.toList == ([] : List UInt8)) = true := beq_iff_eq.mpr c45
      have c45b1 : (a0_2.toList != ([] : List UInt8)) = false := bne_eq_false_iff_eq.mpr c45
      clear c45
      by_cases c46 : a0_0 = 5
      ·rw [if_pos c46] at H
       have c46b0 : (a0_0 == 5) = true := beq_iff_eq.mpr c46
       have c46b1 : (a0_0 != 5) = false := bne_eq_false_iff_eq.mpr c46
       clear c46
       obtain rfl := Option.some.inj H
       go_enter Tryz.func30,Tryz.ntmps30
       go_wp2_with (first|((with_reducible refine gate_dst (N := 1) rfl ?_);(try (refine gate_guard (by rfl) ?_; dsimp only)); refine box_event ?hg (N := 1) ?hd (cs := #[.int .i64 a0_0,.int .i64 a0_1,.string a0_2,.slice A0_3 l0_3.length c0_3]) (t := 24) ?hr ?_;(case hd=>rfl);(case hg=>rfl);(case hr=>first|(go_simp; done)|(go_simp; rfl)); intro gb213 hg w47 hbox hb; have n0_ := Aside0.mk (below_step (by repeat (first|(with_reducible first|exact HB.out|apply zE|apply zB|apply zC)|exact HB.out)) hb); have n1_ := Aside0.mk (hbox); have n2_ := Aside0.mk ((by rw [hg]; exact (below_size (by repeat (first|(with_reducible first|exact HB.out|apply zE|apply zB|apply zC)|exact HB.out))) : w.heap.size ≤ gb213)); have n3_ := Aside0.mk ((by rw [hg]; exact (below_size (by repeat (first|(with_reducible first|exact HB.out|apply zE|apply zB|apply zC)|exact HB.out))) : w.heap.size ≤ gb213)); clear HB; have HB := n0_; have BK213 := n1_; have GW213 := n2_; have GE213 := n3_; clear n0_ n1_ n2_ n3_ hb hbox hg; have hcz48_0 : w47.cell? ⟨gb213,0,none⟩ = some (.int .i64 a0_0):=(blk_cell BK213.out 0).trans rfl; have hcz48_1 : w47.cell? ⟨gb213,1,none⟩ = some (.int .i64 a0_1):=(blk_cell BK213.out 1).trans rfl; have hcz48_2 : w47.cell? ⟨gb213,2,none⟩ = some (.string a0_2):=(blk_cell BK213.out 2).trans rfl; have hcz48_3 : w47.cell? ⟨gb213,3,none⟩ = some (.slice A0_3 l0_3.length c0_3):=(blk_cell BK213.out 3).trans rfl; have hfz48_0 := blk_frozen BK213.out 0; have hfz48_1 := blk_frozen BK213.out 1; have hfz48_2 := blk_frozen BK213.out 2; have hfz48_3 := blk_frozen BK213.out 3))
       go_ret
       exact ⟨by first|rfl|(simp [errW_none,errW_some]<;>rfl)|(simp [*,errW_none,errW_some]<;>rfl),by repeat (first|(with_reducible first|exact HB.out|apply zE|apply zB|apply zC|refine zJ ?_ GE213.out)|exact HB.out)⟩
      ·rw [if_neg c46] at H
       have c46b0 : (a0_0 == 5) = false := beq_eq_false_iff_ne.mpr c46
       have c46b1 : (a0_0 != 5) = true := bne_iff_ne.mpr c46
       obtain rfl := Option.some.inj H
       go_enter Tryz.func30,Tryz.ntmps30
       go_wp2_with (first|((with_reducible refine gate_dst (N := 1) rfl ?_);(try (refine gate_guard (by rfl) ?_; dsimp only)); refine box_event ?hg (N := 1) ?hd (cs := #[.int .i64 a0_0,.int .i64 a0_1,.string a0_2,.slice A0_3 l0_3.length c0_3]) (t := 24) ?hr ?_;(case hd=>rfl);(case hg=>rfl);(case hr=>first|(go_simp; done)|(go_simp; rfl)); intro gb213 hg w49 hbox hb; have n0_ := Aside0.mk (below_step (by repeat (first|(with_reducible first|exact HB.out|apply zE|apply zB|apply zC)|exact HB.out)) hb); have n1_ := Aside0.mk (hbox); have n2_ := Aside0.mk ((by rw [hg]; exact (below_size (by repeat (first|(with_reducible first|exact HB.out|apply zE|apply zB|apply zC)|exact HB.out))) : w.heap.size ≤ gb213)); have n3_ := Aside0.mk ((by rw [hg]; exact (below_size (by repeat (first|(with_reducible first|exact HB.out|apply zE|apply zB|apply zC)|exact HB.out))) : w.heap.size ≤ gb213)); clear HB; have HB := n0_; have BK213 := n1_; have GW213 := n2_; have GE213 := n3_; clear n0_ n1_ n2_ n3_ hb hbox hg; have hcz50_0 : w49.cell? ⟨gb213,0,none⟩ = some (.int .i64 a0_0):=(blk_cell BK213.out 0).trans rfl; have hcz50_1 : w49.cell? ⟨gb213,1,none⟩ = some (.int .i64 a0_1):=(blk_cell BK213.out 1).trans rfl; have hcz50_2 : w49.cell? ⟨gb213,2,none⟩ = some (.string a0_2):=(blk_cell BK213.out 2).trans rfl; have hcz50_3 : w49.cell? ⟨gb213,3,none⟩ = some (.slice A0_3 l0_3.length c0_3):=(blk_cell BK213.out 3).trans rfl; have hfz50_0 := blk_frozen BK213.out 0; have hfz50_1 := blk_frozen BK213.out 1; have hfz50_2 := blk_frozen BK213.out 2; have hfz50_3 := blk_frozen BK213.out 3))
       go_ret
       exact ⟨by first|rfl|(simp [errW_none,errW_some]<;>rfl)|(simp [*,errW_none,errW_some]<;>rfl),by repeat (first|(with_reducible first|exact HB.out|apply zE|apply zB|apply zC|refine zJ ?_ GE213.out)|exact HB.out)⟩
     ·rw [if_neg c45] at H
      have c45b0 : (a0_2.toList == ([] : List UInt8)) = false := beq_eq_false_iff_ne.mpr c45
      have c45b1 : (a0_2.toList != ([] : List UInt8)) = true := bne_iff_ne.mpr c45
      obtain rfl := Option.some.inj H
      go_enter Tryz.func30,Tryz.ntmps30
      go_wp2_with (first|((with_reducible refine gate_dst (N := 1) rfl ?_);(try (refine gate_guard (by rfl) ?_; dsimp only)); refine box_event ?hg (N := 1) ?hd (cs := #[.int .i64 a0_0,.int .i64 a0_1,.string a0_2,.slice A0_3 l0_3.length c0_3]) (t := 24) ?hr ?_;(case hd=>rfl);(case hg=>rfl);(case hr=>first|(go_simp; done)|(go_simp; rfl)); intro gb213 hg w51 hbox hb; have n0_ := Aside0.mk (below_step (by repeat (first|(with_reducible first|exact HB.out|apply zE|apply zB|apply zC)|exact HB.out)) hb); have n1_ := Aside0.mk (hbox); have n2_ := Aside0.mk ((by rw [hg]; exact (below_size (by repeat (first|(with_reducible first|exact HB.out|apply zE|apply zB|apply zC)|exact HB.out))) : w.heap.size ≤ gb213)); have n3_ := Aside0.mk ((by rw [hg]; exact (below_size (by repeat (first|(with_reducible first|exact HB.out|apply zE|apply zB|apply zC)|exact HB.out))) : w.heap.size ≤ gb213)); clear HB; have HB := n0_; have BK213 := n1_; have GW213 := n2_; have GE213 := n3_; clear n0_ n1_ n2_ n3_ hb hbox hg; have hcz52_0 : w51.cell? ⟨gb213,0,none⟩ = some (.int .i64 a0_0):=(blk_cell BK213.out 0).trans rfl; have hcz52_1 : w51.cell? ⟨gb213,1,none⟩ = some (.int .i64 a0_1):=(blk_cell BK213.out 1).trans rfl; have hcz52_2 : w51.cell? ⟨gb213,2,none⟩ = some (.string a0_2):=(blk_cell BK213.out 2).trans rfl; have hcz52_3 : w51.cell? ⟨gb213,3,none⟩ = some (.slice A0_3 l0_3.length c0_3):=(blk_cell BK213.out 3).trans rfl; have hfz52_0 := blk_frozen BK213.out 0; have hfz52_1 := blk_frozen BK213.out 1; have hfz52_2 := blk_frozen BK213.out 2; have hfz52_3 := blk_frozen BK213.out 3))
      go_ret
      exact ⟨by first|rfl|(simp [errW_none,errW_some]<;>rfl)|(simp [*,errW_none,errW_some]<;>rfl),by repeat (first|(with_reducible first|exact HB.out|apply zE|apply zB|apply zC|refine zJ ?_ GE213.out)|exact HB.out)⟩
   ·rw [if_neg c38] at H
    have c38b0 : (a0_0 == 2) = false := beq_eq_false_iff_ne.mpr c38
    have c38b1 : (a0_0 != 2) = true := bne_iff_ne.mpr c38
    by_cases c53 : a0_1 = 0
    ·rw [if_pos c53] at H
     have c53b0 : (a0_1 == 0) = true := beq_iff_eq.mpr c53
     have c53b1 : (a0_1 != 0) = false := bne_eq_false_iff_eq.mpr c53
     clear c53
     by_cases c54 : a0_0 = 4
     ·rw [if_pos c54] at H
      have c54b0 : (a0_0 == 4) = true := beq_iff_eq.mpr c54
      have c54b1 : (a0_0 != 4) = false := bne_eq_false_iff_eq.mpr c54
      clear c54
      by_cases c55 : a0_0 = 5
      ·rw [if_pos c55] at H
       have c55b0 : (a0_0 == 5) = true := beq_iff_eq.mpr c55
       have c55b1 : (a0_0 != 5) = false := bne_eq_false_iff_eq.mpr c55
       clear c55
       obtain rfl := Option.some.inj H
       go_enter Tryz.func30,Tryz.ntmps30
       go_wp2_with (first|((with_reducible refine gate_dst (N := 1) rfl ?_);(try (refine gate_guard (by rfl) ?_; dsimp only)); refine box_event ?hg (N := 1) ?hd (cs := #[.int .i64 a0_0,.int .i64 a0_1,.string a0_2,.slice A0_3 l0_3.length c0_3]) (t := 24) ?hr ?_;(case hd=>rfl);(case hg=>rfl);(case hr=>first|(go_simp; done)|(go_simp; rfl)); intro gb213 hg w56 hbox hb; have n0_ := Aside0.mk (below_step (by repeat (first|(with_reducible first|exact HB.out|apply zE|apply zB|apply zC)|exact HB.out)) hb); have n1_ := Aside0.mk (hbox); have n2_ := Aside0.mk ((by rw [hg]; exact (below_size (by repeat (first|(with_reducible first|exact HB.out|apply zE|apply zB|apply zC)|exact HB.out))) : w.heap.size ≤ gb213)); have n3_ := Aside0.mk ((by rw [hg]; exact (below_size (by repeat (first|(with_reducible first|exact HB.out|apply zE|apply zB|apply zC)|exact HB.out))) : w.heap.size ≤ gb213)); clear HB; have HB := n0_; have BK213 := n1_; have GW213 := n2_; have GE213 := n3_; clear n0_ n1_ n2_ n3_ hb hbox hg; have hcz57_0 : w56.cell? ⟨gb213,0,none⟩ = some (.int .i64 a0_0):=(blk_cell BK213.out 0).trans rfl; have hcz57_1 : w56.cell? ⟨gb213,1,none⟩ = some (.int .i64 a0_1):=(blk_cell BK213.out 1).trans rfl; have hcz57_2 : w56.cell? ⟨gb213,2,none⟩ = some (.string a0_2):=(blk_cell BK213.out 2).trans rfl; have hcz57_3 : w56.cell? ⟨gb213,3,none⟩ = some (.slice A0_3 l0_3.length c0_3):=(blk_cell BK213.out 3).trans rfl; have hfz57_0 := blk_frozen BK213.out 0; have hfz57_1 := blk_frozen BK213.out 1; have hfz57_2 := blk_frozen BK213.out 2; have hfz57_3 := blk_frozen BK213.out 3))
       go_ret
       exact ⟨by first|rfl|(simp [errW_none,errW_some]<;>rfl)|(simp [*,errW_none,errW_some]<;>rfl),by repeat (first|(with_reducible first|exact HB.out|apply zE|apply zB|apply zC|refine zJ ?_ GE213.out)|exact HB.out)⟩
      ·rw [if_neg c55] at H
       have c55b0 : (a0_0 == 5) = false := beq_eq_false_iff_ne.mpr c55
       have c55b1 : (a0_0 != 5) = true := bne_iff_ne.mpr c55
       obtain rfl := Option.some.inj H
       go_enter Tryz.func30,Tryz.ntmps30
       go_wp2_with (first|((with_reducible refine gate_dst (N := 1) rfl ?_);(try (refine gate_guard (by rfl) ?_; dsimp only)); refine box_event ?hg (N := 1) ?hd (cs := #[.int .i64 a0_0,.int .i64 a0_1,.string a0_2,.slice A0_3 l0_3.length c0_3]) (t := 24) ?hr ?_;(case hd=>rfl);(case hg=>rfl);(case hr=>first|(go_simp; done)|(go_simp; rfl)); intro gb213 hg w58 hbox hb; have n0_ := Aside0.mk (below_step (by repeat (first|(with_reducible first|exact HB.out|apply zE|apply zB|apply zC)|exact HB.out)) hb); have n1_ := Aside0.mk (hbox); have n2_ := Aside0.mk ((by rw [hg]; exact (below_size (by repeat (first|(with_reducible first|exact HB.out|apply zE|apply zB|apply zC)|exact HB.out))) : w.heap.size ≤ gb213)); have n3_ := Aside0.mk ((by rw [hg]; exact (below_size (by repeat (first|(with_reducible first|exact HB.out|apply zE|apply zB|apply zC)|exact HB.out))) : w.heap.size ≤ gb213)); clear HB; have HB := n0_; have BK213 := n1_; have GW213 := n2_; have GE213 := n3_; clear n0_ n1_ n2_ n3_ hb hbox hg; have hcz59_0 : w58.cell? ⟨gb213,0,none⟩ = some (.int .i64 a0_0):=(blk_cell BK213.out 0).trans rfl; have hcz59_1 : w58.cell? ⟨gb213,1,none⟩ = some (.int .i64 a0_1):=(blk_cell BK213.out 1).trans rfl; have hcz59_2 : w58.cell? ⟨gb213,2,none⟩ = some (.string a0_2):=(blk_cell BK213.out 2).trans rfl; have hcz59_3 : w58.cell? ⟨gb213,3,none⟩ = some (.slice A0_3 l0_3.length c0_3):=(blk_cell BK213.out 3).trans rfl; have hfz59_0 := blk_frozen BK213.out 0; have hfz59_1 := blk_frozen BK213.out 1; have hfz59_2 := blk_frozen BK213.out 2; have hfz59_3 := blk_frozen BK213.out 3))
       go_ret
       exact ⟨by first|rfl|(simp [errW_none,errW_some]<;>rfl)|(simp [*,errW_none,errW_some]<;>rfl),by repeat (first|(with_reducible first|exact HB.out|apply zE|apply zB|apply zC|refine zJ ?_ GE213.out)|exact HB.out)⟩
     ·rw [if_neg c54] at H
      have c54b0 : (a0_0 == 4) = false := beq_eq_false_iff_ne.mpr c54
      have c54b1 : (a0_0 != 4) = true := bne_iff_ne.mpr c54
      by_cases c60 : a0_2.toList = ([] : List UInt8)
      ·rw [if_pos c60] at H
       have c60b0 : (a0_2.toList == ([] : List UInt8)) = true := beq_iff_eq.mpr c60
       have c60b1 : (a0_2.toList != ([] : List UInt8)) = false := bne_eq_false_iff_eq.mpr c60
       clear c60
       by_cases c61 : a0_0 = 5
       ·rw [if_pos c61] at H
        have c61b0 : (a0_0 == 5) = true := beq_iff_eq.mpr c61
        have c61b1 : (a0_0 != 5) = false := bne_eq_false_iff_eq.mpr c61
        clear c61
        obtain rfl := Option.some.inj H
        go_enter Tryz.func30,Tryz.ntmps30
        go_wp2_with (first|((with_reducible refine gate_dst (N := 1) rfl ?_);(try (refine gate_guard (by rfl) ?_; dsimp only)); refine box_event ?hg (N := 1) ?hd (cs := #[.int .i64 a0_0,.int .i64 a0_1,.string a0_2,.slice A0_3 l0_3.length c0_3]) (t := 24) ?hr ?_;(case hd=>rfl);(case hg=>rfl);(case hr=>first|(go_simp; done)|(go_simp; rfl)); intro gb213 hg w62 hbox hb; have n0_ := Aside0.mk (below_step (by repeat (first|(with_reducible first|exact HB.out|apply zE|apply zB|apply zC)|exact HB.out)) hb); have n1_ := Aside0.mk (hbox); have n2_ := Aside0.mk ((by rw [hg]; exact (below_size (by repeat (first|(with_reducible first|exact HB.out|apply zE|apply zB|apply zC)|exact HB.out))) : w.heap.size ≤ gb213)); have n3_ := Aside0.mk ((by rw [hg]; exact (below_size (by repeat (first|(with_reducible first|exact HB.out|apply zE|apply zB|apply zC)|exact HB.out))) : w.heap.size ≤ gb213)); clear HB; have HB := n0_; have BK213 := n1_; have GW213 := n2_; have GE213 := n3_; clear n0_ n1_ n2_ n3_ hb hbox hg; have hcz63_0 : w62.cell? ⟨gb213,0,none⟩ = some (.int .i64 a0_0):=(blk_cell BK213.out 0).trans rfl; have hcz63_1 : w62.cell? ⟨gb213,1,none⟩ = some (.int .i64 a0_1):=(blk_cell BK213.out 1).trans rfl; have hcz63_2 : w62.cell? ⟨gb213,2,none⟩ = some (.string a0_2):=(blk_cell BK213.out 2).trans rfl; have hcz63_3 : w62.cell? ⟨gb213,3,none⟩ = some (.slice A0_3 l0_3.length c0_3):=(blk_cell BK213.out 3).trans rfl; have hfz63_0 := blk_frozen BK213.out 0; have hfz63_1 := blk_frozen BK213.out 1; have hfz63_2 := blk_frozen BK213.out 2; have hfz63_3 := blk_frozen BK213.out 3))
        go_ret
        exact ⟨by first|rfl|(simp [errW_none,errW_some]<;>rfl)|(simp [*,errW_none,errW_some]<;>rfl),by repeat (first|(with_reducible first|exact HB.out|apply zE|apply zB|apply zC|refine zJ ?_ GE213.out)|exact HB.out)⟩
       ·rw [if_neg c61] at H
        have c61b0 : (a0_0 == 5) = false := beq_eq_false_iff_ne.mpr c61
        have c61b1 : (a0_0 != 5) = true := bne_iff_ne.mpr c61
        obtain rfl := Option.some.inj H
        go_enter Tryz.func30,Tryz.ntmps30
        go_wp2_with (first|((with_reducible refine gate_dst (N := 1) rfl ?_);(try (refine gate_guard (by rfl) ?_; dsimp only)); refine box_event ?hg (N := 1) ?hd (cs := #[.int .i64 a0_0,.int .i64 a0_1,.string a0_2,.slice A0_3 l0_3.length c0_3]) (t := 24) ?hr ?_;(case hd=>rfl);(case hg=>rfl);(case hr=>first|(go_simp; done)|(go_simp; rfl)); intro gb213 hg w64 hbox hb; have n0_ := Aside0.mk (below_step (by repeat (first|(with_reducible first|exact HB.out|apply zE|apply zB|apply zC)|exact HB.out)) hb); have n1_ := Aside0.mk (hbox); have n2_ := Aside0.mk ((by rw [hg]; exact (below_size (by repeat (first|(with_reducible first|exact HB.out|apply zE|apply zB|apply zC)|exact HB.out))) : w.heap.size ≤ gb213)); have n3_ := Aside0.mk ((by rw [hg]; exact (below_size (by repeat (first|(with_reducible first|exact HB.out|apply zE|apply zB|apply zC)|exact HB.out))) : w.heap.size ≤ gb213)); clear HB; have HB := n0_; have BK213 := n1_; have GW213 := n2_; have GE213 := n3_; clear n0_ n1_ n2_ n3_ hb hbox hg; have hcz65_0 : w64.cell? ⟨gb213,0,none⟩ = some (.int .i64 a0_0):=(blk_cell BK213.out 0).trans rfl; have hcz65_1 : w64.cell? ⟨gb213,1,none⟩ = some (.int .i64 a0_1):=(blk_cell BK213.out 1).trans rfl; have hcz65_2 : w64.cell? ⟨gb213,2,none⟩ = some (.string a0_2):=(blk_cell BK213.out 2).trans rfl; have hcz65_3 : w64.cell? ⟨gb213,3,none⟩ = some (.slice A0_3 l0_3.length c0_3):=(blk_cell BK213.out 3).trans rfl; have hfz65_0 := blk_frozen BK213.out 0; have hfz65_1 := blk_frozen BK213.out 1; have hfz65_2 := blk_frozen BK213.out 2; have hfz65_3 := blk_frozen BK213.out 3))
        go_ret
        exact ⟨by first|rfl|(simp [errW_none,errW_some]<;>rfl)|(simp [*,errW_none,errW_some]<;>rfl),by repeat (first|(with_reducible first|exact HB.out|apply zE|apply zB|apply zC|refine zJ ?_ GE213.out)|exact HB.out)⟩
      ·rw [if_neg c60] at H
       have c60b0 : (a0_2.toList == ([] : List UInt8)) = false := beq_eq_false_iff_ne.mpr c60
       have c60b1 : (a0_2.toList != ([] : List UInt8)) = true := bne_iff_ne.mpr c60
       obtain rfl := Option.some.inj H
       go_enter Tryz.func30,Tryz.ntmps30
       go_wp2_with (first|((with_reducible refine gate_dst (N := 1) rfl ?_);(try (refine gate_guard (by rfl) ?_; dsimp only)); refine box_event ?hg (N := 1) ?hd (cs := #[.int .i64 a0_0,.int .i64 a0_1,.string a0_2,.slice A0_3 l0_3.length c0_3]) (t := 24) ?hr ?_;(case hd=>rfl);(case hg=>rfl);(case hr=>first|(go_simp; done)|(go_simp; rfl)); intro gb213 hg w66 hbox hb; have n0_ := Aside0.mk (below_step (by repeat (first|(with_reducible first|exact HB.out|apply zE|apply zB|apply zC)|exact HB.out)) hb); have n1_ := Aside0.mk (hbox); have n2_ := Aside0.mk ((by rw [hg]; exact (below_size (by repeat (first|(with_reducible first|exact HB.out|apply zE|apply zB|apply zC)|exact HB.out))) : w.heap.size ≤ gb213)); have n3_ := Aside0.mk ((by rw [hg]; exact (below_size (by repeat (first|(with_reducible first|exact HB.out|apply zE|apply zB|apply zC)|exact HB.out))) : w.heap.size ≤ gb213)); clear HB; have HB := n0_; have BK213 := n1_; have GW213 := n2_; have GE213 := n3_; clear n0_ n1_ n2_ n3_ hb hbox hg; have hcz67_0 : w66.cell? ⟨gb213,0,none⟩ = some (.int .i64 a0_0):=(blk_cell BK213.out 0).trans rfl; have hcz67_1 : w66.cell? ⟨gb213,1,none⟩ = some (.int .i64 a0_1):=(blk_cell BK213.out 1).trans rfl; have hcz67_2 : w66.cell? ⟨gb213,2,none⟩ = some (.string a0_2):=(blk_cell BK213.out 2).trans rfl; have hcz67_3 : w66.cell? ⟨gb213,3,none⟩ = some (.slice A0_3 l0_3.length c0_3):=(blk_cell BK213.out 3).trans rfl; have hfz67_0 := blk_frozen BK213.out 0; have hfz67_1 := blk_frozen BK213.out 1; have hfz67_2 := blk_frozen BK213.out 2; have hfz67_3 := blk_frozen BK213.out 3))
       go_ret
       exact ⟨by first|rfl|(simp [errW_none,errW_some]<;>rfl)|(simp [*,errW_none,errW_some]<;>rfl),by repeat (first|(with_reducible first|exact HB.out|apply zE|apply zB|apply zC|refine zJ ?_ GE213.out)|exact HB.out)⟩
    ·rw [if_neg c53] at H
     have c53b0 : (a0_1 == 0) = false := beq_eq_false_iff_ne.mpr c53
     have c53b1 : (a0_1 != 0) = true := bne_iff_ne.mpr c53
     obtain rfl := Option.some.inj H
     go_enter Tryz.func30,Tryz.ntmps30
     go_wp2_with (first|((with_reducible refine gate_dst (N := 1) rfl ?_);(try (refine gate_guard (by rfl) ?_; dsimp only)); refine box_event ?hg (N := 1) ?hd (cs := #[.int .i64 a0_0,.int .i64 a0_1,.string a0_2,.slice A0_3 l0_3.length c0_3]) (t := 24) ?hr ?_;(case hd=>rfl);(case hg=>rfl);(case hr=>first|(go_simp; done)|(go_simp; rfl)); intro gb213 hg w68 hbox hb; have n0_ := Aside0.mk (below_step (by repeat (first|(with_reducible first|exact HB.out|apply zE|apply zB|apply zC)|exact HB.out)) hb); have n1_ := Aside0.mk (hbox); have n2_ := Aside0.mk ((by rw [hg]; exact (below_size (by repeat (first|(with_reducible first|exact HB.out|apply zE|apply zB|apply zC)|exact HB.out))) : w.heap.size ≤ gb213)); have n3_ := Aside0.mk ((by rw [hg]; exact (below_size (by repeat (first|(with_reducible first|exact HB.out|apply zE|apply zB|apply zC)|exact HB.out))) : w.heap.size ≤ gb213)); clear HB; have HB := n0_; have BK213 := n1_; have GW213 := n2_; have GE213 := n3_; clear n0_ n1_ n2_ n3_ hb hbox hg; have hcz69_0 : w68.cell? ⟨gb213,0,none⟩ = some (.int .i64 a0_0):=(blk_cell BK213.out 0).trans rfl; have hcz69_1 : w68.cell? ⟨gb213,1,none⟩ = some (.int .i64 a0_1):=(blk_cell BK213.out 1).trans rfl; have hcz69_2 : w68.cell? ⟨gb213,2,none⟩ = some (.string a0_2):=(blk_cell BK213.out 2).trans rfl; have hcz69_3 : w68.cell? ⟨gb213,3,none⟩ = some (.slice A0_3 l0_3.length c0_3):=(blk_cell BK213.out 3).trans rfl; have hfz69_0 := blk_frozen BK213.out 0; have hfz69_1 := blk_frozen BK213.out 1; have hfz69_2 := blk_frozen BK213.out 2; have hfz69_3 := blk_frozen BK213.out 3))
     go_ret
     exact ⟨by first|rfl|(simp [errW_none,errW_some]<;>rfl)|(simp [*,errW_none,errW_some]<;>rfl),by repeat (first|(with_reducible first|exact HB.out|apply zE|apply zB|apply zC|refine zJ ?_ GE213.out)|exact HB.out)⟩

/-! ### utf8_ValidString: function 49 -/
def utf8_ValidString.f (a0 : ByteArray) : Option Bool := if a0.size ≤ 9223372036854775807 then some (Lib.validD a0.data.toList) else none
theorem utf8_ValidString.calls (a0 : ByteArray) (r : Bool) (w : World) (hGL : GL w) (h : utf8_ValidString.f a0 = some r) :
  Calls Tryz.prog 49 #[.string a0] w fun e w'=>e = .returned (.bool r) ∧ Below w.heap.size w w' := by
 unfold utf8_ValidString.f at h
 split at h
 ·rename_i hb
  obtain rfl := Option.some.inj h
  exact utf8_valid a0 w hb hGL.utf8
 ·cases h

/-! ### flagstoneref1_Valid: function 31 -/
mutual
def flagstoneref1_Valid.j0 : Nat → ByteArray → Bool → Option (Bool)
 | 0,_,_=>none
 | k + 1,x0,x11=>if x11 = true then (some false) else (flagstoneref1_Valid.l0 k x0 0)
def flagstoneref1_Valid.l0 : Nat → ByteArray → Int → Option (Bool)
 | 0,_,_=>none
 | k + 1,x0,x3=>if x3 < (x0.size : Int) then (if 0 ≤ x3 then (if (bt x0 x3) < 32 then (some false) else (if (bt x0 x3) = 127 then (some false) else (flagstoneref1_Valid.l0 k x0 (wrap64 (x3 + 1))))) else (none)) else (some true)
end
def flagstoneref1_Valid.f (k : Nat) (a0 : ByteArray) : Option (Bool) := if (a0.size : Int) > 200 then (flagstoneref1_Valid.j0 k a0 true) else ((utf8_ValidString.f a0).bind fun t214 => (flagstoneref1_Valid.j0 k a0 (!t214)))
theorem flagstoneref1_Valid.mono_l : ∀ k, (∀ y0 y1, LeO (flagstoneref1_Valid.j0 k y0 y1) (flagstoneref1_Valid.j0 (k + 1) y0 y1)) ∧ (∀ y0 y1, LeO (flagstoneref1_Valid.l0 k y0 y1) (flagstoneref1_Valid.l0 (k + 1) y0 y1))
 | 0=>⟨fun _ _ r h=>by simp [flagstoneref1_Valid.j0] at h,fun _ _ r h=>by simp [flagstoneref1_Valid.l0] at h⟩
 | k + 1=>by
  obtain ⟨ih0,ih1⟩ := flagstoneref1_Valid.mono_l k
  refine ⟨?_,?_⟩
  ·intro y0 y1
   unfold flagstoneref1_Valid.j0
   repeat' first
   | (with_reducible exact ih0 _ _)
   | (with_reducible exact ih1 _ _)
   | (with_reducible exact LeO.refl _)
   | (with_reducible exact LeO.none _)
   | (with_reducible refine LeO.ite ?_ ?_)
   | (with_reducible refine LeO.bind ?_ (fun _=>?_))
   | exact ih0 _ _
   | exact ih1 _ _
   | exact LeO.none _
   | refine LeO.ite ?_ ?_
   | refine LeO.bind ?_ (fun _=>?_)
  ·intro y0 y1
   unfold flagstoneref1_Valid.l0
   repeat' first
   | (with_reducible exact ih0 _ _)
   | (with_reducible exact ih1 _ _)
   | (with_reducible exact LeO.refl _)
   | (with_reducible exact LeO.none _)
   | (with_reducible refine LeO.ite ?_ ?_)
   | (with_reducible refine LeO.bind ?_ (fun _=>?_))
   | exact ih0 _ _
   | exact ih1 _ _
   | exact LeO.none _
   | refine LeO.ite ?_ ?_
   | refine LeO.bind ?_ (fun _=>?_)
theorem flagstoneref1_Valid.mono : ∀ a0 k, LeO (flagstoneref1_Valid.f k a0) (flagstoneref1_Valid.f (k + 1) a0) := by
 intro a0 k
 obtain ⟨ih0,ih1⟩ := flagstoneref1_Valid.mono_l k
 unfold flagstoneref1_Valid.f
 repeat' first
   | (with_reducible exact ih0 _ _)
   | (with_reducible exact ih1 _ _)
   | (with_reducible exact LeO.refl _)
   | (with_reducible exact LeO.none _)
   | (with_reducible refine LeO.ite ?_ ?_)
   | (with_reducible refine LeO.bind ?_ (fun _=>?_))
   | exact ih0 _ _
   | exact ih1 _ _
   | exact LeO.none _
   | refine LeO.ite ?_ ?_
   | refine LeO.bind ?_ (fun _=>?_)
set_option maxHeartbeats 8000000 in
set_option maxRecDepth 100000 in
theorem flagstoneref1_Valid.calls (k : Nat) (a0 : ByteArray) (r : Bool) (w : World) (hGL : GL w) (h : flagstoneref1_Valid.f k a0 = some r) :
  Calls Tryz.prog 31 #[.string a0] w fun e w'=>e = .returned (.bool r) ∧ Below w.heap.size w w' := by
 have HGL := Aside0.mk hGL; clear hGL
 have HB := Aside0.mk (Below.refl w.heap.size w)
 have H : (if (a0.size : Int) > 200 then (flagstoneref1_Valid.j0 k a0 true) else ((utf8_ValidString.f a0).bind fun t214=>(flagstoneref1_Valid.j0 k a0 (!t214)))) = some r := h
 clear h; have HC2 := Aside0.mk H; clear H
 go_enter Tryz.func31,Tryz.ntmps31
 go_upto_region 1 with (fail)
 go_cut [11] (fun v11 wc=>∃ (kq : Nat) (x11_1 : Bool),v11 = .bool x11_1 ∧ Aside0 (flagstoneref1_Valid.j0 kq a0 x11_1 = some r) ∧ Aside0 (kq ≤ k) ∧ Aside0 (Below w.heap.size w wc))
 case first =>
  have H := HC2.out; clear HC2
  by_cases c3 : (a0.size : Int) > 200
  ·rw [if_pos c3] at H
   have c3b0 : decide (200 < (a0.size : Int)) = true := decide_eq_true c3
   have c3b1 : decide (200 < a0.size) = true := decide_eq_true (by omega)
   clear c3
   (first|rw [c3b0]|(simp only [i64_w,i32_w]; rw [c3b0])|skip)
   have H' := Aside0.mk H; clear H
   go_wp2
   go_meet
   case rel=>exact ⟨_,(true),(by first|rfl|(simp; done)|(simp [*]; done)),H',⟨by first|omega|exact Nat.le_refl _⟩,⟨by repeat (first|(with_reducible first|exact HB.out|apply zE|apply zB|apply zC)|exact HB.out)⟩⟩
  ·rw [if_neg c3] at H
   have c3b0 : decide (200 < (a0.size : Int)) = false := decide_eq_false c3
   have c3b1 : decide (200 < a0.size) = false := decide_eq_false (by omega)
   clear c3
   (first|rw [c3b0]|(simp only [i64_w,i32_w]; rw [c3b0])|skip)
   replace H := Option.bind_eq_some_iff.mp H; obtain ⟨t214,A40,H⟩ := H
   replace H : (flagstoneref1_Valid.j0 k a0 (!t214)) = some r := H
   have A4 := Aside0.mk A40; clear A40; have H' := Aside0.mk H; clear H
   go_wp2_with (first|(go_at_call 49;(with_reducible refine (utf8_ValidString.calls a0 t214 _ ?side1 A4.out).mono ?_);(case side1=>exact GL.below HGL.out (by repeat (first|(with_reducible first|exact HB.out|apply zE|apply zB|apply zC)|exact HB.out))); rintro e w5 ⟨rfl,hb⟩; have n0_ := Aside0.mk (below_step (by repeat (first|(with_reducible first|exact HB.out|apply zE|apply zB|apply zC)|exact HB.out)) hb); clear HB; have HB := n0_; clear n0_;(try clear hb);(try clear hb2);(try clear hk);(try clear hi);(try clear hge)))
   go_meet
   case rel=>exact ⟨_,(!t214),(by first|rfl|(simp; done)|(simp [*]; done)),H',⟨by first|omega|exact Nat.le_refl _⟩,⟨by repeat (first|(with_reducible first|exact HB.out|apply zE|apply zB|apply zC)|exact HB.out)⟩⟩
 case rest =>
  clear HC2;(try clear p2);(try clear c3);(try clear c3b0);(try clear c3b1)
  obtain ⟨kq,x11_1,rfl,HA,HJ1,HB⟩ := hcut
  cases kq with
  | zero=>exact absurd HA.out (by simp [flagstoneref1_Valid.j0])
  | succ kj1 =>
   have H := HA.out; clear HA
   simp only [flagstoneref1_Valid.j0] at H
   by_cases c6 : x11_1 = true
   ·subst c6
    have H1 : (some false) = some r := by rw [if_pos rfl] at H; exact H
    clear H; have H := H1; clear H1
    obtain rfl := Option.some.inj H
    go_wp2
    go_ret
    exact ⟨by first|rfl|(simp [errW_none,errW_some]<;>rfl)|(simp [*,errW_none,errW_some]<;>rfl),by repeat (first|(with_reducible first|exact HB.out|apply zE|apply zB|apply zC)|exact HB.out)⟩
   ·replace c6 := Bool.eq_false_iff.mpr c6
    subst c6
    have H1 : (flagstoneref1_Valid.l0 kj1 a0 0) = some r := by rw [if_neg (show ¬ (false = true) by decide)] at H; exact H
    clear H; have H := H1; clear H1; have H' := Aside0.mk H; clear H
    go_wp2
    go_loopg [3] kj1 (fun kq v3 w'=>∃ (x3_2 : Int),v3 = .int .i64 x3_2 ∧ Aside0 (flagstoneref1_Valid.l0 kq a0 x3_2 = some r) ∧ Aside0 (kq ≤ kj1) ∧ Aside0 (Below w.heap.size w w'))
    case atStart=>exact ⟨(0),(by first|rfl|(simp; done)|(simp [*]; done)),H',⟨Nat.le_refl _⟩,⟨by repeat (first|(with_reducible first|exact HB.out|apply zE|apply zB|apply zC)|exact HB.out)⟩⟩
    case round =>
     clear H';(try clear p2);(try clear c3);(try clear c3b0);(try clear c3b1);(try clear c6);(try clear p2)
     obtain ⟨x3_2,rfl,HA,HK2,HB⟩ := hrel
     cases gk with
     | zero=>exact absurd HA.out (by simp [flagstoneref1_Valid.l0])
     | succ k2 =>
      have H := HA.out; clear HA
      simp only [flagstoneref1_Valid.l0] at H
      by_cases c7 : x3_2 < (a0.size : Int)
      ·rw [if_pos c7] at H
       have c7b0 : decide (x3_2 < (a0.size : Int)) = true := decide_eq_true c7
       clear c7
       by_cases c8 : 0 ≤ x3_2
       ·rw [if_pos c8] at H
        have c8b0 : decide (0 ≤ x3_2) = true := decide_eq_true c8
        clear c8
        by_cases c10 : (bt a0 x3_2) < 32
        ·rw [if_pos c10] at H
         have c10b0 : decide ((bt a0 x3_2) < 32) = true := decide_eq_true c10
         clear c10
         obtain rfl := Option.some.inj H
         have p9 : 0 ≤ (x3_2 : Int) := of_decide_eq_true (by first|(with_reducible assumption)|assumption)
         have q9 : x3_2 < (a0.size : Int) := of_decide_eq_true (by first|(with_reducible assumption)|assumption)
         have hx9 := bt_at a0 x3_2
         replace p9 := eq_true p9
         replace q9 := eq_true q9
         go_wp2
         go_ret
         exact ⟨by first|rfl|(simp [errW_none,errW_some]<;>rfl)|(simp [*,errW_none,errW_some]<;>rfl),by repeat (first|(with_reducible first|exact HB.out|apply zE|apply zB|apply zC)|exact HB.out)⟩
        ·rw [if_neg c10] at H
         have c10b0 : decide ((bt a0 x3_2) < 32) = false := decide_eq_false c10
         clear c10
         by_cases c12 : (bt a0 x3_2) = 127
         ·rw [if_pos c12] at H
          have c12b0 : ((bt a0 x3_2) == 127) = true := beq_iff_eq.mpr c12
          have c12b1 : ((bt a0 x3_2) != 127) = false := bne_eq_false_iff_eq.mpr c12
          clear c12
          obtain rfl := Option.some.inj H
          have p9 : 0 ≤ (x3_2 : Int) := of_decide_eq_true (by first|(with_reducible assumption)|assumption)
          have q9 : x3_2 < (a0.size : Int) := of_decide_eq_true (by first|(with_reducible assumption)|assumption)
          have hx9 := bt_at a0 x3_2
          replace p9 := eq_true p9
          replace q9 := eq_true q9
          have p11 : 0 ≤ (x3_2 : Int) := of_decide_eq_true (by first|(with_reducible assumption)|assumption)
          have q11 : x3_2 < (a0.size : Int) := of_decide_eq_true (by first|(with_reducible assumption)|assumption)
          have hx11 := bt_at a0 x3_2
          replace p11 := eq_true p11
          replace q11 := eq_true q11
          go_wp2
          go_ret
          exact ⟨by first|rfl|(simp [errW_none,errW_some]<;>rfl)|(simp [*,errW_none,errW_some]<;>rfl),by repeat (first|(with_reducible first|exact HB.out|apply zE|apply zB|apply zC)|exact HB.out)⟩
         ·rw [if_neg c12] at H
          have c12b0 : ((bt a0 x3_2) == 127) = false := beq_eq_false_iff_ne.mpr c12
          have c12b1 : ((bt a0 x3_2) != 127) = true := bne_iff_ne.mpr c12
          have H' := Aside0.mk H; clear H
          have p9 : 0 ≤ (x3_2 : Int) := of_decide_eq_true (by first|(with_reducible assumption)|assumption)
          have q9 : x3_2 < (a0.size : Int) := of_decide_eq_true (by first|(with_reducible assumption)|assumption)
          have hx9 := bt_at a0 x3_2
          replace p9 := eq_true p9
          replace q9 := eq_true q9
          have p11 : 0 ≤ (x3_2 : Int) := of_decide_eq_true (by first|(with_reducible assumption)|assumption)
          have q11 : x3_2 < (a0.size : Int) := of_decide_eq_true (by first|(with_reducible assumption)|assumption)
          have hx11 := bt_at a0 x3_2
          replace p11 := eq_true p11
          replace q11 := eq_true q11
          go_wp2
          go_roundg k2
          case measure=>have := HJ1.out; have := HK2.out; omega
          case rel=>exact ⟨(wrap64 (x3_2 + 1)),(by first|rfl|(simp; done)|(simp [*]; done)),H',⟨by have := HJ1.out; have := HK2.out; omega⟩,⟨by repeat (first|(with_reducible first|exact HB.out|apply zE|apply zB|apply zC)|exact HB.out)⟩⟩
       ·rw [if_neg c8] at H
        exact absurd H (by simp)
      ·rw [if_neg c7] at H
       have c7b0 : decide (x3_2 < (a0.size : Int)) = false := decide_eq_false c7
       clear c7
       obtain rfl := Option.some.inj H
       go_wp2
       go_ret
       exact ⟨by first|rfl|(simp [errW_none,errW_some]<;>rfl)|(simp [*,errW_none,errW_some]<;>rfl),by repeat (first|(with_reducible first|exact HB.out|apply zE|apply zB|apply zC)|exact HB.out)⟩

/-! ### flagstoneref3_parts: function 32 -/
def flagstoneref3_parts.f (a0 : ByteArray) : Option (Int × Int × Int × Bool) := if a0.size ≤ 9223372036854775800 then some (partsR (parts3 (dots a0))) else none
theorem flagstoneref3_parts.calls (a0 : ByteArray) (r1 r2 r3 : Int) (r4 : Bool) (w : World) (h : flagstoneref3_parts.f a0 = some (r1, r2, r3, r4)) :
  Calls Tryz.prog 32 #[.string a0] w fun e w'=>e = .returned (.tuple #[.agg #[.int .i64 r1,.int .i64 r2,.int .i64 r3],.bool r4]) ∧ Below w.heap.size w w' := by
 unfold flagstoneref3_parts.f at h
 split at h
 ·rename_i hb
  refine (ref_parts_any a0 w hb).mono fun e w' he=>⟨?_,he.2⟩
  rw [he.1,partsV_R,Option.some.inj h]
 ·cases h

/-! ### flagstoneref3_list: function 33 -/
mutual
def flagstoneref3_list.l0 : Nat → List ByteArray → Int → Option (Int)
 | 0,_,_=>none
 | k + 1,x0,x3=>if x3 < (x0.length : Int) then (if 0 ≤ x3 then ((flagstoneref1_Valid.f k (rdOf ByteArray.empty x0 x3)).bind fun t216=>(if t216 = true then (flagstoneref3_list.l0 k x0 (wrap64 (x3 + 1))) else (some 2))) else (none)) else (flagstoneref3_list.l1 k x0 1)
def flagstoneref3_list.l1 : Nat → List ByteArray → Int → Option (Int)
 | 0,_,_=>none
 | k + 1,x0,x4=>if x4 < (x0.length : Int) then (if 0 ≤ x4 then (if 0 ≤ (wrap64 (x4 - 1)) then (if (wrap64 (x4 - 1)) < (x0.length : Int) then (if ((Op.bytesLess ((rdOf ByteArray.empty x0 (wrap64 (x4 - 1))).toList) ((rdOf ByteArray.empty x0 x4).toList)) = true) then (flagstoneref3_list.l1 k x0 (wrap64 (x4 + 1))) else (some 9)) else (none)) else (none)) else (none)) else (some 0)
end
def flagstoneref3_list.f (k : Nat) (l0 : List ByteArray) : Option (Int) := if (l0.length : Int) > 20 then (some 5) else (flagstoneref3_list.l0 k l0 0)
theorem flagstoneref3_list.mono_l : ∀ k, (∀ y0 y1, LeO (flagstoneref3_list.l0 k y0 y1) (flagstoneref3_list.l0 (k + 1) y0 y1)) ∧ (∀ y0 y1, LeO (flagstoneref3_list.l1 k y0 y1) (flagstoneref3_list.l1 (k + 1) y0 y1))
 | 0=>⟨fun _ _ r h=>by simp [flagstoneref3_list.l0] at h,fun _ _ r h=>by simp [flagstoneref3_list.l1] at h⟩
 | k + 1=>by
  obtain ⟨ih0,ih1⟩ := flagstoneref3_list.mono_l k
  refine ⟨?_,?_⟩
  ·intro y0 y1
   unfold flagstoneref3_list.l0
   repeat' first
   | (with_reducible exact ih0 _ _)
   | (with_reducible exact ih1 _ _)
   | (with_reducible exact flagstoneref1_Valid.mono _ _)
   | (with_reducible exact LeO.refl _)
   | (with_reducible exact LeO.none _)
   | (with_reducible refine LeO.ite ?_ ?_)
   | (with_reducible refine LeO.bind ?_ (fun _=>?_))
   | exact ih0 _ _
   | exact ih1 _ _
   | exact flagstoneref1_Valid.mono _ _
   | exact LeO.none _
   | refine LeO.ite ?_ ?_
   | refine LeO.bind ?_ (fun _=>?_)
  ·intro y0 y1
   unfold flagstoneref3_list.l1
   repeat' first
   | (with_reducible exact ih0 _ _)
   | (with_reducible exact ih1 _ _)
   | (with_reducible exact flagstoneref1_Valid.mono _ _)
   | (with_reducible exact LeO.refl _)
   | (with_reducible exact LeO.none _)
   | (with_reducible refine LeO.ite ?_ ?_)
   | (with_reducible refine LeO.bind ?_ (fun _=>?_))
   | exact ih0 _ _
   | exact ih1 _ _
   | exact flagstoneref1_Valid.mono _ _
   | exact LeO.none _
   | refine LeO.ite ?_ ?_
   | refine LeO.bind ?_ (fun _=>?_)
theorem flagstoneref3_list.mono : ∀ a0 k, LeO (flagstoneref3_list.f k a0) (flagstoneref3_list.f (k + 1) a0) := by
 intro a0 k
 obtain ⟨ih0,ih1⟩ := flagstoneref3_list.mono_l k
 unfold flagstoneref3_list.f
 repeat' first
   | (with_reducible exact ih0 _ _)
   | (with_reducible exact ih1 _ _)
   | (with_reducible exact flagstoneref1_Valid.mono _ _)
   | (with_reducible exact LeO.refl _)
   | (with_reducible exact LeO.none _)
   | (with_reducible refine LeO.ite ?_ ?_)
   | (with_reducible refine LeO.bind ?_ (fun _=>?_))
   | exact ih0 _ _
   | exact ih1 _ _
   | exact flagstoneref1_Valid.mono _ _
   | exact LeO.none _
   | refine LeO.ite ?_ ?_
   | refine LeO.bind ?_ (fun _=>?_)
set_option maxHeartbeats 8000000 in
set_option maxRecDepth 100000 in
theorem flagstoneref3_list.calls (k : Nat) (A0 : Option Addr) (c0 : Nat) (l0 : List ByteArray) (r : Int) (w : World) (hr0 : Kd.C Kd.string w A0 l0.length l0) (hc0 : l0.length ≤ c0) (hGL : GL w) (h : flagstoneref3_list.f k l0 = some r) :
  Calls Tryz.prog 33 #[.slice A0 l0.length c0] w fun e w'=>e = .returned (.int .i64 r) ∧ Below w.heap.size w w' := by
 have hsg_ := @str_geq; have hsl_ := @str_leq; have hsr_ := @str_gtr
 have HR0 := Aside0.mk hr0; have HC0 := Aside0.mk hc0; clear hr0 hc0; have HGL := Aside0.mk hGL; clear hGL
 have HB := Aside0.mk (Below.refl w.heap.size w)
 have H : (if (l0.length : Int) > 20 then (some 5) else (flagstoneref3_list.l0 k l0 0)) = some r := h
 clear h
 by_cases c2 : (l0.length : Int) > 20
 ·rw [if_pos c2] at H
  have c2b0 : decide (20 < (l0.length : Int)) = true := decide_eq_true c2
  have c2b1 : decide (20 < l0.length) = true := decide_eq_true (by omega)
  clear c2
  obtain rfl := Option.some.inj H
  go_enter Tryz.func33,Tryz.ntmps33
  go_wp2
  repeat (go_quiet (fail); try go_wp2)
  go_ret
  exact ⟨by first|rfl|(simp [errW_none,errW_some]<;>rfl)|(simp [*,errW_none,errW_some]<;>rfl),by repeat (first|(with_reducible first|exact HB.out|apply zE|apply zB|apply zC)|exact HB.out)⟩
 ·rw [if_neg c2] at H
  have c2b0 : decide (20 < (l0.length : Int)) = false := decide_eq_false c2
  have c2b1 : decide (20 < l0.length) = false := decide_eq_false (by omega)
  clear c2; have H' := Aside0.mk H; clear H
  go_enter Tryz.func33,Tryz.ntmps33
  go_wp2
  repeat (go_quiet (fail); try go_wp2)
  go_loopg [3] k (fun kq v3 w'=>∃ (x3_1 : Int),v3 = .int .i64 x3_1 ∧ Aside0 (flagstoneref3_list.l0 kq l0 x3_1 = some r) ∧ Aside0 (kq ≤ k) ∧ Aside0 (Below w.heap.size w w'))
  case atStart=>exact ⟨(0),(by first|rfl|(simp; done)|(simp [*]; done)),H',⟨Nat.le_refl _⟩,⟨by repeat (first|(with_reducible first|exact HB.out|apply zE|apply zB|apply zC)|exact HB.out)⟩⟩
  case round =>
   clear H';(try clear c2);(try clear c2b0);(try clear c2b1);(try clear p2)
   obtain ⟨x3_1,rfl,HA,HK1,HB⟩ := hrel
   cases gk with
   | zero=>exact absurd HA.out (by simp [flagstoneref3_list.l0])
   | succ k1 =>
    have H := HA.out; clear HA
    simp only [flagstoneref3_list.l0] at H
    by_cases c3 : x3_1 < (l0.length : Int)
    ·rw [if_pos c3] at H
     have c3b0 : decide (x3_1 < (l0.length : Int)) = true := decide_eq_true c3
     clear c3
     by_cases c4 : 0 ≤ x3_1
     ·rw [if_pos c4] at H
      have c4b0 : decide (0 ≤ x3_1) = true := decide_eq_true c4
      clear c4; replace H := Option.bind_eq_some_iff.mp H; obtain ⟨t216,A50,H⟩ := H
      replace H : (if t216 = true then (flagstoneref3_list.l0 k1 l0 (wrap64 (x3_1 + 1))) else (some 2)) = some r := H
      have A5 := Aside0.mk A50; clear A50
      by_cases c6 : t216 = true
      ·subst c6
       have H1 : (flagstoneref3_list.l0 k1 l0 (wrap64 (x3_1 + 1))) = some r := by rw [if_pos rfl] at H; exact H
       clear H; have H := H1; clear H1; have H' := Aside0.mk H; clear H
       have p215 : 0 ≤ (x3_1 : Int) := of_decide_eq_true (by first|(with_reducible assumption)|assumption)
       have q215 : x3_1 < (l0.length : Int) := of_decide_eq_true (by first|(with_reducible assumption)|assumption)
       obtain ⟨ad215,e215,hx215_0⟩ := Kd.at_string HR0.out x3_1 p215 q215
       cases e215
       replace hx215_0:=(HB.out.cell (World.block_lt_of_cell? w _ hx215_0)).trans hx215_0
       replace p215 := eq_true p215
       replace q215 := eq_true q215
       go_wp2_with (first|(go_at_call 31;(with_reducible refine (flagstoneref1_Valid.calls k1 (rdOf ByteArray.empty l0 x3_1) true _ ?side1 A5.out).mono ?_);(case side1=>exact GL.below HGL.out (by repeat (first|(with_reducible first|exact HB.out|apply zE|apply zB|apply zC)|exact HB.out))); rintro e w7 ⟨rfl,hb⟩; have n0_ := Aside0.mk (below_step (by repeat (first|(with_reducible first|exact HB.out|apply zE|apply zB|apply zC)|exact HB.out)) hb); clear HB; have HB := n0_; clear n0_;(try clear hb);(try clear hb2);(try clear hk);(try clear hi);(try clear hge)))
       repeat (go_quiet (first|(go_at_call 31;(with_reducible refine (flagstoneref1_Valid.calls k1 (rdOf ByteArray.empty l0 x3_1) true _ ?side1 A5.out).mono ?_);(case side1=>exact GL.below HGL.out (by repeat (first|(with_reducible first|exact HB.out|apply zE|apply zB|apply zC)|exact HB.out))); rintro e w7 ⟨rfl,hb⟩; have n0_ := Aside0.mk (below_step (by repeat (first|(with_reducible first|exact HB.out|apply zE|apply zB|apply zC)|exact HB.out)) hb); clear HB; have HB := n0_; clear n0_;(try clear hb);(try clear hb2);(try clear hk);(try clear hi);(try clear hge))); try go_wp2_with (first|(go_at_call 31;(with_reducible refine (flagstoneref1_Valid.calls k1 (rdOf ByteArray.empty l0 x3_1) true _ ?side1 A5.out).mono ?_);(case side1=>exact GL.below HGL.out (by repeat (first|(with_reducible first|exact HB.out|apply zE|apply zB|apply zC)|exact HB.out))); rintro e w7 ⟨rfl,hb⟩; have n0_ := Aside0.mk (below_step (by repeat (first|(with_reducible first|exact HB.out|apply zE|apply zB|apply zC)|exact HB.out)) hb); clear HB; have HB := n0_; clear n0_;(try clear hb);(try clear hb2);(try clear hk);(try clear hi);(try clear hge))))
       go_roundg k1
       case measure=>have := HK1.out; omega
       case rel=>exact ⟨(wrap64 (x3_1 + 1)),(by first|rfl|(simp; done)|(simp [*]; done)),H',⟨by have := HK1.out; omega⟩,⟨by repeat (first|(with_reducible first|exact HB.out|apply zE|apply zB|apply zC)|exact HB.out)⟩⟩
      ·replace c6 := Bool.eq_false_iff.mpr c6
       subst c6
       have H1 : (some 2) = some r := by rw [if_neg (show ¬ (false = true) by decide)] at H; exact H
       clear H; have H := H1; clear H1
       obtain rfl := Option.some.inj H
       have p215 : 0 ≤ (x3_1 : Int) := of_decide_eq_true (by first|(with_reducible assumption)|assumption)
       have q215 : x3_1 < (l0.length : Int) := of_decide_eq_true (by first|(with_reducible assumption)|assumption)
       obtain ⟨ad215,e215,hx215_0⟩ := Kd.at_string HR0.out x3_1 p215 q215
       cases e215
       replace hx215_0:=(HB.out.cell (World.block_lt_of_cell? w _ hx215_0)).trans hx215_0
       replace p215 := eq_true p215
       replace q215 := eq_true q215
       go_wp2_with (first|(go_at_call 31;(with_reducible refine (flagstoneref1_Valid.calls k1 (rdOf ByteArray.empty l0 x3_1) false _ ?side1 A5.out).mono ?_);(case side1=>exact GL.below HGL.out (by repeat (first|(with_reducible first|exact HB.out|apply zE|apply zB|apply zC)|exact HB.out))); rintro e w8 ⟨rfl,hb⟩; have n0_ := Aside0.mk (below_step (by repeat (first|(with_reducible first|exact HB.out|apply zE|apply zB|apply zC)|exact HB.out)) hb); clear HB; have HB := n0_; clear n0_;(try clear hb);(try clear hb2);(try clear hk);(try clear hi);(try clear hge)))
       repeat (go_quiet (first|(go_at_call 31;(with_reducible refine (flagstoneref1_Valid.calls k1 (rdOf ByteArray.empty l0 x3_1) false _ ?side1 A5.out).mono ?_);(case side1=>exact GL.below HGL.out (by repeat (first|(with_reducible first|exact HB.out|apply zE|apply zB|apply zC)|exact HB.out))); rintro e w8 ⟨rfl,hb⟩; have n0_ := Aside0.mk (below_step (by repeat (first|(with_reducible first|exact HB.out|apply zE|apply zB|apply zC)|exact HB.out)) hb); clear HB; have HB := n0_; clear n0_;(try clear hb);(try clear hb2);(try clear hk);(try clear hi);(try clear hge))); try go_wp2_with (first|(go_at_call 31;(with_reducible refine (flagstoneref1_Valid.calls k1 (rdOf ByteArray.empty l0 x3_1) false _ ?side1 A5.out).mono ?_);(case side1=>exact GL.below HGL.out (by repeat (first|(with_reducible first|exact HB.out|apply zE|apply zB|apply zC)|exact HB.out))); rintro e w8 ⟨rfl,hb⟩; have n0_ := Aside0.mk (below_step (by repeat (first|(with_reducible first|exact HB.out|apply zE|apply zB|apply zC)|exact HB.out)) hb); clear HB; have HB := n0_; clear n0_;(try clear hb);(try clear hb2);(try clear hk);(try clear hi);(try clear hge))))
       go_ret
       exact ⟨by first|rfl|(simp [errW_none,errW_some]<;>rfl)|(simp [*,errW_none,errW_some]<;>rfl),by repeat (first|(with_reducible first|exact HB.out|apply zE|apply zB|apply zC)|exact HB.out)⟩
     ·rw [if_neg c4] at H
      exact absurd H (by simp)
    ·rw [if_neg c3] at H
     have c3b0 : decide (x3_1 < (l0.length : Int)) = false := decide_eq_false c3
     clear c3; have H' := Aside0.mk H; clear H
     go_wp2
     repeat (go_quiet (fail); try go_wp2)
     go_loopg [4] k1 (fun kq v4 w'=>∃ (x4_2 : Int),v4 = .int .i64 x4_2 ∧ Aside0 (flagstoneref3_list.l1 kq l0 x4_2 = some r) ∧ Aside0 (kq ≤ k1) ∧ Aside0 (Below w.heap.size w w'))
     case atStart=>exact ⟨(1),(by first|rfl|(simp; done)|(simp [*]; done)),H',⟨Nat.le_refl _⟩,⟨by repeat (first|(with_reducible first|exact HB.out|apply zE|apply zB|apply zC)|exact HB.out)⟩⟩
     case round =>
      clear H';(try clear c2);(try clear c2b0);(try clear c2b1);(try clear p2);(try clear q2);(try clear hx2);(try clear c3);(try clear c3b0);(try clear c4);(try clear c4b0);(try clear c6);(try clear p6);(try clear hx215_0);(try clear p2);(try clear p215);(try clear q215)
      obtain ⟨x4_2,rfl,HA,HK2,HB⟩ := hrel
      cases gk with
      | zero=>exact absurd HA.out (by simp [flagstoneref3_list.l1])
      | succ k2 =>
       have H := HA.out; clear HA
       simp only [flagstoneref3_list.l1] at H
       by_cases c9 : x4_2 < (l0.length : Int)
       ·rw [if_pos c9] at H
        have c9b0 : decide (x4_2 < (l0.length : Int)) = true := decide_eq_true c9
        clear c9
        by_cases c10 : 0 ≤ x4_2
        ·rw [if_pos c10] at H
         have c10b0 : decide (0 ≤ x4_2) = true := decide_eq_true c10
         clear c10
         obtain ⟨ji11,hji11⟩ : ∃ j_ : Int,(wrap64 (x4_2 - 1)) = j_:=⟨_,rfl⟩
         replace H : (if 0 ≤ (ji11) then (if (ji11) < (l0.length : Int) then (if ((Op.bytesLess ((rdOf ByteArray.empty l0 (ji11)).toList) ((rdOf ByteArray.empty l0 x4_2).toList)) = true) then (flagstoneref3_list.l1 k2 l0 (wrap64 (x4_2 + 1))) else (some 9)) else (none)) else (none)) = some r := by first|(rw [hji11] at H; exact H)|(simp only [hji11] at H ⊢; exact H)
         have hji11w : (IntKind.i64.wrap (x4_2 - 1)) = ji11:=(i64_w _).trans hji11
         by_cases c12 : 0 ≤ (ji11)
         ·rw [if_pos c12] at H
          have c12b0 : decide (0 ≤ (ji11)) = true := decide_eq_true c12
          clear c12
          by_cases c13 : (ji11) < (l0.length : Int)
          ·rw [if_pos c13] at H
           have c13b0 : decide ((ji11) < (l0.length : Int)) = true := decide_eq_true c13
           clear c13
           by_cases c14 : ((Op.bytesLess ((rdOf ByteArray.empty l0 (ji11)).toList) ((rdOf ByteArray.empty l0 x4_2).toList)) = true)
           ·rw [if_pos c14] at H
            have c14b0 : (Op.bytesLess ((rdOf ByteArray.empty l0 (ji11)).toList) ((rdOf ByteArray.empty l0 x4_2).toList)) = true := c14
            clear c14; have H' := Aside0.mk H; clear H
            have p217 : 0 ≤ (x4_2 : Int) := of_decide_eq_true (by first|(with_reducible assumption)|assumption)
            have q217 : x4_2 < (l0.length : Int) := of_decide_eq_true (by first|(with_reducible assumption)|assumption)
            obtain ⟨ad217,e217,hx217_0⟩ := Kd.at_string HR0.out x4_2 p217 q217
            cases e217
            replace hx217_0:=(HB.out.cell (World.block_lt_of_cell? w _ hx217_0)).trans hx217_0
            replace p217 := eq_true p217
            replace q217 := eq_true q217
            have p218 : 0 ≤ ((ji11) : Int) := of_decide_eq_true (by first|(with_reducible assumption)|assumption)
            have q218 : (ji11) < (l0.length : Int) := of_decide_eq_true (by first|(with_reducible assumption)|assumption)
            obtain ⟨ad218,e218,hx218_0⟩ := Kd.at_string HR0.out (ji11) p218 q218
            obtain rfl : ad217 = ad218:=(by injection e218)
            replace hx218_0:=(HB.out.cell (World.block_lt_of_cell? w _ hx218_0)).trans hx218_0
            replace p218 := eq_true p218
            replace q218 := eq_true q218
            go_wp2
            repeat (go_quiet (fail); try go_wp2)
            go_roundg k2
            case measure=>have := HK1.out; have := HK2.out; omega
            case rel=>exact ⟨(wrap64 (x4_2 + 1)),(by first|rfl|(simp; done)|(simp [*]; done)),H',⟨by have := HK1.out; have := HK2.out; omega⟩,⟨by repeat (first|(with_reducible first|exact HB.out|apply zE|apply zB|apply zC)|exact HB.out)⟩⟩
           ·rw [if_neg c14] at H
            have c14b0 : (Op.bytesLess ((rdOf ByteArray.empty l0 (ji11)).toList) ((rdOf ByteArray.empty l0 x4_2).toList)) = false := by simpa using c14
            clear c14
            obtain rfl := Option.some.inj H
            have p217 : 0 ≤ (x4_2 : Int) := of_decide_eq_true (by first|(with_reducible assumption)|assumption)
            have q217 : x4_2 < (l0.length : Int) := of_decide_eq_true (by first|(with_reducible assumption)|assumption)
            obtain ⟨ad217,e217,hx217_0⟩ := Kd.at_string HR0.out x4_2 p217 q217
            cases e217
            replace hx217_0:=(HB.out.cell (World.block_lt_of_cell? w _ hx217_0)).trans hx217_0
            replace p217 := eq_true p217
            replace q217 := eq_true q217
            have p218 : 0 ≤ ((ji11) : Int) := of_decide_eq_true (by first|(with_reducible assumption)|assumption)
            have q218 : (ji11) < (l0.length : Int) := of_decide_eq_true (by first|(with_reducible assumption)|assumption)
            obtain ⟨ad218,e218,hx218_0⟩ := Kd.at_string HR0.out (ji11) p218 q218
            obtain rfl : ad217 = ad218:=(by injection e218)
            replace hx218_0:=(HB.out.cell (World.block_lt_of_cell? w _ hx218_0)).trans hx218_0
            replace p218 := eq_true p218
            replace q218 := eq_true q218
            go_wp2
            repeat (go_quiet (fail); try go_wp2)
            go_ret
            exact ⟨by first|rfl|(simp [errW_none,errW_some]<;>rfl)|(simp only [← hji11]; first|rfl|(simp [errW_none,errW_some]<;>rfl))|(simp [*,errW_none,errW_some]<;>rfl),by repeat (first|(with_reducible first|exact HB.out|apply zE|apply zB|apply zC)|exact HB.out)⟩
          ·rw [if_neg c13] at H
           exact absurd H (by simp)
         ·rw [if_neg c12] at H
          exact absurd H (by simp)
        ·rw [if_neg c10] at H
         exact absurd H (by simp)
       ·rw [if_neg c9] at H
        have c9b0 : decide (x4_2 < (l0.length : Int)) = false := decide_eq_false c9
        clear c9
        obtain rfl := Option.some.inj H
        go_wp2
        repeat (go_quiet (fail); try go_wp2)
        go_ret
        exact ⟨by first|rfl|(simp [errW_none,errW_some]<;>rfl)|(simp [*,errW_none,errW_some]<;>rfl),by repeat (first|(with_reducible first|exact HB.out|apply zE|apply zB|apply zC)|exact HB.out)⟩

end Go.Proofs.YtannjakcnnefhaaGreatDoor.U
