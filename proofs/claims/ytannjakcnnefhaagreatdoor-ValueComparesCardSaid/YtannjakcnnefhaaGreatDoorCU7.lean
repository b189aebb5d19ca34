import Derived.Test.YtannjakcnnefhaaGreatDoorCU0
import Derived.Test.YtannjakcnnefhaaGreatDoorCU1
import Derived.Test.YtannjakcnnefhaaGreatDoorCU4
import Derived.Test.YtannjakcnnefhaaGreatDoorCU6
-- printed by wip/hp.py (the session's driver of the print, with hand-proved contracts)
namespace Go.Proofs.YtannjakcnnefhaaGreatDoor.U
open Go.RowKit Go.Proofs.YtannjakcnnefhaaGreatDoorW.PrintWords Go.Proofs.YtannjakcnnefhaaGreatDoorW.PrintLast Go.Proofs.YtannjakcnnefhaaGreatDoorW.PrintMore
attribute [local go_sem] max2_int min2_int max_two min_two max_three min_three max_four min_four   -- for this text's walks alone
set_option linter.unusedVariables false
set_option linter.unusedSimpArgs false

/-! ### flagstoneref3_Check: function 15 -/
def flagstoneref3_Check.j0 : Nat → Bool → Int → Int → ByteArray → List ByteArray → Option (Int)
 | 0,_,_,_,_,_=>none
 | k + 1,x12,x220000,x220001,x220002,x220003=>if x12 = true then (some 7) else ((flagstoneref3_shape.f x220000 x220001 x220002 x220003).bind fun t220=>(if t220 = true then (if x220000 = 1 then (if x220001 = 0 then (some 0) else (if x220001 = 1 then (some 0) else (some 3))) else (if x220000 = 2 then (if x220001 < (-1099511627776) then (some 3) else (if x220001 > 1099511627776 then (some 3) else (some 0))) else (if x220000 = 3 then ((flagstoneref1_Valid.f k x220002).bind fun t221=>(if t221 = true then (some 0) else (some 2))) else (if x220000 = 4 then ((flagstoneref3_parts.f x220002).bind fun bt222=>(if bt222.2.2.2 = true then (some 0) else (some 1))) else (if x220000 = 5 then ((flagstoneref3_list.f k x220003).bind fun t227=>(some t227)) else (some 0)))))) else (some 15)))
def flagstoneref3_Check.f (k : Nat) (a0_0 : Int) (a0_1 : Int) (a0_2 : ByteArray) (l0_3 : List ByteArray) : Option (Int) := if a0_0 < 1 then (flagstoneref3_Check.j0 k true a0_0 a0_1 a0_2 l0_3) else (flagstoneref3_Check.j0 k (decide (a0_0 > 5)) a0_0 a0_1 a0_2 l0_3)
theorem flagstoneref3_Check.mono_l : ∀ k, (∀ y0 y1 y2 y3 y4, LeO (flagstoneref3_Check.j0 k y0 y1 y2 y3 y4) (flagstoneref3_Check.j0 (k + 1) y0 y1 y2 y3 y4))
 | 0=>fun _ _ _ _ _ r h=>by simp [flagstoneref3_Check.j0] at h
 | k + 1=>by
  have ih0 := flagstoneref3_Check.mono_l k
  ·intro y0 y1 y2 y3 y4
   unfold flagstoneref3_Check.j0
   repeat' first
   | (with_reducible exact ih0 _ _ _ _ _)
   | (with_reducible exact flagstoneref1_Valid.mono _ _)
   | (with_reducible exact flagstoneref3_list.mono _ _)
   | (with_reducible exact LeO.refl _)
   | (with_reducible exact LeO.none _)
   | (with_reducible refine LeO.ite ?_ ?_)
   | (with_reducible refine LeO.bind ?_ (fun _=>?_))
   | exact ih0 _ _ _ _ _
   | exact flagstoneref1_Valid.mono _ _
   | exact flagstoneref3_list.mono _ _
   | exact LeO.none _
   | refine LeO.ite ?_ ?_
   | refine LeO.bind ?_ (fun _=>?_)
theorem flagstoneref3_Check.mono : ∀ a0 a1 a2 a3 k, LeO (flagstoneref3_Check.f k a0 a1 a2 a3) (flagstoneref3_Check.f (k + 1) a0 a1 a2 a3) := by
 intro a0 a1 a2 a3 k
 have ih0 := flagstoneref3_Check.mono_l k
 unfold flagstoneref3_Check.f
 repeat' first
   | (with_reducible exact ih0 _ _ _ _ _)
   | (with_reducible exact flagstoneref1_Valid.mono _ _)
   | (with_reducible exact flagstoneref3_list.mono _ _)
   | (with_reducible exact LeO.refl _)
   | (with_reducible exact LeO.none _)
   | (with_reducible refine LeO.ite ?_ ?_)
   | (with_reducible refine LeO.bind ?_ (fun _=>?_))
   | exact ih0 _ _ _ _ _
   | exact flagstoneref1_Valid.mono _ _
   | exact flagstoneref3_list.mono _ _
   | exact LeO.none _
   | refine LeO.ite ?_ ?_
   | refine LeO.bind ?_ (fun _=>?_)
set_option maxHeartbeats 8000000 in
set_option maxRecDepth 100000 in
theorem flagstoneref3_Check.calls (k : Nat) (a0_0 : Int) (a0_1 : Int) (a0_2 : ByteArray) (A0_3 : Option Addr) (c0_3 : Nat) (l0_3 : List ByteArray) (r : Int) (w : World) (hr0_3 : Kd.C Kd.string w A0_3 l0_3.length l0_3) (hc0_3 : l0_3.length ≤ c0_3) (hGL : GL w) (h : flagstoneref3_Check.f k a0_0 a0_1 a0_2 l0_3 = some r) :
  Calls Tryz.prog 15 #[.agg #[.int .i64 a0_0,.int .i64 a0_1,.string a0_2,.slice A0_3 l0_3.length c0_3]] w fun e w'=>e = .returned (.int .i64 r) ∧ Below w.heap.size w w' := by
 have hu24 := Tryz.underlying24; have hu54 := Tryz.underlying54; have HR0_3 := Aside0.mk hr0_3; have HC0_3 := Aside0.mk hc0_3; clear hr0_3 hc0_3; have HGL := Aside0.mk hGL; clear hGL
 have HB := Aside0.mk (Below.refl w.heap.size w)
 have H : (if a0_0 < 1 then (flagstoneref3_Check.j0 k true a0_0 a0_1 a0_2 l0_3) else (flagstoneref3_Check.j0 k (decide (a0_0 > 5)) a0_0 a0_1 a0_2 l0_3)) = some r := h
 clear h; have HC2 := Aside0.mk H; clear H
 go_enter Tryz.func15,Tryz.ntmps15
 go_upto_region 1 with (first|((with_reducible refine gate_dst (N := 1) rfl ?_); refine box_event ?hg (N := 1) ?hd (cs := #[.int .i64 a0_0,.int .i64 a0_1,.string a0_2,.slice A0_3 l0_3.length c0_3]) (t := 24) ?hr ?_;(case hd=>rfl);(case hg=>rfl);(case hr=>first|(go_simp; done)|(go_simp; rfl)); intro gb219 hg w3 hbox hb; have n0_ := Aside0.mk (below_step (by repeat (first|(with_reducible first|exact HB.out|apply zE|apply zB|apply zC)|exact HB.out)) hb); have n1_ := Aside0.mk (hbox); have n2_ := Aside0.mk ((by rw [hg]; exact (below_size (by repeat (first|(with_reducible first|exact HB.out|apply zE|apply zB|apply zC)|exact HB.out))) : w.heap.size ≤ gb219)); have n3_ := Aside0.mk ((by rw [hg]; exact (below_size (by repeat (first|(with_reducible first|exact HB.out|apply zE|apply zB|apply zC)|exact HB.out))) : w.heap.size ≤ gb219)); clear HB; have HB := n0_; have BK219 := n1_; have GW219 := n2_; have GE219 := n3_; clear n0_ n1_ n2_ n3_ hb hbox hg))
 (try simp only [Act.put,List.setIfInBounds_toArray,List.set_cons_zero,List.set_cons_succ])
 go_cut [12] (fun v12 wc=>∃ (kq : Nat) (x12_1 : Bool),v12 = .bool x12_1 ∧ Aside0 (flagstoneref3_Check.j0 kq x12_1 a0_0 a0_1 a0_2 l0_3 = some r) ∧ Aside0 (kq ≤ k) ∧ Aside0 (wc.heap[gb219]? = some (.cells #[.int .i64 a0_0,.int .i64 a0_1,.string a0_2,(.slice A0_3 l0_3.length c0_3)] 24 (0,0))) ∧ Aside0 (Below w.heap.size w wc))
 case first =>
  have H := HC2.out; clear HC2
  by_cases c4 : a0_0 < 1
  ·rw [if_pos c4] at H
   have c4b0 : decide (a0_0 < 1) = true := decide_eq_true c4
   clear c4
   (first|rw [c4b0]|(simp only [i64_w,i32_w]; rw [c4b0])|skip)
   have H' := Aside0.mk H; clear H
   have hcz5_0 : w3.cell? ⟨gb219,0,none⟩ = some (.int .i64 a0_0):=(blk_cell BK219.out 0).trans rfl
   have hcz5_1 : w3.cell? ⟨gb219,1,none⟩ = some (.int .i64 a0_1):=(blk_cell BK219.out 1).trans rfl
   have hcz5_2 : w3.cell? ⟨gb219,2,none⟩ = some (.string a0_2):=(blk_cell BK219.out 2).trans rfl
   have hcz5_3 : w3.cell? ⟨gb219,3,none⟩ = some (.slice A0_3 l0_3.length c0_3):=(blk_cell BK219.out 3).trans rfl
   have hfz5_0 := blk_frozen BK219.out 0
   have hfz5_1 := blk_frozen BK219.out 1
   have hfz5_2 := blk_frozen BK219.out 2
   have hfz5_3 := blk_frozen BK219.out 3
   go_wp2
   go_meet
   case rel=>exact ⟨_,(true),(by first|rfl|(simp; done)|(simp [*]; done)),H',⟨by first|omega|exact Nat.le_refl _⟩,⟨by (with_reducible repeat (first|refine zN ?_ _|refine zD ?_|refine zA ?_ _)); exact BK219.out⟩,⟨by repeat (first|(with_reducible first|exact HB.out|apply zE|apply zB|apply zC|refine zJ ?_ GE219.out)|exact HB.out)⟩⟩
  ·rw [if_neg c4] at H
   have c4b0 : decide (a0_0 < 1) = false := decide_eq_false c4
   clear c4
   (first|rw [c4b0]|(simp only [i64_w,i32_w]; rw [c4b0])|skip)
   have H' := Aside0.mk H; clear H
   have hcz6_0 : w3.cell? ⟨gb219,0,none⟩ = some (.int .i64 a0_0):=(blk_cell BK219.out 0).trans rfl
   have hcz6_1 : w3.cell? ⟨gb219,1,none⟩ = some (.int .i64 a0_1):=(blk_cell BK219.out 1).trans rfl
   have hcz6_2 : w3.cell? ⟨gb219,2,none⟩ = some (.string a0_2):=(blk_cell BK219.out 2).trans rfl
   have hcz6_3 : w3.cell? ⟨gb219,3,none⟩ = some (.slice A0_3 l0_3.length c0_3):=(blk_cell BK219.out 3).trans rfl
   have hfz6_0 := blk_frozen BK219.out 0
   have hfz6_1 := blk_frozen BK219.out 1
   have hfz6_2 := blk_frozen BK219.out 2
   have hfz6_3 := blk_frozen BK219.out 3
   go_wp2
   go_meet
   case rel=>exact ⟨_,(decide (a0_0 > 5)),(by first|rfl|(simp; done)|(simp [*]; done)),H',⟨by first|omega|exact Nat.le_refl _⟩,⟨by (with_reducible repeat (first|refine zN ?_ _|refine zD ?_|refine zA ?_ _)); exact BK219.out⟩,⟨by repeat (first|(with_reducible first|exact HB.out|apply zE|apply zB|apply zC|refine zJ ?_ GE219.out)|exact HB.out)⟩⟩
 case rest =>
  clear HC2;(try clear c1);(try clear p2);(try clear c4);(try clear c4b0);(try clear hcz5_0);(try clear hcz5_1);(try clear hcz5_2);(try clear hcz5_3);(try clear hcz6_0);(try clear hcz6_1);(try clear hcz6_2);(try clear hcz6_3);(try clear hfz5_0);(try clear hfz5_1);(try clear hfz5_2);(try clear hfz5_3);(try clear hfz6_0);(try clear hfz6_1);(try clear hfz6_2);(try clear hfz6_3)
  obtain ⟨kq,x12_1,rfl,HA,HJ1,BK219,HB⟩ := hcut
  cases kq with
  | zero=>exact absurd HA.out (by simp [flagstoneref3_Check.j0])
  | succ kj1 =>
   have H := HA.out; clear HA
   simp only [flagstoneref3_Check.j0] at H
   by_cases c7 : x12_1 = true
   ·subst c7
    have H1 : (some 7) = some r := by rw [if_pos rfl] at H; exact H
    clear H; have H := H1; clear H1
    obtain rfl := Option.some.inj H
    go_wp2
    go_ret
    exact ⟨by first|rfl|(simp [errW_none,errW_some]<;>rfl)|(simp [*,errW_none,errW_some]<;>rfl),by repeat (first|(with_reducible first|exact HB.out|apply zE|apply zB|apply zC|refine zJ ?_ GE219.out)|exact HB.out)⟩
   ·replace c7 := Bool.eq_false_iff.mpr c7
    subst c7
    have H1 : ((flagstoneref3_shape.f a0_0 a0_1 a0_2 l0_3).bind fun t220=>(if t220 = true then (if a0_0 = 1 then (if a0_1 = 0 then (some 0) else (if a0_1 = 1 then (some 0) else (some 3))) else (if a0_0 = 2 then (if a0_1 < (-1099511627776) then (some 3) else (if a0_1 > 1099511627776 then (some 3) else (some 0))) else (if a0_0 = 3 then ((flagstoneref1_Valid.f kj1 a0_2).bind fun t221=>(if t221 = true then (some 0) else (some 2))) else (if a0_0 = 4 then ((flagstoneref3_parts.f a0_2).bind fun bt222=>(if bt222.2.2.2 = true then (some 0) else (some 1))) else (if a0_0 = 5 then ((flagstoneref3_list.f kj1 l0_3).bind fun t227=>(some t227)) else (some 0)))))) else (some 15))) = some r := by rw [if_neg (show ¬ (false = true) by decide)] at H; exact H
    clear H; have H := H1; clear H1; replace H := Option.bind_eq_some_iff.mp H; obtain ⟨t220,A80,H⟩ := H
    replace H : (if t220 = true then (if a0_0 = 1 then (if a0_1 = 0 then (some 0) else (if a0_1 = 1 then (some 0) else (some 3))) else (if a0_0 = 2 then (if a0_1 < (-1099511627776) then (some 3) else (if a0_1 > 1099511627776 then (some 3) else (some 0))) else (if a0_0 = 3 then ((flagstoneref1_Valid.f kj1 a0_2).bind fun t221=>(if t221 = true then (some 0) else (some 2))) else (if a0_0 = 4 then ((flagstoneref3_parts.f a0_2).bind fun bt222=>(if bt222.2.2.2 = true then (some 0) else (some 1))) else (if a0_0 = 5 then ((flagstoneref3_list.f kj1 l0_3).bind fun t227=>(some t227)) else (some 0)))))) else (some 15)) = some r := H
    have A8 := Aside0.mk A80; clear A80
    by_cases c9 : t220 = true
    ·subst c9
     have H1 : (if a0_0 = 1 then (if a0_1 = 0 then (some 0) else (if a0_1 = 1 then (some 0) else (some 3))) else (if a0_0 = 2 then (if a0_1 < (-1099511627776) then (some 3) else (if a0_1 > 1099511627776 then (some 3) else (some 0))) else (if a0_0 = 3 then ((flagstoneref1_Valid.f kj1 a0_2).bind fun t221=>(if t221 = true then (some 0) else (some 2))) else (if a0_0 = 4 then ((flagstoneref3_parts.f a0_2).bind fun bt222=>(if bt222.2.2.2 = true then (some 0) else (some 1))) else (if a0_0 = 5 then ((flagstoneref3_list.f kj1 l0_3).bind fun t227=>(some t227)) else (some 0)))))) = some r := by rw [if_pos rfl] at H; exact H
     clear H; have H := H1; clear H1
     by_cases c10 : a0_0 = 1
     ·rw [if_pos c10] at H
      have c10b0 : (a0_0 == 1) = true := beq_iff_eq.mpr c10
      have c10b1 : (a0_0 != 1) = false := bne_eq_false_iff_eq.mpr c10
      clear c10
      by_cases c11 : a0_1 = 0
      ·rw [if_pos c11] at H
       have c11b0 : (a0_1 == 0) = true := beq_iff_eq.mpr c11
       have c11b1 : (a0_1 != 0) = false := bne_eq_false_iff_eq.mpr c11
       clear c11
       obtain rfl := Option.some.inj H
       have hcz12_0 : wc.cell? ⟨gb219,0,none⟩ = some (.int .i64 a0_0):=(blk_cell BK219.out 0).trans rfl
       have hcz12_1 : wc.cell? ⟨gb219,1,none⟩ = some (.int .i64 a0_1):=(blk_cell BK219.out 1).trans rfl
       have hcz12_2 : wc.cell? ⟨gb219,2,none⟩ = some (.string a0_2):=(blk_cell BK219.out 2).trans rfl
       have hcz12_3 : wc.cell? ⟨gb219,3,none⟩ = some (.slice A0_3 l0_3.length c0_3):=(blk_cell BK219.out 3).trans rfl
       have hfz12_0 := blk_frozen BK219.out 0
       have hfz12_1 := blk_frozen BK219.out 1
       have hfz12_2 := blk_frozen BK219.out 2
       have hfz12_3 := blk_frozen BK219.out 3
       go_wp2_with (first|((with_reducible refine gate_callee (f := 30) rfl ?_); refine goesL_ (some 14) rfl rfl Tryz.func30 (by kernel_rfl) rfl #[.agg #[.int .i64 a0_0,.int .i64 a0_1,.string a0_2,.slice A0_3 l0_3.length c0_3]] rfl (by (try simp only [List.map_toArray,List.map_cons,List.map_nil]); first|done|rfl|(simp only [List.length_drop,List.length_take]; rfl)) ?_;(with_reducible refine (flagstoneref3_shape.calls a0_0 a0_1 a0_2 _ _ l0_3 true _ ?side1 ?side2 A8.out).mono ?_);(case side1=>repeat (first|exact (Kd.C_below HR0_3.out HB.out)|(with_reducible refine Kd.C_alloc ?_ _)|(with_reducible refine Kd.C_drewN ?_ _)|(with_reducible refine Kd.C_drew ?_)));(case side2=>exact HC0_3.out); rintro e w13 ⟨rfl,hb⟩; refine ⟨_,rfl,?_⟩; have n0_ := Aside0.mk (blk_below (g := gb219) (o := .cells #[.int .i64 a0_0,.int .i64 a0_1,.string a0_2,.slice A0_3 l0_3.length c0_3] 24 (0,0)) (by (with_reducible repeat (first|refine zN ?_ _|refine zD ?_|refine zA ?_ _)); exact BK219.out) hb); have n1_ := Aside0.mk (below_step (by repeat (first|(with_reducible first|exact HB.out|apply zE|apply zB|apply zC|refine zJ ?_ GE219.out)|exact HB.out)) hb); clear BK219 HB; have BK219 := n0_; have HB := n1_; clear n0_ n1_;(try clear hb);(try clear hb2);(try clear hk);(try clear hi);(try clear hge); have hcz14_0 : w13.cell? ⟨gb219,0,none⟩ = some (.int .i64 a0_0):=(blk_cell BK219.out 0).trans rfl; have hcz14_1 : w13.cell? ⟨gb219,1,none⟩ = some (.int .i64 a0_1):=(blk_cell BK219.out 1).trans rfl; have hcz14_2 : w13.cell? ⟨gb219,2,none⟩ = some (.string a0_2):=(blk_cell BK219.out 2).trans rfl; have hcz14_3 : w13.cell? ⟨gb219,3,none⟩ = some (.slice A0_3 l0_3.length c0_3):=(blk_cell BK219.out 3).trans rfl; have hfz14_0 := blk_frozen BK219.out 0; have hfz14_1 := blk_frozen BK219.out 1; have hfz14_2 := blk_frozen BK219.out 2; have hfz14_3 := blk_frozen BK219.out 3))
       go_ret
       exact ⟨by first|rfl|(simp [errW_none,errW_some]<;>rfl)|(simp [*,errW_none,errW_some]<;>rfl),by repeat (first|(with_reducible first|exact HB.out|apply zE|apply zB|apply zC|refine zJ ?_ GE219.out)|exact HB.out)⟩
      ·rw [if_neg c11] at H
       have c11b0 : (a0_1 == 0) = false := beq_eq_false_iff_ne.mpr c11
       have c11b1 : (a0_1 != 0) = true := bne_iff_ne.mpr c11
       by_cases c15 : a0_1 = 1
       ·rw [if_pos c15] at H
        have c15b0 : (a0_1 == 1) = true := beq_iff_eq.mpr c15
        have c15b1 : (a0_1 != 1) = false := bne_eq_false_iff_eq.mpr c15
        clear c15
        obtain rfl := Option.some.inj H
        have hcz16_0 : wc.cell? ⟨gb219,0,none⟩ = some (.int .i64 a0_0):=(blk_cell BK219.out 0).trans rfl
        have hcz16_1 : wc.cell? ⟨gb219,1,none⟩ = some (.int .i64 a0_1):=(blk_cell BK219.out 1).trans rfl
        have hcz16_2 : wc.cell? ⟨gb219,2,none⟩ = some (.string a0_2):=(blk_cell BK219.out 2).trans rfl
        have hcz16_3 : wc.cell? ⟨gb219,3,none⟩ = some (.slice A0_3 l0_3.length c0_3):=(blk_cell BK219.out 3).trans rfl
        have hfz16_0 := blk_frozen BK219.out 0
        have hfz16_1 := blk_frozen BK219.out 1
        have hfz16_2 := blk_frozen BK219.out 2
        have hfz16_3 := blk_frozen BK219.out 3
        go_wp2_with (first|((with_reducible refine gate_callee (f := 30) rfl ?_); refine goesL_ (some 14) rfl rfl Tryz.func30 (by kernel_rfl) rfl #[.agg #[.int .i64 a0_0,.int .i64 a0_1,.string a0_2,.slice A0_3 l0_3.length c0_3]] rfl (by (try simp only [List.map_toArray,List.map_cons,List.map_nil]); first|done|rfl|(simp only [List.length_drop,List.length_take]; rfl)) ?_;(with_reducible refine (flagstoneref3_shape.calls a0_0 a0_1 a0_2 _ _ l0_3 true _ ?side1 ?side2 A8.out).mono ?_);(case side1=>repeat (first|exact (Kd.C_below HR0_3.out HB.out)|(with_reducible refine Kd.C_alloc ?_ _)|(with_reducible refine Kd.C_drewN ?_ _)|(with_reducible refine Kd.C_drew ?_)));(case side2=>exact HC0_3.out); rintro e w17 ⟨rfl,hb⟩; refine ⟨_,rfl,?_⟩; have n0_ := Aside0.mk (blk_below (g := gb219) (o := .cells #[.int .i64 a0_0,.int .i64 a0_1,.string a0_2,.slice A0_3 l0_3.length c0_3] 24 (0,0)) (by (with_reducible repeat (first|refine zN ?_ _|refine zD ?_|refine zA ?_ _)); exact BK219.out) hb); have n1_ := Aside0.mk (below_step (by repeat (first|(with_reducible first|exact HB.out|apply zE|apply zB|apply zC|refine zJ ?_ GE219.out)|exact HB.out)) hb); clear BK219 HB; have BK219 := n0_; have HB := n1_; clear n0_ n1_;(try clear hb);(try clear hb2);(try clear hk);(try clear hi);(try clear hge); have hcz18_0 : w17.cell? ⟨gb219,0,none⟩ = some (.int .i64 a0_0):=(blk_cell BK219.out 0).trans rfl; have hcz18_1 : w17.cell? ⟨gb219,1,none⟩ = some (.int .i64 a0_1):=(blk_cell BK219.out 1).trans rfl; have hcz18_2 : w17.cell? ⟨gb219,2,none⟩ = some (.string a0_2):=(blk_cell BK219.out 2).trans rfl; have hcz18_3 : w17.cell? ⟨gb219,3,none⟩ = some (.slice A0_3 l0_3.length c0_3):=(blk_cell BK219.out 3).trans rfl; have hfz18_0 := blk_frozen BK219.out 0; have hfz18_1 := blk_frozen BK219.out 1; have hfz18_2 := blk_frozen BK219.out 2; have hfz18_3 := blk_frozen BK219.out 3))
        go_ret
        exact ⟨by first|rfl|(simp [errW_none,errW_some]<;>rfl)|(simp [*,errW_none,errW_some]<;>rfl),by repeat (first|(with_reducible first|exact HB.out|apply zE|apply zB|apply zC|refine zJ ?_ GE219.out)|exact HB.out)⟩
       ·rw [if_neg c15] at H
        have c15b0 : (a0_1 == 1) = false := beq_eq_false_iff_ne.mpr c15
        have c15b1 : (a0_1 != 1) = true := bne_iff_ne.mpr c15
        obtain rfl := Option.some.inj H
        have hcz19_0 : wc.cell? ⟨gb219,0,none⟩ = some (.int .i64 a0_0):=(blk_cell BK219.out 0).trans rfl
        have hcz19_1 : wc.cell? ⟨gb219,1,none⟩ = some (.int .i64 a0_1):=(blk_cell BK219.out 1).trans rfl
        have hcz19_2 : wc.cell? ⟨gb219,2,none⟩ = some (.string a0_2):=(blk_cell BK219.out 2).trans rfl
        have hcz19_3 : wc.cell? ⟨gb219,3,none⟩ = some (.slice A0_3 l0_3.length c0_3):=(blk_cell BK219.out 3).trans rfl
        have hfz19_0 := blk_frozen BK219.out 0
        have hfz19_1 := blk_frozen BK219.out 1
        have hfz19_2 := blk_frozen BK219.out 2
        have hfz19_3 := blk_frozen BK219.out 3
        go_wp2_with (first|((with_reducible refine gate_callee (f := 30) rfl ?_); refine goesL_ (some 14) rfl rfl Tryz.func30 (by kernel_rfl) rfl #[.agg #[.int .i64 a0_0,.int .i64 a0_1,.string a0_2,.slice A0_3 l0_3.length c0_3]] rfl (by (try simp only [List.map_toArray,List.map_cons,List.map_nil]); first|done|rfl|(simp only [List.length_drop,List.length_take]; rfl)) ?_;(with_reducible refine (flagstoneref3_shape.calls a0_0 a0_1 a0_2 _ _ l0_3 true _ ?side1 ?side2 A8.out).mono ?_);(case side1=>repeat (first|exact (Kd.C_below HR0_3.out HB.out)|(with_reducible refine Kd.C_alloc ?_ _)|(with_reducible refine Kd.C_drewN ?_ _)|(with_reducible refine Kd.C_drew ?_)));(case side2=>exact HC0_3.out); rintro e w20 ⟨rfl,hb⟩; refine ⟨_,rfl,?_⟩; have n0_ := Aside0.mk (blk_below (g := gb219) (o := .cells #[.int .i64 a0_0,.int .i64 a0_1,.string a0_2,.slice A0_3 l0_3.length c0_3] 24 (0,0)) (by (with_reducible repeat (first|refine zN ?_ _|refine zD ?_|refine zA ?_ _)); exact BK219.out) hb); have n1_ := Aside0.mk (below_step (by repeat (first|(with_reducible first|exact HB.out|apply zE|apply zB|apply zC|refine zJ ?_ GE219.out)|exact HB.out)) hb); clear BK219 HB; have BK219 := n0_; have HB := n1_; clear n0_ n1_;(try clear hb);(try clear hb2);(try clear hk);(try clear hi);(try clear hge); have hcz21_0 : w20.cell? ⟨gb219,0,none⟩ = some (.int .i64 a0_0):=(blk_cell BK219.out 0).trans rfl; have hcz21_1 : w20.cell? ⟨gb219,1,none⟩ = some (.int .i64 a0_1):=(blk_cell BK219.out 1).trans rfl; have hcz21_2 : w20.cell? ⟨gb219,2,none⟩ = some (.string a0_2):=(blk_cell BK219.out 2).trans rfl; have hcz21_3 : w20.cell? ⟨gb219,3,none⟩ = some (.slice A0_3 l0_3.length c0_3):=(blk_cell BK219.out 3).trans rfl; have hfz21_0 := blk_frozen BK219.out 0; have hfz21_1 := blk_frozen BK219.out 1; have hfz21_2 := blk_frozen BK219.out 2; have hfz21_3 := blk_frozen BK219.out 3))
        go_ret
        exact ⟨by first|rfl|(simp [errW_none,errW_some]<;>rfl)|(simp [*,errW_none,errW_some]<;>rfl),by repeat (first|(with_reducible first|exact HB.out|apply zE|apply zB|apply zC|refine zJ ?_ GE219.out)|exact HB.out)⟩
     ·rw [if_neg c10] at H
      have c10b0 : (a0_0 == 1) = false := beq_eq_false_iff_ne.mpr c10
      have c10b1 : (a0_0 != 1) = true := bne_iff_ne.mpr c10
      by_cases c22 : a0_0 = 2
      ·rw [if_pos c22] at H
       have c22b0 : (a0_0 == 2) = true := beq_iff_eq.mpr c22
       have c22b1 : (a0_0 != 2) = false := bne_eq_false_iff_eq.mpr c22
       clear c22
       by_cases c23 : a0_1 < (-1099511627776)
       ·rw [if_pos c23] at H
        have c23b0 : decide (a0_1 < (-1099511627776)) = true := decide_eq_true c23
        clear c23
        obtain rfl := Option.some.inj H
        have hcz24_0 : wc.cell? ⟨gb219,0,none⟩ = some (.int .i64 a0_0):=(blk_cell BK219.out 0).trans rfl
        have hcz24_1 : wc.cell? ⟨gb219,1,none⟩ = some (.int .i64 a0_1):=(blk_cell BK219.out 1).trans rfl
        have hcz24_2 : wc.cell? ⟨gb219,2,none⟩ = some (.string a0_2):=(blk_cell BK219.out 2).trans rfl
        have hcz24_3 : wc.cell? ⟨gb219,3,none⟩ = some (.slice A0_3 l0_3.length c0_3):=(blk_cell BK219.out 3).trans rfl
        have hfz24_0 := blk_frozen BK219.out 0
        have hfz24_1 := blk_frozen BK219.out 1
        have hfz24_2 := blk_frozen BK219.out 2
        have hfz24_3 := blk_frozen BK219.out 3
        go_wp2_with (first|((with_reducible refine gate_callee (f := 30) rfl ?_); refine goesL_ (some 14) rfl rfl Tryz.func30 (by kernel_rfl) rfl #[.agg #[.int .i64 a0_0,.int .i64 a0_1,.string a0_2,.slice A0_3 l0_3.length c0_3]] rfl (by (try simp only [List.map_toArray,List.map_cons,List.map_nil]); first|done|rfl|(simp only [List.length_drop,List.length_take]; rfl)) ?_;(with_reducible refine (flagstoneref3_shape.calls a0_0 a0_1 a0_2 _ _ l0_3 true _ ?side1 ?side2 A8.out).mono ?_);(case side1=>repeat (first|exact (Kd.C_below HR0_3.out HB.out)|(with_reducible refine Kd.C_alloc ?_ _)|(with_reducible refine Kd.C_drewN ?_ _)|(with_reducible refine Kd.C_drew ?_)));(case side2=>exact HC0_3.out); rintro e w25 ⟨rfl,hb⟩; refine ⟨_,rfl,?_⟩; have n0_ := Aside0.mk (blk_below (g := gb219) (o := .cells #[.int .i64 a0_0,.int .i64 a0_1,.string a0_2,.slice A0_3 l0_3.length c0_3] 24 (0,0)) (by (with_reducible repeat (first|refine zN ?_ _|refine zD ?_|refine zA ?_ _)); exact BK219.out) hb); have n1_ := Aside0.mk (below_step (by repeat (first|(with_reducible first|exact HB.out|apply zE|apply zB|apply zC|refine zJ ?_ GE219.out)|exact HB.out)) hb); clear BK219 HB; have BK219 := n0_; have HB := n1_; clear n0_ n1_;(try clear hb);(try clear hb2);(try clear hk);(try clear hi);(try clear hge); have hcz26_0 : w25.cell? ⟨gb219,0,none⟩ = some (.int .i64 a0_0):=(blk_cell BK219.out 0).trans rfl; have hcz26_1 : w25.cell? ⟨gb219,1,none⟩ = some (.int .i64 a0_1):=(blk_cell BK219.out 1).trans rfl; have hcz26_2 : w25.cell? ⟨gb219,2,none⟩ = some (.string a0_2):=(blk_cell BK219.out 2).trans rfl; have hcz26_3 : w25.cell? ⟨gb219,3,none⟩ = some (.slice A0_3 l0_3.length c0_3):=(blk_cell BK219.out 3).trans rfl; have hfz26_0 := blk_frozen BK219.out 0; have hfz26_1 := blk_frozen BK219.out 1; have hfz26_2 := blk_frozen BK219.out 2; have hfz26_3 := blk_frozen BK219.out 3))
        go_ret
        exact ⟨by first|rfl|(simp [errW_none,errW_some]<;>rfl)|(simp [*,errW_none,errW_some]<;>rfl),by repeat (first|(with_reducible first|exact HB.out|apply zE|apply zB|apply zC|refine zJ ?_ GE219.out)|exact HB.out)⟩
       ·rw [if_neg c23] at H
        have c23b0 : decide (a0_1 < (-1099511627776)) = false := decide_eq_false c23
        clear c23
        by_cases c27 : a0_1 > 1099511627776
        ·rw [if_pos c27] at H
         have c27b0 : decide (1099511627776 < a0_1) = true := decide_eq_true c27
         clear c27
         obtain rfl := Option.some.inj H
         have hcz28_0 : wc.cell? ⟨gb219,0,none⟩ = some (.int .i64 a0_0):=(blk_cell BK219.out 0).trans rfl
         have hcz28_1 : wc.cell? ⟨gb219,1,none⟩ = some (.int .i64 a0_1):=(blk_cell BK219.out 1).trans rfl
         have hcz28_2 : wc.cell? ⟨gb219,2,none⟩ = some (.string a0_2):=(blk_cell BK219.out 2).trans rfl
         have hcz28_3 : wc.cell? ⟨gb219,3,none⟩ = some (.slice A0_3 l0_3.length c0_3):=(blk_cell BK219.out 3).trans rfl
         have hfz28_0 := blk_frozen BK219.out 0
         have hfz28_1 := blk_frozen BK219.out 1
         have hfz28_2 := blk_frozen BK219.out 2
         have hfz28_3 := blk_frozen BK219.out 3
         go_wp2_with (first|((with_reducible refine gate_callee (f := 30) rfl ?_); refine goesL_ (some 14) rfl rfl Tryz.func30 (by kernel_rfl) rfl #[.agg #[.int .i64 a0_0,.int .i64 a0_1,.string a0_2,.slice A0_3 l0_3.length c0_3]] rfl (by (try simp only [List.map_toArray,List.map_cons,List.map_nil]); first|done|rfl|(simp only [List.length_drop,List.length_take]; rfl)) ?_;(with_reducible refine (flagstoneref3_shape.calls a0_0 a0_1 a0_2 _ _ l0_3 true _ ?side1 ?side2 A8.out).mono ?_);(case side1=>repeat (first|exact (Kd.C_below HR0_3.out HB.out)|(with_reducible refine Kd.C_alloc ?_ _)|(with_reducible refine Kd.C_drewN ?_ _)|(with_reducible refine Kd.C_drew ?_)));(case side2=>exact HC0_3.out); rintro e w29 ⟨rfl,hb⟩; refine ⟨_,rfl,?_⟩; have n0_ := Aside0.mk (blk_below (g := gb219) (o := .cells #[.int .i64 a0_0,.int .i64 a0_1,.string a0_2,.slice A0_3 l0_3.length c0_3] 24 (0,0)) (by (with_reducible repeat (first|refine zN ?_ _|refine zD ?_|refine zA ?_ _)); exact BK219.out) hb); have n1_ := Aside0.mk (below_step (by repeat (first|(with_reducible first|exact HB.out|apply zE|apply zB|apply zC|refine zJ ?_ GE219.out)|exact HB.out)) hb); clear BK219 HB; have BK219 := n0_; have HB := n1_; clear n0_ n1_;(try clear hb);(try clear hb2);(try clear hk);(try clear hi);(try clear hge); have hcz30_0 : w29.cell? ⟨gb219,0,none⟩ = some (.int .i64 a0_0):=(blk_cell BK219.out 0).trans rfl; have hcz30_1 : w29.cell? ⟨gb219,1,none⟩ = some (.int .i64 a0_1):=(blk_cell BK219.out 1).trans rfl; have hcz30_2 : w29.cell? ⟨gb219,2,none⟩ = some (.string a0_2):=(blk_cell BK219.out 2).trans rfl; have hcz30_3 : w29.cell? ⟨gb219,3,none⟩ = some (.slice A0_3 l0_3.length c0_3):=(blk_cell BK219.out 3).trans rfl; have hfz30_0 := blk_frozen BK219.out 0; have hfz30_1 := blk_frozen BK219.out 1; have hfz30_2 := blk_frozen BK219.out 2; have hfz30_3 := blk_frozen BK219.out 3))
         go_ret
         exact ⟨by first|rfl|(simp [errW_none,errW_some]<;>rfl)|(simp [*,errW_none,errW_some]<;>rfl),by repeat (first|(with_reducible first|exact HB.out|apply zE|apply zB|apply zC|refine zJ ?_ GE219.out)|exact HB.out)⟩
        ·rw [if_neg c27] at H
         have c27b0 : decide (1099511627776 < a0_1) = false := decide_eq_false c27
         clear c27
         obtain rfl := Option.some.inj H
         have hcz31_0 : wc.cell? ⟨gb219,0,none⟩ = some (.int .i64 a0_0):=(blk_cell BK219.out 0).trans rfl
         have hcz31_1 : wc.cell? ⟨gb219,1,none⟩ = some (.int .i64 a0_1):=(blk_cell BK219.out 1).trans rfl
         have hcz31_2 : wc.cell? ⟨gb219,2,none⟩ = some (.string a0_2):=(blk_cell BK219.out 2).trans rfl
         have hcz31_3 : wc.cell? ⟨gb219,3,none⟩ = some (.slice A0_3 l0_3.length c0_3):=(blk_cell BK219.out 3).trans rfl
         have hfz31_0 := blk_frozen BK219.out 0
         have hfz31_1 := blk_frozen BK219.out 1
         have hfz31_2 := blk_frozen BK219.out 2
         have hfz31_3 := blk_frozen BK219.out 3
         go_wp2_with (first|((with_reducible refine gate_callee (f := 30) rfl ?_); refine goesL_ (some 14) rfl rfl Tryz.func30 (by kernel_rfl) rfl #[.agg #[.int .i64 a0_0,.int .i64 a0_1,.string a0_2,.slice A0_3 l0_3.length c0_3]] rfl (by (try simp only [List.map_toArray,List.map_cons,List.map_nil]); first|done|rfl|(simp only [List.length_drop,List.length_take]; rfl)) ?_;(with_reducible refine (flagstoneref3_shape.calls a0_0 a0_1 a0_2 _ _ l0_3 true _ ?side1 ?side2 A8.out).mono ?_);(case side1=>repeat (first|exact (Kd.C_below HR0_3.out HB.out)|(with_reducible refine Kd.C_alloc ?_ _)|(with_reducible refine Kd.C_drewN ?_ _)|(with_reducible refine Kd.C_drew ?_)));(case side2=>exact HC0_3.out); rintro e w32 ⟨rfl,hb⟩; refine ⟨_,rfl,?_⟩; have n0_ := Aside0.mk (blk_below (g := gb219) (o := .cells #[.int .i64 a0_0,.int .i64 a0_1,.string a0_2,.slice A0_3 l0_3.length c0_3] 24 (0,0)) (by (with_reducible repeat (first|refine zN ?_ _|refine zD ?_|refine zA ?_ _)); exact BK219.out) hb); have n1_ := Aside0.mk (below_step (by repeat (first|(with_reducible first|exact HB.out|apply zE|apply zB|apply zC|refine zJ ?_ GE219.out)|exact HB.out)) hb); clear BK219 HB; have BK219 := n0_; have HB := n1_; clear n0_ n1_;(try clear hb);(try clear hb2);(try clear hk);(try clear hi);(try clear hge); have hcz33_0 : w32.cell? ⟨gb219,0,none⟩ = some (.int .i64 a0_0):=(blk_cell BK219.out 0).trans rfl; have hcz33_1 : w32.cell? ⟨gb219,1,none⟩ = some (.int .i64 a0_1):=(blk_cell BK219.out 1).trans rfl; have hcz33_2 : w32.cell? ⟨gb219,2,none⟩ = some (.string a0_2):=(blk_cell BK219.out 2).trans rfl; have hcz33_3 : w32.cell? ⟨gb219,3,none⟩ = some (.slice A0_3 l0_3.length c0_3):=(blk_cell BK219.out 3).trans rfl; have hfz33_0 := blk_frozen BK219.out 0; have hfz33_1 := blk_frozen BK219.out 1; have hfz33_2 := blk_frozen BK219.out 2; have hfz33_3 := blk_frozen BK219.out 3))
         go_ret
         exact ⟨by first|rfl|(simp [errW_none,errW_some]<;>rfl)|(simp [*,errW_none,errW_some]<;>rfl),by repeat (first|(with_reducible first|exact HB.out|apply zE|apply zB|apply zC|refine zJ ?_ GE219.out)|exact HB.out)⟩
      ·rw [if_neg c22] at H
       have c22b0 : (a0_0 == 2) = false := beq_eq_false_iff_ne.mpr c22
       have c22b1 : (a0_0 != 2) = true := bne_iff_ne.mpr c22
       by_cases c34 : a0_0 = 3
       ·rw [if_pos c34] at H
        have c34b0 : (a0_0 == 3) = true := beq_iff_eq.mpr c34
        have c34b1 : (a0_0 != 3) = false := bne_eq_false_iff_eq.mpr c34
        clear c34; replace H := Option.bind_eq_some_iff.mp H; obtain ⟨t221,A350,H⟩ := H
        replace H : (if t221 = true then (some 0) else (some 2)) = some r := H
        have A35 := Aside0.mk A350; clear A350
        by_cases c36 : t221 = true
        ·subst c36
         have H1 : (some 0) = some r := by rw [if_pos rfl] at H; exact H
         clear H; have H := H1; clear H1
         obtain rfl := Option.some.inj H
         have hcz37_0 : wc.cell? ⟨gb219,0,none⟩ = some (.int .i64 a0_0):=(blk_cell BK219.out 0).trans rfl
         have hcz37_1 : wc.cell? ⟨gb219,1,none⟩ = some (.int .i64 a0_1):=(blk_cell BK219.out 1).trans rfl
         have hcz37_2 : wc.cell? ⟨gb219,2,none⟩ = some (.string a0_2):=(blk_cell BK219.out 2).trans rfl
         have hcz37_3 : wc.cell? ⟨gb219,3,none⟩ = some (.slice A0_3 l0_3.length c0_3):=(blk_cell BK219.out 3).trans rfl
         have hfz37_0 := blk_frozen BK219.out 0
         have hfz37_1 := blk_frozen BK219.out 1
         have hfz37_2 := blk_frozen BK219.out 2
         have hfz37_3 := blk_frozen BK219.out 3
         go_wp2_with (first|((with_reducible refine gate_callee (f := 30) rfl ?_); refine goesL_ (some 14) rfl rfl Tryz.func30 (by kernel_rfl) rfl #[.agg #[.int .i64 a0_0,.int .i64 a0_1,.string a0_2,.slice A0_3 l0_3.length c0_3]] rfl (by (try simp only [List.map_toArray,List.map_cons,List.map_nil]); first|done|rfl|(simp only [List.length_drop,List.length_take]; rfl)) ?_;(with_reducible refine (flagstoneref3_shape.calls a0_0 a0_1 a0_2 _ _ l0_3 true _ ?side1 ?side2 A8.out).mono ?_);(case side1=>repeat (first|exact (Kd.C_below HR0_3.out HB.out)|(with_reducible refine Kd.C_alloc ?_ _)|(with_reducible refine Kd.C_drewN ?_ _)|(with_reducible refine Kd.C_drew ?_)));(case side2=>exact HC0_3.out); rintro e w38 ⟨rfl,hb⟩; refine ⟨_,rfl,?_⟩; have n0_ := Aside0.mk (blk_below (g := gb219) (o := .cells #[.int .i64 a0_0,.int .i64 a0_1,.string a0_2,.slice A0_3 l0_3.length c0_3] 24 (0,0)) (by (with_reducible repeat (first|refine zN ?_ _|refine zD ?_|refine zA ?_ _)); exact BK219.out) hb); have n1_ := Aside0.mk (below_step (by repeat (first|(with_reducible first|exact HB.out|apply zE|apply zB|apply zC|refine zJ ?_ GE219.out)|exact HB.out)) hb); clear BK219 HB; have BK219 := n0_; have HB := n1_; clear n0_ n1_;(try clear hb);(try clear hb2);(try clear hk);(try clear hi);(try clear hge); have hcz39_0 : w38.cell? ⟨gb219,0,none⟩ = some (.int .i64 a0_0):=(blk_cell BK219.out 0).trans rfl; have hcz39_1 : w38.cell? ⟨gb219,1,none⟩ = some (.int .i64 a0_1):=(blk_cell BK219.out 1).trans rfl; have hcz39_2 : w38.cell? ⟨gb219,2,none⟩ = some (.string a0_2):=(blk_cell BK219.out 2).trans rfl; have hcz39_3 : w38.cell? ⟨gb219,3,none⟩ = some (.slice A0_3 l0_3.length c0_3):=(blk_cell BK219.out 3).trans rfl; have hfz39_0 := blk_frozen BK219.out 0; have hfz39_1 := blk_frozen BK219.out 1; have hfz39_2 := blk_frozen BK219.out 2; have hfz39_3 := blk_frozen BK219.out 3)|((with_reducible refine gate_callee (f := 31) rfl ?_); refine goesL_ (some 42) rfl rfl Tryz.func31 (by kernel_rfl) rfl #[.string a0_2] rfl (by (try simp only [List.map_toArray,List.map_cons,List.map_nil]); first|done|rfl|(simp only [List.length_drop,List.length_take]; rfl)) ?_;(with_reducible refine (flagstoneref1_Valid.calls kj1 a0_2 true _ ?side1 A35.out).mono ?_);(case side1=>exact GL.below HGL.out (by repeat (first|(with_reducible first|exact HB.out|apply zE|apply zB|apply zC|refine zJ ?_ GE219.out)|exact HB.out))); rintro e w40 ⟨rfl,hb⟩; refine ⟨_,rfl,?_⟩; have n0_ := Aside0.mk (blk_below (g := gb219) (o := .cells #[.int .i64 a0_0,.int .i64 a0_1,.string a0_2,.slice A0_3 l0_3.length c0_3] 24 (0,0)) (by (with_reducible repeat (first|refine zN ?_ _|refine zD ?_|refine zA ?_ _)); exact BK219.out) hb); have n1_ := Aside0.mk (below_step (by repeat (first|(with_reducible first|exact HB.out|apply zE|apply zB|apply zC|refine zJ ?_ GE219.out)|exact HB.out)) hb); clear BK219 HB; have BK219 := n0_; have HB := n1_; clear n0_ n1_;(try clear hb);(try clear hb2);(try clear hk);(try clear hi);(try clear hge)))
         go_ret
         exact ⟨by first|rfl|(simp [errW_none,errW_some]<;>rfl)|(simp [*,errW_none,errW_some]<;>rfl),by repeat (first|(with_reducible first|exact HB.out|apply zE|apply zB|apply zC|refine zJ ?_ GE219.out)|exact HB.out)⟩
        ·replace c36 := Bool.eq_false_iff.mpr c36
         subst c36
         have H1 : (some 2) = some r := by rw [if_neg (show ¬ (false = true) by decide)] at H; exact H
         clear H; have H := H1; clear H1
         obtain rfl := Option.some.inj H
         have hcz41_0 : wc.cell? ⟨gb219,0,none⟩ = some (.int .i64 a0_0):=(blk_cell BK219.out 0).trans rfl
         have hcz41_1 : wc.cell? ⟨gb219,1,none⟩ = some (.int .i64 a0_1):=(blk_cell BK219.out 1).trans rfl
         have hcz41_2 : wc.cell? ⟨gb219,2,none⟩ = some (.string a0_2):=(blk_cell BK219.out 2).trans rfl
         have hcz41_3 : wc.cell? ⟨gb219,3,none⟩ = some (.slice A0_3 l0_3.length c0_3):=(blk_cell BK219.out 3).trans rfl
         have hfz41_0 := blk_frozen BK219.out 0
         have hfz41_1 := blk_frozen BK219.out 1
         have hfz41_2 := blk_frozen BK219.out 2
         have hfz41_3 := blk_frozen BK219.out 3
         go_wp2_with (first|((with_reducible refine gate_callee (f := 30) rfl ?_); refine goesL_ (some 14) rfl rfl Tryz.func30 (by kernel_rfl) rfl #[.agg #[.int .i64 a0_0,.int .i64 a0_1,.string a0_2,.slice A0_3 l0_3.length c0_3]] rfl (by (try simp only [List.map_toArray,List.map_cons,List.map_nil]); first|done|rfl|(simp only [List.length_drop,List.length_take]; rfl)) ?_;(with_reducible refine (flagstoneref3_shape.calls a0_0 a0_1 a0_2 _ _ l0_3 true _ ?side1 ?side2 A8.out).mono ?_);(case side1=>repeat (first|exact (Kd.C_below HR0_3.out HB.out)|(with_reducible refine Kd.C_alloc ?_ _)|(with_reducible refine Kd.C_drewN ?_ _)|(with_reducible refine Kd.C_drew ?_)));(case side2=>exact HC0_3.out); rintro e w42 ⟨rfl,hb⟩; refine ⟨_,rfl,?_⟩; have n0_ := Aside0.mk (blk_below (g := gb219) (o := .cells #[.int .i64 a0_0,.int .i64 a0_1,.string a0_2,.slice A0_3 l0_3.length c0_3] 24 (0,0)) (by (with_reducible repeat (first|refine zN ?_ _|refine zD ?_|refine zA ?_ _)); exact BK219.out) hb); have n1_ := Aside0.mk (below_step (by repeat (first|(with_reducible first|exact HB.out|apply zE|apply zB|apply zC|refine zJ ?_ GE219.out)|exact HB.out)) hb); clear BK219 HB; have BK219 := n0_; have HB := n1_; clear n0_ n1_;(try clear hb);(try clear hb2);(try clear hk);(try clear hi);(try clear hge); have hcz43_0 : w42.cell? ⟨gb219,0,none⟩ = some (.int .i64 a0_0):=(blk_cell BK219.out 0).trans rfl; have hcz43_1 : w42.cell? ⟨gb219,1,none⟩ = some (.int .i64 a0_1):=(blk_cell BK219.out 1).trans rfl; have hcz43_2 : w42.cell? ⟨gb219,2,none⟩ = some (.string a0_2):=(blk_cell BK219.out 2).trans rfl; have hcz43_3 : w42.cell? ⟨gb219,3,none⟩ = some (.slice A0_3 l0_3.length c0_3):=(blk_cell BK219.out 3).trans rfl; have hfz43_0 := blk_frozen BK219.out 0; have hfz43_1 := blk_frozen BK219.out 1; have hfz43_2 := blk_frozen BK219.out 2; have hfz43_3 := blk_frozen BK219.out 3)|((with_reducible refine gate_callee (f := 31) rfl ?_); refine goesL_ (some 42) rfl rfl Tryz.func31 (by kernel_rfl) rfl #[.string a0_2] rfl (by (try simp only [List.map_toArray,List.map_cons,List.map_nil]); first|done|rfl|(simp only [List.length_drop,List.length_take]; rfl)) ?_;(with_reducible refine (flagstoneref1_Valid.calls kj1 a0_2 false _ ?side1 A35.out).mono ?_);(case side1=>exact GL.below HGL.out (by repeat (first|(with_reducible first|exact HB.out|apply zE|apply zB|apply zC|refine zJ ?_ GE219.out)|exact HB.out))); rintro e w44 ⟨rfl,hb⟩; refine ⟨_,rfl,?_⟩; have n0_ := Aside0.mk (blk_below (g := gb219) (o := .cells #[.int .i64 a0_0,.int .i64 a0_1,.string a0_2,.slice A0_3 l0_3.length c0_3] 24 (0,0)) (by (with_reducible repeat (first|refine zN ?_ _|refine zD ?_|refine zA ?_ _)); exact BK219.out) hb); have n1_ := Aside0.mk (below_step (by repeat (first|(with_reducible first|exact HB.out|apply zE|apply zB|apply zC|refine zJ ?_ GE219.out)|exact HB.out)) hb); clear BK219 HB; have BK219 := n0_; have HB := n1_; clear n0_ n1_;(try clear hb);(try clear hb2);(try clear hk);(try clear hi);(try clear hge)))
         go_ret
         exact ⟨by first|rfl|(simp [errW_none,errW_some]<;>rfl)|(simp [*,errW_none,errW_some]<;>rfl),by repeat (first|(with_reducible first|exact HB.out|apply zE|apply zB|apply zC|refine zJ ?_ GE219.out)|exact HB.out)⟩
       ·rw [if_neg c34] at H
        have c34b0 : (a0_0 == 3) = false := beq_eq_false_iff_ne.mpr c34
        have c34b1 : (a0_0 != 3) = true := bne_iff_ne.mpr c34
        by_cases c45 : a0_0 = 4
        ·rw [if_pos c45] at H
         have c45b0 : (a0_0 == 4) = true := beq_iff_eq.mpr c45
         have c45b1 : (a0_0 != 4) = false := bne_eq_false_iff_eq.mpr c45
         clear c45; replace H := Option.bind_eq_some_iff.mp H
         obtain ⟨⟨t222,t223,t224,t225⟩,A460,H⟩ := H
         replace H : (if t225 = true then (some 0) else (some 1)) = some r := H
         have A46 := Aside0.mk A460; clear A460
         by_cases c47 : t225 = true
         ·subst c47
          have H1 : (some 0) = some r := by rw [if_pos rfl] at H; exact H
          clear H; have H := H1; clear H1
          obtain rfl := Option.some.inj H
          have hcz48_0 : wc.cell? ⟨gb219,0,none⟩ = some (.int .i64 a0_0):=(blk_cell BK219.out 0).trans rfl
          have hcz48_1 : wc.cell? ⟨gb219,1,none⟩ = some (.int .i64 a0_1):=(blk_cell BK219.out 1).trans rfl
          have hcz48_2 : wc.cell? ⟨gb219,2,none⟩ = some (.string a0_2):=(blk_cell BK219.out 2).trans rfl
          have hcz48_3 : wc.cell? ⟨gb219,3,none⟩ = some (.slice A0_3 l0_3.length c0_3):=(blk_cell BK219.out 3).trans rfl
          have hfz48_0 := blk_frozen BK219.out 0
          have hfz48_1 := blk_frozen BK219.out 1
          have hfz48_2 := blk_frozen BK219.out 2
          have hfz48_3 := blk_frozen BK219.out 3
          go_wp2_with (first|((with_reducible refine gate_callee (f := 30) rfl ?_); refine goesL_ (some 14) rfl rfl Tryz.func30 (by kernel_rfl) rfl #[.agg #[.int .i64 a0_0,.int .i64 a0_1,.string a0_2,.slice A0_3 l0_3.length c0_3]] rfl (by (try simp only [List.map_toArray,List.map_cons,List.map_nil]); first|done|rfl|(simp only [List.length_drop,List.length_take]; rfl)) ?_;(with_reducible refine (flagstoneref3_shape.calls a0_0 a0_1 a0_2 _ _ l0_3 true _ ?side1 ?side2 A8.out).mono ?_);(case side1=>repeat (first|exact (Kd.C_below HR0_3.out HB.out)|(with_reducible refine Kd.C_alloc ?_ _)|(with_reducible refine Kd.C_drewN ?_ _)|(with_reducible refine Kd.C_drew ?_)));(case side2=>exact HC0_3.out); rintro e w49 ⟨rfl,hb⟩; refine ⟨_,rfl,?_⟩; have n0_ := Aside0.mk (blk_below (g := gb219) (o := .cells #[.int .i64 a0_0,.int .i64 a0_1,.string a0_2,.slice A0_3 l0_3.length c0_3] 24 (0,0)) (by (with_reducible repeat (first|refine zN ?_ _|refine zD ?_|refine zA ?_ _)); exact BK219.out) hb); have n1_ := Aside0.mk (below_step (by repeat (first|(with_reducible first|exact HB.out|apply zE|apply zB|apply zC|refine zJ ?_ GE219.out)|exact HB.out)) hb); clear BK219 HB; have BK219 := n0_; have HB := n1_; clear n0_ n1_;(try clear hb);(try clear hb2);(try clear hk);(try clear hi);(try clear hge); have hcz50_0 : w49.cell? ⟨gb219,0,none⟩ = some (.int .i64 a0_0):=(blk_cell BK219.out 0).trans rfl; have hcz50_1 : w49.cell? ⟨gb219,1,none⟩ = some (.int .i64 a0_1):=(blk_cell BK219.out 1).trans rfl; have hcz50_2 : w49.cell? ⟨gb219,2,none⟩ = some (.string a0_2):=(blk_cell BK219.out 2).trans rfl; have hcz50_3 : w49.cell? ⟨gb219,3,none⟩ = some (.slice A0_3 l0_3.length c0_3):=(blk_cell BK219.out 3).trans rfl; have hfz50_0 := blk_frozen BK219.out 0; have hfz50_1 := blk_frozen BK219.out 1; have hfz50_2 := blk_frozen BK219.out 2; have hfz50_3 := blk_frozen BK219.out 3)|((with_reducible refine gate_callee (f := 32) rfl ?_); refine goesL_ (some 49) rfl rfl Tryz.func32 (by kernel_rfl) rfl #[.string a0_2] rfl (by (try simp only [List.map_toArray,List.map_cons,List.map_nil]); first|done|rfl|(simp only [List.length_drop,List.length_take]; rfl)) ?_;(with_reducible refine (flagstoneref3_parts.calls a0_2 t222 t223 t224 true _ A46.out).mono ?_); rintro e w51 ⟨rfl,hb⟩; refine ⟨_,rfl,?_⟩; have n0_ := Aside0.mk (blk_below (g := gb219) (o := .cells #[.int .i64 a0_0,.int .i64 a0_1,.string a0_2,.slice A0_3 l0_3.length c0_3] 24 (0,0)) (by (with_reducible repeat (first|refine zN ?_ _|refine zD ?_|refine zA ?_ _)); exact BK219.out) hb); have n1_ := Aside0.mk (below_step (by repeat (first|(with_reducible first|exact HB.out|apply zE|apply zB|apply zC|refine zJ ?_ GE219.out)|exact HB.out)) hb); clear BK219 HB; have BK219 := n0_; have HB := n1_; clear n0_ n1_;(try clear hb);(try clear hb2);(try clear hk);(try clear hi);(try clear hge))|((with_reducible refine gate_dst (N := 3) rfl ?_); refine box_event ?hg (N := 3) ?hd (cs := #[.int .i64 0,.int .i64 0,.int .i64 0]) (t := 54) ?hr ?_;(case hd=>rfl);(case hg=>rfl);(case hr=>first|(go_simp; done)|(go_simp; rfl)); intro gb226 hg w52 hbox hb; have n0_ := Aside0.mk (blk_below (g := gb219) (o := .cells #[.int .i64 a0_0,.int .i64 a0_1,.string a0_2,.slice A0_3 l0_3.length c0_3] 24 (0,0)) (by (with_reducible repeat (first|refine zN ?_ _|refine zD ?_|refine zA ?_ _)); exact BK219.out) hb); have n1_ := Aside0.mk (below_step (by repeat (first|(with_reducible first|exact HB.out|apply zE|apply zB|apply zC|refine zJ ?_ GE219.out)|exact HB.out)) hb); have n2_ := Aside0.mk (hbox); have n3_ := Aside0.mk ((by rw [hg]; exact (below_size (by repeat (first|(with_reducible first|exact HB.out|apply zE|apply zB|apply zC|refine zJ ?_ GE219.out)|exact HB.out))) : w.heap.size ≤ gb226)); have n4_ := Aside0.mk ((by rw [hg]; exact (below_size (by repeat (first|(with_reducible first|exact HB.out|apply zE|apply zB|apply zC|refine zJ ?_ GE219.out)|exact HB.out))) : w.heap.size ≤ gb226)); have n5_ := Aside0.mk ((by rw [hg]; exact Nat.ne_of_lt (blk_lt (g := gb219) (o := .cells #[.int .i64 a0_0,.int .i64 a0_1,.string a0_2,.slice A0_3 l0_3.length c0_3] 24 (0,0)) (by (with_reducible repeat (first|refine zN ?_ _|refine zD ?_|refine zA ?_ _)); exact BK219.out)) : gb219 ≠ gb226)); have n6_ := Aside0.mk ((by rw [hg]; exact Nat.ne_of_gt (blk_lt (g := gb219) (o := .cells #[.int .i64 a0_0,.int .i64 a0_1,.string a0_2,.slice A0_3 l0_3.length c0_3] 24 (0,0)) (by (with_reducible repeat (first|refine zN ?_ _|refine zD ?_|refine zA ?_ _)); exact BK219.out)) : gb226 ≠ gb219)); clear BK219 HB; have BK219 := n0_; have HB := n1_; have BK226 := n2_; have GW226 := n3_; have GE226 := n4_; have NB219_226 := n5_; have NB226_219 := n6_; clear n0_ n1_ n2_ n3_ n4_ n5_ n6_ hb hbox hg; have hnb53 := NB226_219.out; have hnc53 := NB219_226.out; have hcz54_0 : w52.cell? ⟨gb226,0,none⟩ = some (.int .i64 0):=(blk_cell BK226.out 0).trans rfl; have hcz54_1 : w52.cell? ⟨gb226,1,none⟩ = some (.int .i64 0):=(blk_cell BK226.out 1).trans rfl; have hcz54_2 : w52.cell? ⟨gb226,2,none⟩ = some (.int .i64 0):=(blk_cell BK226.out 2).trans rfl; have hfz54_0 := blk_frozen BK226.out 0; have hfz54_1 := blk_frozen BK226.out 1; have hfz54_2 := blk_frozen BK226.out 2))
          go_ret
          exact ⟨by first|rfl|(simp [errW_none,errW_some]<;>rfl)|(simp [*,errW_none,errW_some]<;>rfl),by repeat (first|(with_reducible first|exact HB.out|apply zE|apply zB|apply zC|refine zJ ?_ GE219.out|refine zJ ?_ GE226.out)|exact HB.out)⟩
         ·replace c47 := Bool.eq_false_iff.mpr c47
          subst c47
          have H1 : (some 1) = some r := by rw [if_neg (show ¬ (false = true) by decide)] at H; exact H
          clear H; have H := H1; clear H1
          obtain rfl := Option.some.inj H
          have hcz55_0 : wc.cell? ⟨gb219,0,none⟩ = some (.int .i64 a0_0):=(blk_cell BK219.out 0).trans rfl
          have hcz55_1 : wc.cell? ⟨gb219,1,none⟩ = some (.int .i64 a0_1):=(blk_cell BK219.out 1).trans rfl
          have hcz55_2 : wc.cell? ⟨gb219,2,none⟩ = some (.string a0_2):=(blk_cell BK219.out 2).trans rfl
          have hcz55_3 : wc.cell? ⟨gb219,3,none⟩ = some (.slice A0_3 l0_3.length c0_3):=(blk_cell BK219.out 3).trans rfl
          have hfz55_0 := blk_frozen BK219.out 0
          have hfz55_1 := blk_frozen BK219.out 1
          have hfz55_2 := blk_frozen BK219.out 2
          have hfz55_3 := blk_frozen BK219.out 3
          go_wp2_with (first|((with_reducible refine gate_callee (f := 30) rfl ?_); refine goesL_ (some 14) rfl rfl Tryz.func30 (by kernel_rfl) rfl #[.agg #[.int .i64 a0_0,.int .i64 a0_1,.string a0_2,.slice A0_3 l0_3.length c0_3]] rfl (by (try simp only [List.map_toArray,List.map_cons,List.map_nil]); first|done|rfl|(simp only [List.length_drop,List.length_take]; rfl)) ?_;(with_reducible refine (flagstoneref3_shape.calls a0_0 a0_1 a0_2 _ _ l0_3 true _ ?side1 ?side2 A8.out).mono ?_);(case side1=>repeat (first|exact (Kd.C_below HR0_3.out HB.out)|(with_reducible refine Kd.C_alloc ?_ _)|(with_reducible refine Kd.C_drewN ?_ _)|(with_reducible refine Kd.C_drew ?_)));(case side2=>exact HC0_3.out); rintro e w56 ⟨rfl,hb⟩; refine ⟨_,rfl,?_⟩; have n0_ := Aside0.mk (blk_below (g := gb219) (o := .cells #[.int .i64 a0_0,.int .i64 a0_1,.string a0_2,.slice A0_3 l0_3.length c0_3] 24 (0,0)) (by (with_reducible repeat (first|refine zN ?_ _|refine zD ?_|refine zA ?_ _)); exact BK219.out) hb); have n1_ := Aside0.mk (below_step (by repeat (first|(with_reducible first|exact HB.out|apply zE|apply zB|apply zC|refine zJ ?_ GE219.out)|exact HB.out)) hb); clear BK219 HB; have BK219 := n0_; have HB := n1_; clear n0_ n1_;(try clear hb);(try clear hb2);(try clear hk);(try clear hi);(try clear hge); have hcz57_0 : w56.cell? ⟨gb219,0,none⟩ = some (.int .i64 a0_0):=(blk_cell BK219.out 0).trans rfl; have hcz57_1 : w56.cell? ⟨gb219,1,none⟩ = some (.int .i64 a0_1):=(blk_cell BK219.out 1).trans rfl; have hcz57_2 : w56.cell? ⟨gb219,2,none⟩ = some (.string a0_2):=(blk_cell BK219.out 2).trans rfl; have hcz57_3 : w56.cell? ⟨gb219,3,none⟩ = some (.slice A0_3 l0_3.length c0_3):=(blk_cell BK219.out 3).trans rfl; have hfz57_0 := blk_frozen BK219.out 0; have hfz57_1 := blk_frozen BK219.out 1; have hfz57_2 := blk_frozen BK219.out 2; have hfz57_3 := blk_frozen BK219.out 3)|((with_reducible refine gate_callee (f := 32) rfl ?_); refine goesL_ (some 49) rfl rfl Tryz.func32 (by kernel_rfl) rfl #[.string a0_2] rfl (by (try simp only [List.map_toArray,List.map_cons,List.map_nil]); first|done|rfl|(simp only [List.length_drop,List.length_take]; rfl)) ?_;(with_reducible refine (flagstoneref3_parts.calls a0_2 t222 t223 t224 false _ A46.out).mono ?_); rintro e w58 ⟨rfl,hb⟩; refine ⟨_,rfl,?_⟩; have n0_ := Aside0.mk (blk_below (g := gb219) (o := .cells #[.int .i64 a0_0,.int .i64 a0_1,.string a0_2,.slice A0_3 l0_3.length c0_3] 24 (0,0)) (by (with_reducible repeat (first|refine zN ?_ _|refine zD ?_|refine zA ?_ _)); exact BK219.out) hb); have n1_ := Aside0.mk (below_step (by repeat (first|(with_reducible first|exact HB.out|apply zE|apply zB|apply zC|refine zJ ?_ GE219.out)|exact HB.out)) hb); clear BK219 HB; have BK219 := n0_; have HB := n1_; clear n0_ n1_;(try clear hb);(try clear hb2);(try clear hk);(try clear hi);(try clear hge))|((with_reducible refine gate_dst (N := 3) rfl ?_); refine box_event ?hg (N := 3) ?hd (cs := #[.int .i64 0,.int .i64 0,.int .i64 0]) (t := 54) ?hr ?_;(case hd=>rfl);(case hg=>rfl);(case hr=>first|(go_simp; done)|(go_simp; rfl)); intro gb226 hg w59 hbox hb; have n0_ := Aside0.mk (blk_below (g := gb219) (o := .cells #[.int .i64 a0_0,.int .i64 a0_1,.string a0_2,.slice A0_3 l0_3.length c0_3] 24 (0,0)) (by (with_reducible repeat (first|refine zN ?_ _|refine zD ?_|refine zA ?_ _)); exact BK219.out) hb); have n1_ := Aside0.mk (below_step (by repeat (first|(with_reducible first|exact HB.out|apply zE|apply zB|apply zC|refine zJ ?_ GE219.out)|exact HB.out)) hb); have n2_ := Aside0.mk (hbox); have n3_ := Aside0.mk ((by rw [hg]; exact (below_size (by repeat (first|(with_reducible first|exact HB.out|apply zE|apply zB|apply zC|refine zJ ?_ GE219.out)|exact HB.out))) : w.heap.size ≤ gb226)); have n4_ := Aside0.mk ((by rw [hg]; exact (below_size (by repeat (first|(with_reducible first|exact HB.out|apply zE|apply zB|apply zC|refine zJ ?_ GE219.out)|exact HB.out))) : w.heap.size ≤ gb226)); have n5_ := Aside0.mk ((by rw [hg]; exact Nat.ne_of_lt (blk_lt (g := gb219) (o := .cells #[.int .i64 a0_0,.int .i64 a0_1,.string a0_2,.slice A0_3 l0_3.length c0_3] 24 (0,0)) (by (with_reducible repeat (first|refine zN ?_ _|refine zD ?_|refine zA ?_ _)); exact BK219.out)) : gb219 ≠ gb226)); have n6_ := Aside0.mk ((by rw [hg]; exact Nat.ne_of_gt (blk_lt (g := gb219) (o := .cells #[.int .i64 a0_0,.int .i64 a0_1,.string a0_2,.slice A0_3 l0_3.length c0_3] 24 (0,0)) (by (with_reducible repeat (first|refine zN ?_ _|refine zD ?_|refine zA ?_ _)); exact BK219.out)) : gb226 ≠ gb219)); clear BK219 HB; have BK219 := n0_; have HB := n1_; have BK226 := n2_; have GW226 := n3_; have GE226 := n4_; have NB219_226 := n5_; have NB226_219 := n6_; clear n0_ n1_ n2_ n3_ n4_ n5_ n6_ hb hbox hg; have hnb60 := NB226_219.out; have hnc60 := NB219_226.out; have hcz61_0 : w59.cell? ⟨gb226,0,none⟩ = some (.int .i64 0):=(blk_cell BK226.out 0).trans rfl; have hcz61_1 : w59.cell? ⟨gb226,1,none⟩ = some (.int .i64 0):=(blk_cell BK226.out 1).trans rfl; have hcz61_2 : w59.cell? ⟨gb226,2,none⟩ = some (.int .i64 0):=(blk_cell BK226.out 2).trans rfl; have hfz61_0 := blk_frozen BK226.out 0; have hfz61_1 := blk_frozen BK226.out 1; have hfz61_2 := blk_frozen BK226.out 2))
          go_ret
          exact ⟨by first|rfl|(simp [errW_none,errW_some]<;>rfl)|(simp [*,errW_none,errW_some]<;>rfl),by repeat (first|(with_reducible first|exact HB.out|apply zE|apply zB|apply zC|refine zJ ?_ GE219.out|refine zJ ?_ GE226.out)|exact HB.out)⟩
        ·rw [if_neg c45] at H
         have c45b0 : (a0_0 == 4) = false := beq_eq_false_iff_ne.mpr c45
         have c45b1 : (a0_0 != 4) = true := bne_iff_ne.mpr c45
         by_cases c62 : a0_0 = 5
         ·rw [if_pos c62] at H
          have c62b0 : (a0_0 == 5) = true := beq_iff_eq.mpr c62
          have c62b1 : (a0_0 != 5) = false := bne_eq_false_iff_eq.mpr c62
          clear c62; replace H := Option.bind_eq_some_iff.mp H; obtain ⟨t227,A630,H⟩ := H
          replace H : (some t227) = some r := H
          have A63 := Aside0.mk A630; clear A630
          obtain rfl := Option.some.inj H
          have hcz64_0 : wc.cell? ⟨gb219,0,none⟩ = some (.int .i64 a0_0):=(blk_cell BK219.out 0).trans rfl
          have hcz64_1 : wc.cell? ⟨gb219,1,none⟩ = some (.int .i64 a0_1):=(blk_cell BK219.out 1).trans rfl
          have hcz64_2 : wc.cell? ⟨gb219,2,none⟩ = some (.string a0_2):=(blk_cell BK219.out 2).trans rfl
          have hcz64_3 : wc.cell? ⟨gb219,3,none⟩ = some (.slice A0_3 l0_3.length c0_3):=(blk_cell BK219.out 3).trans rfl
          have hfz64_0 := blk_frozen BK219.out 0
          have hfz64_1 := blk_frozen BK219.out 1
          have hfz64_2 := blk_frozen BK219.out 2
          have hfz64_3 := blk_frozen BK219.out 3
          go_wp2_with (first|((with_reducible refine gate_callee (f := 30) rfl ?_); refine goesL_ (some 14) rfl rfl Tryz.func30 (by kernel_rfl) rfl #[.agg #[.int .i64 a0_0,.int .i64 a0_1,.string a0_2,.slice A0_3 l0_3.length c0_3]] rfl (by (try simp only [List.map_toArray,List.map_cons,List.map_nil]); first|done|rfl|(simp only [List.length_drop,List.length_take]; rfl)) ?_;(with_reducible refine (flagstoneref3_shape.calls a0_0 a0_1 a0_2 _ _ l0_3 true _ ?side1 ?side2 A8.out).mono ?_);(case side1=>repeat (first|exact (Kd.C_below HR0_3.out HB.out)|(with_reducible refine Kd.C_alloc ?_ _)|(with_reducible refine Kd.C_drewN ?_ _)|(with_reducible refine Kd.C_drew ?_)));(case side2=>exact HC0_3.out); rintro e w65 ⟨rfl,hb⟩; refine ⟨_,rfl,?_⟩; have n0_ := Aside0.mk (blk_below (g := gb219) (o := .cells #[.int .i64 a0_0,.int .i64 a0_1,.string a0_2,.slice A0_3 l0_3.length c0_3] 24 (0,0)) (by (with_reducible repeat (first|refine zN ?_ _|refine zD ?_|refine zA ?_ _)); exact BK219.out) hb); have n1_ := Aside0.mk (below_step (by repeat (first|(with_reducible first|exact HB.out|apply zE|apply zB|apply zC|refine zJ ?_ GE219.out)|exact HB.out)) hb); clear BK219 HB; have BK219 := n0_; have HB := n1_; clear n0_ n1_;(try clear hb);(try clear hb2);(try clear hk);(try clear hi);(try clear hge); have hcz66_0 : w65.cell? ⟨gb219,0,none⟩ = some (.int .i64 a0_0):=(blk_cell BK219.out 0).trans rfl; have hcz66_1 : w65.cell? ⟨gb219,1,none⟩ = some (.int .i64 a0_1):=(blk_cell BK219.out 1).trans rfl; have hcz66_2 : w65.cell? ⟨gb219,2,none⟩ = some (.string a0_2):=(blk_cell BK219.out 2).trans rfl; have hcz66_3 : w65.cell? ⟨gb219,3,none⟩ = some (.slice A0_3 l0_3.length c0_3):=(blk_cell BK219.out 3).trans rfl; have hfz66_0 := blk_frozen BK219.out 0; have hfz66_1 := blk_frozen BK219.out 1; have hfz66_2 := blk_frozen BK219.out 2; have hfz66_3 := blk_frozen BK219.out 3)|((with_reducible refine gate_callee (f := 33) rfl ?_); refine goesL_ (some 58) rfl rfl Tryz.func33 (by kernel_rfl) rfl #[.slice A0_3 l0_3.length c0_3] rfl (by (try simp only [List.map_toArray,List.map_cons,List.map_nil]); first|done|rfl|(simp only [List.length_drop,List.length_take]; rfl)) ?_;(with_reducible refine (flagstoneref3_list.calls kj1 _ _ l0_3 t227 _ ?side1 ?side2 ?side3 A63.out).mono ?_);(case side1=>repeat (first|exact (Kd.C_below HR0_3.out HB.out)|(with_reducible refine Kd.C_alloc ?_ _)|(with_reducible refine Kd.C_drewN ?_ _)|(with_reducible refine Kd.C_drew ?_)));(case side2=>exact HC0_3.out);(case side3=>exact GL.below HGL.out (by repeat (first|(with_reducible first|exact HB.out|apply zE|apply zB|apply zC|refine zJ ?_ GE219.out)|exact HB.out))); rintro e w67 ⟨rfl,hb⟩; refine ⟨_,rfl,?_⟩; have n0_ := Aside0.mk (blk_below (g := gb219) (o := .cells #[.int .i64 a0_0,.int .i64 a0_1,.string a0_2,.slice A0_3 l0_3.length c0_3] 24 (0,0)) (by (with_reducible repeat (first|refine zN ?_ _|refine zD ?_|refine zA ?_ _)); exact BK219.out) hb); have n1_ := Aside0.mk (below_step (by repeat (first|(with_reducible first|exact HB.out|apply zE|apply zB|apply zC|refine zJ ?_ GE219.out)|exact HB.out)) hb); clear BK219 HB; have BK219 := n0_; have HB := n1_; clear n0_ n1_;(try clear hb);(try clear hb2);(try clear hk);(try clear hi);(try clear hge)))
          go_ret
          exact ⟨by first|rfl|(simp [errW_none,errW_some]<;>rfl)|(simp [*,errW_none,errW_some]<;>rfl),by repeat (first|(with_reducible first|exact HB.out|apply zE|apply zB|apply zC|refine zJ ?_ GE219.out)|exact HB.out)⟩
         ·rw [if_neg c62] at H
          have c62b0 : (a0_0 == 5) = false := beq_eq_false_iff_ne.mpr c62
          have c62b1 : (a0_0 != 5) = true := bne_iff_ne.mpr c62
          obtain rfl := Option.some.inj H
          have hcz68_0 : wc.cell? ⟨gb219,0,none⟩ = some (.int .i64 a0_0):=(blk_cell BK219.out 0).trans rfl
          have hcz68_1 : wc.cell? ⟨gb219,1,none⟩ = some (.int .i64 a0_1):=(blk_cell BK219.out 1).trans rfl
          have hcz68_2 : wc.cell? ⟨gb219,2,none⟩ = some (.string a0_2):=(blk_cell BK219.out 2).trans rfl
          have hcz68_3 : wc.cell? ⟨gb219,3,none⟩ = some (.slice A0_3 l0_3.length c0_3):=(blk_cell BK219.out 3).trans rfl
          have hfz68_0 := blk_frozen BK219.out 0
          have hfz68_1 := blk_frozen BK219.out 1
          have hfz68_2 := blk_frozen BK219.out 2
          have hfz68_3 := blk_frozen BK219.out 3
          go_wp2_with (first|((with_reducible refine gate_callee (f := 30) rfl ?_); refine goesL_ (some 14) rfl rfl Tryz.func30 (by kernel_rfl) rfl #[.agg #[.int .i64 a0_0,.int .i64 a0_1,.string a0_2,.slice A0_3 l0_3.length c0_3]] rfl (by (try simp only [List.map_toArray,List.map_cons,List.map_nil]); first|done|rfl|(simp only [List.length_drop,List.length_take]; rfl)) ?_;(with_reducible refine (flagstoneref3_shape.calls a0_0 a0_1 a0_2 _ _ l0_3 true _ ?side1 ?side2 A8.out).mono ?_);(case side1=>repeat (first|exact (Kd.C_below HR0_3.out HB.out)|(with_reducible refine Kd.C_alloc ?_ _)|(with_reducible refine Kd.C_drewN ?_ _)|(with_reducible refine Kd.C_drew ?_)));(case side2=>exact HC0_3.out); rintro e w69 ⟨rfl,hb⟩; refine ⟨_,rfl,?_⟩; have n0_ := Aside0.mk (blk_below (g := gb219) (o := .cells #[.int .i64 a0_0,.int .i64 a0_1,.string a0_2,.slice A0_3 l0_3.length c0_3] 24 (0,0)) (by (with_reducible repeat (first|refine zN ?_ _|refine zD ?_|refine zA ?_ _)); exact BK219.out) hb); have n1_ := Aside0.mk (below_step (by repeat (first|(with_reducible first|exact HB.out|apply zE|apply zB|apply zC|refine zJ ?_ GE219.out)|exact HB.out)) hb); clear BK219 HB; have BK219 := n0_; have HB := n1_; clear n0_ n1_;(try clear hb);(try clear hb2);(try clear hk);(try clear hi);(try clear hge); have hcz70_0 : w69.cell? ⟨gb219,0,none⟩ = some (.int .i64 a0_0):=(blk_cell BK219.out 0).trans rfl; have hcz70_1 : w69.cell? ⟨gb219,1,none⟩ = some (.int .i64 a0_1):=(blk_cell BK219.out 1).trans rfl; have hcz70_2 : w69.cell? ⟨gb219,2,none⟩ = some (.string a0_2):=(blk_cell BK219.out 2).trans rfl; have hcz70_3 : w69.cell? ⟨gb219,3,none⟩ = some (.slice A0_3 l0_3.length c0_3):=(blk_cell BK219.out 3).trans rfl; have hfz70_0 := blk_frozen BK219.out 0; have hfz70_1 := blk_frozen BK219.out 1; have hfz70_2 := blk_frozen BK219.out 2; have hfz70_3 := blk_frozen BK219.out 3))
          go_ret
          exact ⟨by first|rfl|(simp [errW_none,errW_some]<;>rfl)|(simp [*,errW_none,errW_some]<;>rfl),by repeat (first|(with_reducible first|exact HB.out|apply zE|apply zB|apply zC|refine zJ ?_ GE219.out)|exact HB.out)⟩
    ·replace c9 := Bool.eq_false_iff.mpr c9
     subst c9
     have H1 : (some 15) = some r := by rw [if_neg (show ¬ (false = true) by decide)] at H; exact H
     clear H; have H := H1; clear H1
     obtain rfl := Option.some.inj H
     have hcz71_0 : wc.cell? ⟨gb219,0,none⟩ = some (.int .i64 a0_0):=(blk_cell BK219.out 0).trans rfl
     have hcz71_1 : wc.cell? ⟨gb219,1,none⟩ = some (.int .i64 a0_1):=(blk_cell BK219.out 1).trans rfl
     have hcz71_2 : wc.cell? ⟨gb219,2,none⟩ = some (.string a0_2):=(blk_cell BK219.out 2).trans rfl
     have hcz71_3 : wc.cell? ⟨gb219,3,none⟩ = some (.slice A0_3 l0_3.length c0_3):=(blk_cell BK219.out 3).trans rfl
     have hfz71_0 := blk_frozen BK219.out 0
     have hfz71_1 := blk_frozen BK219.out 1
     have hfz71_2 := blk_frozen BK219.out 2
     have hfz71_3 := blk_frozen BK219.out 3
     go_wp2_with (first|((with_reducible refine gate_callee (f := 30) rfl ?_); refine goesL_ (some 14) rfl rfl Tryz.func30 (by kernel_rfl) rfl #[.agg #[.int .i64 a0_0,.int .i64 a0_1,.string a0_2,.slice A0_3 l0_3.length c0_3]] rfl (by (try simp only [List.map_toArray,List.map_cons,List.map_nil]); first|done|rfl|(simp only [List.length_drop,List.length_take]; rfl)) ?_;(with_reducible refine (flagstoneref3_shape.calls a0_0 a0_1 a0_2 _ _ l0_3 false _ ?side1 ?side2 A8.out).mono ?_);(case side1=>repeat (first|exact (Kd.C_below HR0_3.out HB.out)|(with_reducible refine Kd.C_alloc ?_ _)|(with_reducible refine Kd.C_drewN ?_ _)|(with_reducible refine Kd.C_drew ?_)));(case side2=>exact HC0_3.out); rintro e w72 ⟨rfl,hb⟩; refine ⟨_,rfl,?_⟩; have n0_ := Aside0.mk (blk_below (g := gb219) (o := .cells #[.int .i64 a0_0,.int .i64 a0_1,.string a0_2,.slice A0_3 l0_3.length c0_3] 24 (0,0)) (by (with_reducible repeat (first|refine zN ?_ _|refine zD ?_|refine zA ?_ _)); exact BK219.out) hb); have n1_ := Aside0.mk (below_step (by repeat (first|(with_reducible first|exact HB.out|apply zE|apply zB|apply zC|refine zJ ?_ GE219.out)|exact HB.out)) hb); clear BK219 HB; have BK219 := n0_; have HB := n1_; clear n0_ n1_;(try clear hb);(try clear hb2);(try clear hk);(try clear hi);(try clear hge)))
     go_ret
     exact ⟨by first|rfl|(simp [errW_none,errW_some]<;>rfl)|(simp [*,errW_none,errW_some]<;>rfl),by repeat (first|(with_reducible first|exact HB.out|apply zE|apply zB|apply zC|refine zJ ?_ GE219.out)|exact HB.out)⟩

/-! ### flagstoneref3_Compare: function 24 -/
def flagstoneref3_Compare.f (k : Nat) (a0_0 a0_1 : Int) (a0_2 : ByteArray) (l0_3 : List ByteArray) (a1_0 a1_1 : Int) (a1_2 : ByteArray) (l1_3 : List ByteArray) : Option (Int × Int) :=
 (flagstoneref3_Check.f k a0_0 a0_1 a0_2 l0_3).bind fun e=>if e ≠ 0 then some (0,e) else (flagstoneref3_Check.f k a1_0 a1_1 a1_2 l1_3).bind fun f=>if f ≠ 0 then some (0,f) else cmpV a0_0 a0_1 a0_2 a1_0 a1_1 a1_2
theorem flagstoneref3_Compare.mono : ∀ a0 a1 a2 a3 a4 a5 a6 a7 k, LeO (flagstoneref3_Compare.f k a0 a1 a2 a3 a4 a5 a6 a7) (flagstoneref3_Compare.f (k + 1) a0 a1 a2 a3 a4 a5 a6 a7) := by
 intro a0 a1 a2 a3 a4 a5 a6 a7 k
 unfold flagstoneref3_Compare.f
 refine LeO.bind (flagstoneref3_Check.mono _ _ _ _ _) fun e=>?_
 split
 ·exact LeO.refl _
 ·refine LeO.bind (flagstoneref3_Check.mono _ _ _ _ _) fun f=>?_
  split
  ·exact LeO.refl _
  ·exact LeO.refl _
theorem drawn_below {B : Nat} {w w' : World} (h : Drawn0 w w') (hB : B ≤ w.heap.size) : Below B w w' := by
 obtain ⟨n,rfl⟩ := h.out
 exact ⟨rfl,rfl,rfl,Nat.le_refl _,fun _ _=>rfl⟩
theorem sign_any (b c : Bool) (w : World) : Calls Tryz.prog 47 #[.bool b, .bool c] w fun e w' => e = .returned (.int .i64 (if b then -1 else if c then 1 else 0)) ∧ w' = w := by
 cases b<;>cases c
 all_goals
  go_enter Tryz.func47,Tryz.ntmps47
  go_wp2_with fail
  go_ret
  exact ⟨rfl,rfl⟩
theorem sign_int (x y : Int) : (if decide (x < y) = true then (-1 : Int) else if decide (y < x) = true then 1 else 0) = Lib.compareInt x y := by
 unfold Lib.compareInt
 by_cases h : x < y
 ·simp [h]
 ·by_cases h2 : y < x<;>simp [h,h2]
theorem sign_str (a b : ByteArray) : (if Op.bytesLess a.toList b.toList = true then (-1 : Int) else if Op.bytesLess b.toList a.toList = true then 1 else 0) = cmpS a b := rfl
set_option maxHeartbeats 16000000 in
set_option maxRecDepth 1000000 in
theorem flagstoneref3_Compare.calls (k : Nat) (a0_0 : Int) (a0_1 : Int) (a0_2 : ByteArray) (A0_3 : Option Addr) (c0_3 : Nat) (l0_3 : List ByteArray) (a1_0 : Int) (a1_1 : Int) (a1_2 : ByteArray) (A1_3 : Option Addr) (c1_3 : Nat) (l1_3 : List ByteArray) (r1 r2 : Int) (w : World) (hr0_3 : Kd.C Kd.string w A0_3 l0_3.length l0_3) (hc0_3 : l0_3.length ≤ c0_3) (hr1_3 : Kd.C Kd.string w A1_3 l1_3.length l1_3) (hc1_3 : l1_3.length ≤ c1_3) (hGL : GL w) (h : flagstoneref3_Compare.f k a0_0 a0_1 a0_2 l0_3 a1_0 a1_1 a1_2 l1_3 = some (r1, r2)) :
  Calls Tryz.prog 24 #[.agg #[.int .i64 a0_0,.int .i64 a0_1,.string a0_2,.slice A0_3 l0_3.length c0_3],.agg #[.int .i64 a1_0,.int .i64 a1_1,.string a1_2,.slice A1_3 l1_3.length c1_3]] w fun e w'=>e = .returned (.tuple #[.int .i64 r1,.int .i64 r2]) ∧ Below w.heap.size w w' := by
 have hsr := @str_gtr
 have HR0 := Aside0.mk hr0_3; have HR1 := Aside0.mk hr1_3; have HC0 := Aside0.mk hc0_3; have HC1 := Aside0.mk hc1_3; have HGL := Aside0.mk hGL; clear hr0_3 hr1_3 hc0_3 hc1_3 hGL
 obtain ⟨e1,he1,h⟩ := Option.bind_eq_some_iff.1 h
 have HE1 := Aside0.mk he1; have HH := Aside0.mk h; clear he1 h
 have HB2 := Aside0.mk (zE (zE (Below.refl w.heap.size w) (.cells #[.int .i64 a0_0,.int .i64 a0_1,.string a0_2,.slice A0_3 l0_3.length c0_3] 24)) (.cells #[.int .i64 a1_0,.int .i64 a1_1,.string a1_2,.slice A1_3 l1_3.length c1_3] 24))
 have HKa := Aside0.mk (zA (blk_new w (.cells #[.int .i64 a0_0,.int .i64 a0_1,.string a0_2,.slice A0_3 l0_3.length c0_3] 24)) (.cells #[.int .i64 a1_0,.int .i64 a1_1,.string a1_2,.slice A1_3 l1_3.length c1_3] 24))
 have HKb := Aside0.mk (show (((w.alloc (.cells #[.int .i64 a0_0,.int .i64 a0_1,.string a0_2,.slice A0_3 l0_3.length c0_3] 24)).alloc (.cells #[.int .i64 a1_0,.int .i64 a1_1,.string a1_2,.slice A1_3 l1_3.length c1_3] 24))).heap[w.heap.size + 1]? = some (.cells #[.int .i64 a1_0,.int .i64 a1_1,.string a1_2,.slice A1_3 l1_3.length c1_3] 24) by
  have := blk_new (w.alloc (.cells #[.int .i64 a0_0,.int .i64 a0_1,.string a0_2,.slice A0_3 l0_3.length c0_3] 24)) (.cells #[.int .i64 a1_0,.int .i64 a1_1,.string a1_2,.slice A1_3 l1_3.length c1_3] 24)
  simpa using this)
 go_enter Tryz.func24,Tryz.ntmps24
 go_wp2_with fail
 refine (flagstoneref3_Check.calls k a0_0 a0_1 a0_2 A0_3 c0_3 l0_3 e1 _ (Kd.C_below HR0.out HB2.out) HC0.out (GL.below HGL.out HB2.out) HE1.out).mono ?_
 rintro e w1 ⟨rfl,hb⟩
 have HB3 := Aside0.mk (below_step HB2.out hb)
 have HKa1 := Aside0.mk (blk_below HKa.out hb)
 have HKb1 := Aside0.mk (blk_below HKb.out hb)
 clear hb HKa HKb HB2
 by_cases z1 : e1 = 0
 ·subst z1
  have h1 := HH.out
  rw [if_neg (fun h=>h rfl)] at h1
  obtain ⟨e2,he2,h1⟩ := Option.bind_eq_some_iff.1 h1
  have HE2 := Aside0.mk he2; have HH2 := Aside0.mk h1; clear h1 he2 HH
  obtain ⟨b0,b1,b2,b3⟩ := box4 HKb1.out
  go_wp2_with fail
  refine (flagstoneref3_Check.calls k a1_0 a1_1 a1_2 A1_3 c1_3 l1_3 e2 _ (Kd.C_below HR1.out HB3.out) HC1.out (GL.below HGL.out HB3.out) HE2.out).mono ?_
  rintro e w2 ⟨rfl,hb⟩
  have HB4 := Aside0.mk (below_step HB3.out hb)
  have HKa2 := Aside0.mk (blk_below HKa1.out hb)
  have HKb2 := Aside0.mk (blk_below HKb1.out hb)
  clear hb HKa1 HKb1 b0 b1 b2 b3 HB3
  by_cases z2 : e2 = 0
  ·subst z2
   have h1 := HH2.out
   rw [if_neg (fun h=>h rfl)] at h1
   obtain ⟨b0,b1,b2,b3⟩ := box4 HKb2.out
   obtain ⟨c0,c1,c2,c3⟩ := box4 HKa2.out
   unfold cmpV at h1
   by_cases t1 : a0_0 = a1_0
   ·subst t1
    by_cases t2 : a0_0 = 1
    ·have HR := Aside0.mk (show (0,8) = (r1,r2) by rw [if_pos (.inr (.inl t2))] at h1; exact Option.some.inj h1)
     have t2' : (a0_0 == 1) = true := by simpa using t2
     clear t2 h1 HH2
     go_wp2_with fail
     go_ret2
     exact ⟨ret_pair HR.out,HB4.out⟩
    ·by_cases t3 : a0_0 = 5
     ·have HR := Aside0.mk (show (0,8) = (r1,r2) by rw [if_pos (.inr (.inr t3))] at h1; exact Option.some.inj h1)
      have t3' : (a0_0 == 5) = true := by simpa using t3
      have t2' : (a0_0 == 1) = false := by simpa using t2
      clear t2 t3 h1 HH2
      go_wp2_with fail
      go_ret2
      exact ⟨ret_pair HR.out,HB4.out⟩
     ·rw [if_neg (fun h=>h.elim (fun h=>h rfl) (fun h=>h.elim t2 t3))] at h1
      have t2' : (a0_0 == 1) = false := by simpa using t2
      have t3' : (a0_0 == 5) = false := by simpa using t3
      by_cases t4 : a0_0 = 2
      ·have HR := Aside0.mk (show (Lib.compareInt a0_1 a1_1,0) = (r1,r2) by rw [if_pos t4] at h1; exact Option.some.inj h1)
       have t4' : (a0_0 == 2) = true := by simpa using t4
       clear t2 t3 t4 h1 HH2
       go_wp2_with fail
       refine (sign_any _ _ _).mono ?_
       rintro e w' ⟨rfl,rfl⟩
       rw [sign_int]
       go_wp2_with fail
       go_ret2
       exact ⟨ret_pair HR.out,HB4.out⟩
      ·rw [if_neg t4] at h1
       have t4' : (a0_0 == 2) = false := by simpa using t4
       by_cases t5 : a0_0 = 3
       ·have HR := Aside0.mk (show (cmpS a0_2 a1_2,0) = (r1,r2) by rw [if_pos t5] at h1; exact Option.some.inj h1)
        have t5' : (a0_0 == 3) = true := by simpa using t5
        clear t2 t3 t4 t5 h1 HH2
        go_wp2_with fail
        refine (sign_any _ _ _).mono ?_
        rintro e w' ⟨rfl,rfl⟩
        rw [sign_str]
        go_wp2_with fail
        go_ret2
        exact ⟨ret_pair HR.out,HB4.out⟩
       ·have t5' : (a0_0 == 3) = false := by simpa using t5
        rw [if_neg t5] at h1
        split at h1
        ·rename_i hsz
         obtain ⟨s1,s2⟩ := hsz
         have HR := Aside0.mk (show (cmp3 (p3 a0_2) (p3 a1_2),0) = (r1,r2) from Option.some.inj h1)
         clear t2 t3 t4 t5 h1 HH2
         obtain ⟨⟨x0,x1,x2,xb⟩,hx⟩ : ∃ p,p = partsR (parts3 (dots a0_2)):=⟨_,rfl⟩
         obtain ⟨⟨y0,y1,y2,yb⟩,hy⟩ : ∃ p,p = partsR (parts3 (dots a1_2)):=⟨_,rfl⟩
         have HX := Aside0.mk (show flagstoneref3_parts.f a0_2 = some (x0,x1,x2,xb) by unfold flagstoneref3_parts.f; rw [if_pos (by omega),hx])
         have HY := Aside0.mk (show flagstoneref3_parts.f a1_2 = some (y0,y1,y2,yb) by unfold flagstoneref3_parts.f; rw [if_pos (by omega),hy])
         have HPX := Aside0.mk (show p3 a0_2 = (x0,x1,x2) by unfold p3; rw [← hx])
         have HPY := Aside0.mk (show p3 a1_2 = (y0,y1,y2) by unfold p3; rw [← hy])
         clear hx hy s1 s2
         go_wp2_with fail
         refine (flagstoneref3_parts.calls a0_2 x0 x1 x2 xb _ HX.out).mono ?_
         rintro e w3 ⟨rfl,hb⟩
         have HB5 := Aside0.mk (below_step HB4.out hb)
         have HKb3 := Aside0.mk (blk_below HKb2.out hb)
         clear hb b0 b1 b2 b3 c0 c1 c2 c3
         obtain ⟨b0,b1,b2,b3⟩ := box4 HKb3.out
         have hlt3 := blk_lt HKb3.out
         go_wp2_with fail
         have HB6 := Aside0.mk (zE HB5.out (.cells #[.int .i64 x0,.int .i64 x1,.int .i64 x2] 54))
         refine (flagstoneref3_parts.calls a1_2 y0 y1 y2 yb _ HY.out).mono ?_
         rintro e w4 ⟨rfl,hb⟩
         have HKx := Aside0.mk (blk_below (blk_new w3 (.cells #[.int .i64 x0,.int .i64 x1,.int .i64 x2] 54)) hb)
         have HB7 := Aside0.mk (below_step HB6.out hb)
         clear hb b0 b1 b2 b3 HKb3 HB6 HKb2 HKa2
         have HKx2 := Aside0.mk (zA HKx.out (.cells #[.int .i64 y0,.int .i64 y1,.int .i64 y2] 54))
         have HKy2 := Aside0.mk (blk_new w4 (.cells #[.int .i64 y0,.int .i64 y1,.int .i64 y2] 54))
         have HCX := Aside0.mk (fun (j : Nat) (hj : j < 3)=>show (w4.alloc (.cells #[.int .i64 y0,.int .i64 y1,.int .i64 y2] 54)).cell? ⟨w3.heap.size,j,none⟩ = some (.int .i64 (([x0,x1,x2] : List Int).getD j 0)) by
          rw [blk_cell HKx2.out j]
          rcases (show j = 0 ∨ j = 1 ∨ j = 2 by omega) with rfl|rfl|rfl<;>rfl)
         have HCY := Aside0.mk (fun (j : Nat) (hj : j < 3)=>show (w4.alloc (.cells #[.int .i64 y0,.int .i64 y1,.int .i64 y2] 54)).cell? ⟨w4.heap.size,j,none⟩ = some (.int .i64 (([y0,y1,y2] : List Int).getD j 0)) by
          rw [blk_cell HKy2.out j]
          rcases (show j = 0 ∨ j = 1 ∨ j = 2 by omega) with rfl|rfl|rfl<;>rfl)
         have HBB := Aside0.mk (zE HB7.out (.cells #[.int .i64 y0,.int .i64 y1,.int .i64 y2] 54))
         go_wp2_with fail
         generalize w4.alloc (.cells #[.int .i64 y0,.int .i64 y1,.int .i64 y2] 54) = wb at HCX HCY HBB ⊢
         clear HKx HKx2 HKy2 HB7
         go_loopw [12] (fun v wr=>∃ (i : Nat),v = .int .i64 (i : Int) ∧ i ≤ 3 ∧ Drawn0 wb wr ∧ Aside0 (∀ j,j < i → ([x0,x1,x2] : List Int).getD j 0 = ([y0,y1,y2] : List Int).getD j 0)) (fun v _=>3 - (intOf v).toNat)
         case atStart=>exact ⟨0,rfl,by omega,Drawn0.refl _,⟨fun j h=>absurd h (by omega)⟩⟩
         case round =>
          obtain ⟨i,rfl,hi3,HW,HEq⟩ := hrel
          by_cases hlt : i < 3
          ·have hcx : wr.cell? ⟨w3.heap.size,i,none⟩ = some (.int .i64 (([x0,x1,x2] : List Int).getD i 0)) := by
            obtain ⟨n,rfl⟩ := HW.out
            exact HCX.out i hlt
           have hcy : wr.cell? ⟨w4.heap.size,i,none⟩ = some (.int .i64 (([y0,y1,y2] : List Int).getD i 0)) := by
            obtain ⟨n,rfl⟩ := HW.out
            exact HCY.out i hlt
           obtain ⟨a,ha⟩ : ∃ a,a = ([x0,x1,x2] : List Int).getD i 0:=⟨_,rfl⟩
           obtain ⟨b,hb⟩ : ∃ b,b = ([y0,y1,y2] : List Int).getD i 0:=⟨_,rfl⟩
           rw [← ha] at hcx
           rw [← hb] at hcy
           have HA := Aside0.mk ha; have HB := Aside0.mk hb; clear ha hb
           by_cases hab : a = b
           ·have hz : (a != b) = false := by simpa using hab
            have HAB := Aside0.mk hab; clear hab
            go_wp2_with fail
            go_quiet (fail)
            go_wp2_with fail
            go_roundw
            case rel=>exact ⟨i + 1,by go_num,by omega,HW.step _,⟨fun j hj=>by
             by_cases e : j = i
             ·subst e
              rw [← HA.out,← HB.out]
              exact HAB.out
             ·exact HEq.out j (by omega)⟩⟩
            case measure=>simp [intOf]; omega
           ·have hz : (a != b) = true := by simpa using hab
            have H0 := Aside0.mk (show cmp3 (x0,x1,x2) (y0,y1,y2) = Lib.compareInt a b by
             have h1 := HA.out; have h2 := HB.out
             rcases (show i = 0 ∨ i = 1 ∨ i = 2 by omega) with rfl|rfl|rfl
             ·obtain rfl : a = x0 := h1
              obtain rfl : b = y0 := h2
              rw [cmp3,if_pos hab]
             ·obtain rfl : x0 = y0 := HEq.out 0 (by omega)
              obtain rfl : a = x1 := h1
              obtain rfl : b = y1 := h2
              rw [cmp3,if_neg (fun h=>h rfl),if_pos hab]
             ·obtain rfl : x0 = y0 := HEq.out 0 (by omega)
              obtain rfl : x1 = y1 := HEq.out 1 (by omega)
              obtain rfl : a = x2 := h1
              obtain rfl : b = y2 := h2
              rw [cmp3,if_neg (fun h=>h rfl),if_neg (fun h=>h rfl)])
            by_cases hl : a < b
            ·have hd : decide (a < b) = true := decide_eq_true hl
             have H := Aside0.mk (show (-1 : Int) = cmp3 (x0,x1,x2) (y0,y1,y2) by rw [H0.out]; unfold Lib.compareInt; rw [if_pos hl])
             clear hl hab
             go_wp2_with fail
             go_quiet (fail)
             go_wp2_with fail
             generalize hwq : World.drewN wr _ = wq
             have hcx2 : wq.cell? ⟨w3.heap.size,i,none⟩ = some (.int .i64 a) := by rw [← hwq]; exact hcx
             have hcy2 : wq.cell? ⟨w4.heap.size,i,none⟩ = some (.int .i64 b) := by rw [← hwq]; exact hcy
             have HWQ := Aside0.mk (show Drawn0 wb wq by rw [← hwq]; exact HW.step _)
             clear hwq hcx hcy HW
             go_quiet ((go_at_call 47; exact Calls.quiet_of_same (sign_any _ _ _)))
             go_wp2_with fail
             go_ret2
             exact ⟨ret_pair (by rw [← HR.out,HPX.out,HPY.out]; exact Prod.ext H.out rfl),zB (HBB.out.trans (drawn_below HWQ.out HBB.out.size)) _⟩
            ·have hd : decide (a < b) = false := decide_eq_false hl
             have H := Aside0.mk (show (1 : Int) = cmp3 (x0,x1,x2) (y0,y1,y2) by rw [H0.out]; unfold Lib.compareInt; rw [if_neg hl,if_pos (by omega)])
             clear hl hab
             go_wp2_with fail
             go_quiet (fail)
             go_wp2_with fail
             generalize hwq : World.drewN wr _ = wq
             have hcx2 : wq.cell? ⟨w3.heap.size,i,none⟩ = some (.int .i64 a) := by rw [← hwq]; exact hcx
             have hcy2 : wq.cell? ⟨w4.heap.size,i,none⟩ = some (.int .i64 b) := by rw [← hwq]; exact hcy
             have HWQ := Aside0.mk (show Drawn0 wb wq by rw [← hwq]; exact HW.step _)
             clear hwq hcx hcy HW
             go_quiet ((go_at_call 47; exact Calls.quiet_of_same (sign_any _ _ _)))
             go_wp2_with fail
             go_ret2
             exact ⟨ret_pair (by rw [← HR.out,HPX.out,HPY.out]; exact Prod.ext H.out rfl),zB (HBB.out.trans (drawn_below HWQ.out HBB.out.size)) _⟩
          ·obtain rfl : i = 3 := by omega
           have H := Aside0.mk (show cmp3 (x0,x1,x2) (y0,y1,y2) = 0 by
            have e0 : x0 = y0 := HEq.out 0 (by omega)
            have e1 : x1 = y1 := HEq.out 1 (by omega)
            have e2 : x2 = y2 := HEq.out 2 (by omega)
            subst e0 e1 e2
            simp [cmp3,Lib.compareInt])
           go_wp2_with fail
           go_ret2
           exact ⟨ret_pair (by rw [← HR.out,HPX.out,HPY.out,H.out]),HBB.out.trans (drawn_below HW (HBB.out.size))⟩
        ·cases h1
   ·have HR := Aside0.mk (show (0,8) = (r1,r2) by rw [if_pos (.inl t1)] at h1; exact Option.some.inj h1)
    have t1' : (a0_0 != a1_0) = true := by simpa using t1
    clear t1 h1 HH2
    go_wp2_with fail
    go_ret2
    exact ⟨ret_pair HR.out,HB4.out⟩
  ·have z2' : (e2 != 0) = true := by simpa using z2
   have HR := Aside0.mk (show (0,e2) = (r1,r2) by have := HH2.out; rw [if_pos z2] at this; exact Option.some.inj this)
   clear z2 HH2
   go_wp2_with fail
   go_ret2
   exact ⟨ret_pair HR.out,HB4.out⟩
 ·have z1' : (e1 != 0) = true := by simpa using z1
  have HR := Aside0.mk (show (0,e1) = (r1,r2) by have := HH.out; rw [if_pos z1] at this; exact Option.some.inj this)
  clear z1 HH
  go_wp2_with fail
  go_ret2
  exact ⟨ret_pair HR.out,HB3.out⟩

/-! ### slices_Equal_string_string: function 48 -/
def slices_Equal_string_string.l0 : Nat → List ByteArray → List ByteArray → Int → Int → Option (Bool)
 | 0,_,_,_,_=>none
 | k + 1,x0,x1,x12,x13=>if x13 < x12 then (if 0 ≤ x13 then (if x13 < (x0.length : Int) then (if x13 < (x1.length : Int) then (if (rdOf ByteArray.empty x0 x13).toList = (rdOf ByteArray.empty x1 x13).toList then (slices_Equal_string_string.l0 k x0 x1 x12 (wrap64 (x13 + 1))) else (some false)) else (none)) else (none)) else (none)) else (some true)
def slices_Equal_string_string.f (k : Nat) (l0 : List ByteArray) (l1 : List ByteArray) : Option (Bool) := if (l0.length : Int) = (l1.length : Int) then (slices_Equal_string_string.l0 k l0 l1 (l0.length : Int) 0) else (some false)
theorem slices_Equal_string_string.mono_l : ∀ k, (∀ y0 y1 y2 y3, LeO (slices_Equal_string_string.l0 k y0 y1 y2 y3) (slices_Equal_string_string.l0 (k + 1) y0 y1 y2 y3))
 | 0=>fun _ _ _ _ r h=>by simp [slices_Equal_string_string.l0] at h
 | k + 1=>by
  have ih0 := slices_Equal_string_string.mono_l k
  ·intro y0 y1 y2 y3
   unfold slices_Equal_string_string.l0
   repeat' first
   | (with_reducible exact ih0 _ _ _ _)
   | (with_reducible exact LeO.refl _)
   | (with_reducible exact LeO.none _)
   | (with_reducible refine LeO.ite ?_ ?_)
   | (with_reducible refine LeO.bind ?_ (fun _=>?_))
   | exact ih0 _ _ _ _
   | exact LeO.none _
   | refine LeO.ite ?_ ?_
   | refine LeO.bind ?_ (fun _=>?_)
theorem slices_Equal_string_string.mono : ∀ a0 a1 k, LeO (slices_Equal_string_string.f k a0 a1) (slices_Equal_string_string.f (k + 1) a0 a1) := by
 intro a0 a1 k
 have ih0 := slices_Equal_string_string.mono_l k
 unfold slices_Equal_string_string.f
 repeat' first
   | (with_reducible exact ih0 _ _ _ _)
   | (with_reducible exact LeO.refl _)
   | (with_reducible exact LeO.none _)
   | (with_reducible refine LeO.ite ?_ ?_)
   | (with_reducible refine LeO.bind ?_ (fun _=>?_))
   | exact ih0 _ _ _ _
   | exact LeO.none _
   | refine LeO.ite ?_ ?_
   | refine LeO.bind ?_ (fun _=>?_)
set_option maxHeartbeats 8000000 in
set_option maxRecDepth 100000 in
theorem slices_Equal_string_string.calls (k : Nat) (A0 : Option Addr) (c0 : Nat) (l0 : List ByteArray) (A1 : Option Addr) (c1 : Nat) (l1 : List ByteArray) (r : Bool) (w : World) (hr0 : Kd.C Kd.string w A0 l0.length l0) (hc0 : l0.length ≤ c0) (hr1 : Kd.C Kd.string w A1 l1.length l1) (hc1 : l1.length ≤ c1) (h : slices_Equal_string_string.f k l0 l1 = some r) :
  Calls Tryz.prog 48 #[.slice A0 l0.length c0,.slice A1 l1.length c1] w fun e w'=>e = .returned (.bool r) ∧ Drawn0 w w' := by
 have HR0 := Aside0.mk hr0; have HC0 := Aside0.mk hc0; clear hr0 hc0; have HR1 := Aside0.mk hr1; have HC1 := Aside0.mk hc1; clear hr1 hc1
 have H : (if (l0.length : Int) = (l1.length : Int) then (slices_Equal_string_string.l0 k l0 l1 (l0.length : Int) 0) else (some false)) = some r := h
 clear h
 by_cases c3 : (l0.length : Int) = (l1.length : Int)
 ·rw [if_pos c3] at H
  have c3b0 : ((l0.length : Int) == (l1.length : Int)) = true := beq_iff_eq.mpr c3
  have c3b1 : ((l0.length : Int) != (l1.length : Int)) = false := bne_eq_false_iff_eq.mpr c3
  have c3b2 : (l0.length == l1.length) = true := by first|simpa using c3|(simp at c3 ⊢; omega)
  clear c3; have H' := Aside0.mk H; clear H
  go_enter Tryz.func48,Tryz.ntmps48
  go_wp2
  repeat (go_quiet (fail); try go_wp2)
  go_loopg [13] k (fun kq v13 w'=>∃ (x13_1 : Int),v13 = .int .i64 x13_1 ∧ Aside0 (slices_Equal_string_string.l0 kq l0 l1 (l0.length : Int) x13_1 = some r) ∧ Aside0 (kq ≤ k) ∧ Drawn0 w w')
  case atStart=>exact ⟨(0),(by first|rfl|(simp; done)|(simp [*]; done)),H',⟨Nat.le_refl _⟩,by repeat (first|exact Drawn0.refl _|apply Drawn0.step)⟩
  case round =>
   clear H';(try clear c1);(try clear p2);(try clear c3);(try clear c3b0);(try clear c3b1);(try clear c3b2)
   obtain ⟨x13_1,rfl,HA,HK1,⟨m1,rfl⟩⟩ := hrel
   cases gk with
   | zero=>exact absurd HA.out (by simp [slices_Equal_string_string.l0])
   | succ k1 =>
    have H := HA.out; clear HA
    simp only [slices_Equal_string_string.l0] at H
    by_cases c4 : x13_1 < (l0.length : Int)
    ·rw [if_pos c4] at H
     have c4b0 : decide (x13_1 < (l0.length : Int)) = true := decide_eq_true c4
     clear c4
     by_cases c5 : 0 ≤ x13_1
     ·rw [if_pos c5] at H
      have c5b0 : decide (0 ≤ x13_1) = true := decide_eq_true c5
      clear c5
      by_cases c6 : x13_1 < (l0.length : Int)
      ·rw [if_pos c6] at H
       have c6b0 : decide (x13_1 < (l0.length : Int)) = true := decide_eq_true c6
       clear c6
       by_cases c7 : x13_1 < (l1.length : Int)
       ·rw [if_pos c7] at H
        have c7b0 : decide (x13_1 < (l1.length : Int)) = true := decide_eq_true c7
        clear c7
        by_cases c8 : (rdOf ByteArray.empty l0 x13_1).toList = (rdOf ByteArray.empty l1 x13_1).toList
        ·rw [if_pos c8] at H
         have c8b0 : ((rdOf ByteArray.empty l0 x13_1).toList == (rdOf ByteArray.empty l1 x13_1).toList) = true := beq_iff_eq.mpr c8
         have c8b1 : ((rdOf ByteArray.empty l0 x13_1).toList != (rdOf ByteArray.empty l1 x13_1).toList) = false := bne_eq_false_iff_eq.mpr c8
         clear c8; have H' := Aside0.mk H; clear H
         have p228 : 0 ≤ (x13_1 : Int) := of_decide_eq_true (by first|(with_reducible assumption)|assumption)
         have q228 : x13_1 < (l0.length : Int) := of_decide_eq_true (by first|(with_reducible assumption)|assumption)
         obtain ⟨ad228,e228,hx228_0⟩ := Kd.at_string HR0.out x13_1 p228 q228
         cases e228
         replace p228 := eq_true p228
         replace q228 := eq_true q228
         have p229 : 0 ≤ (x13_1 : Int) := of_decide_eq_true (by first|(with_reducible assumption)|assumption)
         have q229 : x13_1 < (l1.length : Int) := of_decide_eq_true (by first|(with_reducible assumption)|assumption)
         obtain ⟨ad229,e229,hx229_0⟩ := Kd.at_string HR1.out x13_1 p229 q229
         cases e229
         replace p229 := eq_true p229
         replace q229 := eq_true q229
         go_wp2
         repeat (go_quiet (fail); try go_wp2)
         go_roundg k1
         case measure=>have := HK1.out; omega
         case rel=>exact ⟨(wrap64 (x13_1 + 1)),(by first|rfl|(simp; done)|(simp [*]; done)),H',⟨by have := HK1.out; omega⟩,by repeat (first|exact Drawn0.refl _|apply Drawn0.step)⟩
        ·rw [if_neg c8] at H
         have c8b0 : ((rdOf ByteArray.empty l0 x13_1).toList == (rdOf ByteArray.empty l1 x13_1).toList) = false := beq_eq_false_iff_ne.mpr c8
         have c8b1 : ((rdOf ByteArray.empty l0 x13_1).toList != (rdOf ByteArray.empty l1 x13_1).toList) = true := bne_iff_ne.mpr c8
         obtain rfl := Option.some.inj H
         have p228 : 0 ≤ (x13_1 : Int) := of_decide_eq_true (by first|(with_reducible assumption)|assumption)
         have q228 : x13_1 < (l0.length : Int) := of_decide_eq_true (by first|(with_reducible assumption)|assumption)
         obtain ⟨ad228,e228,hx228_0⟩ := Kd.at_string HR0.out x13_1 p228 q228
         cases e228
         replace p228 := eq_true p228
         replace q228 := eq_true q228
         have p229 : 0 ≤ (x13_1 : Int) := of_decide_eq_true (by first|(with_reducible assumption)|assumption)
         have q229 : x13_1 < (l1.length : Int) := of_decide_eq_true (by first|(with_reducible assumption)|assumption)
         obtain ⟨ad229,e229,hx229_0⟩ := Kd.at_string HR1.out x13_1 p229 q229
         cases e229
         replace p229 := eq_true p229
         replace q229 := eq_true q229
         go_wp2
         repeat (go_quiet (fail); try go_wp2)
         go_ret
         exact ⟨by first|rfl|(simp; done)|(simp [*]; done),by repeat (first|exact Drawn0.refl _|apply Drawn0.step)⟩
       ·rw [if_neg c7] at H
        exact absurd H (by simp)
      ·rw [if_neg c6] at H
       exact absurd H (by simp)
     ·rw [if_neg c5] at H
      exact absurd H (by simp)
    ·rw [if_neg c4] at H
     have c4b0 : decide (x13_1 < (l0.length : Int)) = false := decide_eq_false c4
     clear c4
     obtain rfl := Option.some.inj H
     go_wp2
     repeat (go_quiet (fail); try go_wp2)
     go_ret
     exact ⟨by first|rfl|(simp; done)|(simp [*]; done),by repeat (first|exact Drawn0.refl _|apply Drawn0.step)⟩
 ·rw [if_neg c3] at H
  have c3b0 : ((l0.length : Int) == (l1.length : Int)) = false := beq_eq_false_iff_ne.mpr c3
  have c3b1 : ((l0.length : Int) != (l1.length : Int)) = true := bne_iff_ne.mpr c3
  have c3b2 : (l0.length == l1.length) = false := by first|simpa using c3|(simp at c3 ⊢; omega)
  obtain rfl := Option.some.inj H
  go_enter Tryz.func48,Tryz.ntmps48
  go_wp2
  repeat (go_quiet (fail); try go_wp2)
  go_ret
  exact ⟨by first|rfl|(simp; done)|(simp [*]; done),by repeat (first|exact Drawn0.refl _|apply Drawn0.step)⟩

end Go.Proofs.YtannjakcnnefhaaGreatDoor.U
