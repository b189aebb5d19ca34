import Derived.Test.YtannjakcnnefhaaGreatDoorKV0
import Derived.Test.YtannjakcnnefhaaGreatDoorKV5
import Derived.Test.YtannjakcnnefhaaGreatDoorKV6
-- printed by wip/hp.py (the session's driver of the print, with hand-proved contracts)
namespace Go.Proofs.YtannjakcnnefhaaGreatDoor.V
open Go.RowKit Go.Proofs.YtannjakcnnefhaaGreatDoorW.PrintWords Go.Proofs.YtannjakcnnefhaaGreatDoorW.PrintLast Go.Proofs.YtannjakcnnefhaaGreatDoorW.PrintMore
attribute [local go_sem] max2_int min2_int max_two min_two max_three min_three max_four min_four   -- for this text's walks alone
set_option linter.unusedVariables false
set_option linter.unusedSimpArgs false

/-! ### flagstoneref3_Check: function 15 -/
def flagstoneref3_Check.j0 : Nat → Bool → Int → Int → ByteArray → List ByteArray → Option (Int)
 | 0,_,_,_,_,_=>none
 | k + 1,x12,x215000,x215001,x215002,x215003=>if x12 = true then (some 7) else ((flagstoneref3_shape.f x215000 x215001 x215002 x215003).bind fun t215=>(if t215 = true then (if x215000 = 1 then (if x215001 = 0 then (some 0) else (if x215001 = 1 then (some 0) else (some 3))) else (if x215000 = 2 then (if x215001 < (-1099511627776) then (some 3) else (if x215001 > 1099511627776 then (some 3) else (some 0))) else (if x215000 = 3 then ((flagstoneref1_Valid.f k x215002).bind fun t216=>(if t216 = true then (some 0) else (some 2))) else (if x215000 = 4 then ((flagstoneref3_parts.f x215002).bind fun bt217=>(if bt217.2.2.2 = true then (some 0) else (some 1))) else (if x215000 = 5 then ((flagstoneref3_list.f k x215003).bind fun t222=>(some t222)) else (some 0)))))) else (some 15)))
def flagstoneref3_Check.f (k : Nat) (a0_0 : Int) (a0_1 : Int) (a0_2 : ByteArray) (l0_3 : List ByteArray) : Option (Int) := if a0_0 < 1 then (flagstoneref3_Check.j0 k true a0_0 a0_1 a0_2 l0_3) else (flagstoneref3_Check.j0 k (decide (a0_0 > 5)) a0_0 a0_1 a0_2 l0_3)
theorem flagstoneref3_Check.mono_l : ∀ k, (∀ y0 y1 y2 y3 y4, LeO (flagstoneref3_Check.j0 k y0 y1 y2 y3 y4) (flagstoneref3_Check.j0 (k + 1) y0 y1 y2 y3 y4))
 | 0=>fun _ _ _ _ _ r h=>by simp [flagstoneref3_Check.j0] at h
 | k + 1=>by
  have ih0 := flagstoneref3_Check.mono_l k
  ·intro y0 y1 y2 y3 y4
   unfold flagstoneref3_Check.j0
   repeat' first
   | (with_reducible exact ih0 _ _ _ _ _)
   | (with_reducible exact flagstoneref1_Valid.mono _ _)
   | (with_reducible exact flagstoneref3_list.mono _ _)
   | (with_reducible exact LeO.refl _)
   | (with_reducible exact LeO.none _)
   | (with_reducible refine LeO.ite ?_ ?_)
   | (with_reducible refine LeO.bind ?_ (fun _=>?_))
   | exact ih0 _ _ _ _ _
   | exact flagstoneref1_Valid.mono _ _
   | exact flagstoneref3_list.mono _ _
   | exact LeO.none _
   | refine LeO.ite ?_ ?_
   | refine LeO.bind ?_ (fun _=>?_)
theorem flagstoneref3_Check.mono : ∀ a0 a1 a2 a3 k, LeO (flagstoneref3_Check.f k a0 a1 a2 a3) (flagstoneref3_Check.f (k + 1) a0 a1 a2 a3) := by
 intro a0 a1 a2 a3 k
 have ih0 := flagstoneref3_Check.mono_l k
 unfold flagstoneref3_Check.f
 repeat' first
   | (with_reducible exact ih0 _ _ _ _ _)
   | (with_reducible exact flagstoneref1_Valid.mono _ _)
   | (with_reducible exact flagstoneref3_list.mono _ _)
   | (with_reducible exact LeO.refl _)
   | (with_reducible exact LeO.none _)
   | (with_reducible refine LeO.ite ?_ ?_)
   | (with_reducible refine LeO.bind ?_ (fun _=>?_))
   | exact ih0 _ _ _ _ _
   | exact flagstoneref1_Valid.mono _ _
   | exact flagstoneref3_list.mono _ _
   | exact LeO.none _
   | refine LeO.ite ?_ ?_
   | refine LeO.bind ?_ (fun _=>?_)
set_option maxHeartbeats 8000000 in
set_option maxRecDepth 100000 in
theorem flagstoneref3_Check.calls (k : Nat) (a0_0 : Int) (a0_1 : Int) (a0_2 : ByteArray) (A0_3 : Option Addr) (c0_3 : Nat) (l0_3 : List ByteArray) (r : Int) (w : World) (hr0_3 : Kd.C Kd.string w A0_3 l0_3.length l0_3) (hc0_3 : l0_3.length ≤ c0_3) (hGL : GL w) (h : flagstoneref3_Check.f k a0_0 a0_1 a0_2 l0_3 = some r) :
  Calls Tryz.prog 15 #[.agg #[.int .i64 a0_0,.int .i64 a0_1,.string a0_2,.slice A0_3 l0_3.length c0_3]] w fun e w'=>e = .returned (.int .i64 r) ∧ Below w.heap.size w w' := by
 have hu24 := Tryz.underlying24; have hu54 := Tryz.underlying54; have HR0_3 := Aside0.mk hr0_3; have HC0_3 := Aside0.mk hc0_3; clear hr0_3 hc0_3; have HGL := Aside0.mk hGL; clear hGL
 have HB := Aside0.mk (Below.refl w.heap.size w)
 have H : (if a0_0 < 1 then (flagstoneref3_Check.j0 k true a0_0 a0_1 a0_2 l0_3) else (flagstoneref3_Check.j0 k (decide (a0_0 > 5)) a0_0 a0_1 a0_2 l0_3)) = some r := h
 clear h; have HC2 := Aside0.mk H; clear H
 go_enter Tryz.func15,Tryz.ntmps15
 go_upto_region 1 with (first|((with_reducible refine gate_dst (N := 1) rfl ?_); refine box_event ?hg (N := 1) ?hd (cs := #[.int .i64 a0_0,.int .i64 a0_1,.string a0_2,.slice A0_3 l0_3.length c0_3]) (t := 24) ?hr ?_;(case hd=>rfl);(case hg=>rfl);(case hr=>first|(go_simp; done)|(go_simp; rfl)); intro gb214 hg w3 hbox hb; have n0_ := Aside0.mk (below_step (by repeat (first|(with_reducible first|exact HB.out|apply zE|apply zB|apply zC)|exact HB.out)) hb); have n1_ := Aside0.mk (hbox); have n2_ := Aside0.mk ((by rw [hg]; exact (below_size (by repeat (first|(with_reducible first|exact HB.out|apply zE|apply zB|apply zC)|exact HB.out))) : w.heap.size ≤ gb214)); have n3_ := Aside0.mk ((by rw [hg]; exact (below_size (by repeat (first|(with_reducible first|exact HB.out|apply zE|apply zB|apply zC)|exact HB.out))) : w.heap.size ≤ gb214)); clear HB; have HB := n0_; have BK214 := n1_; have GW214 := n2_; have GE214 := n3_; clear n0_ n1_ n2_ n3_ hb hbox hg))
 (try simp only [Act.put,List.setIfInBounds_toArray,List.set_cons_zero,List.set_cons_succ])
 go_cut [12] (fun v12 wc=>∃ (kq : Nat) (x12_1 : Bool),v12 = .bool x12_1 ∧ Aside0 (flagstoneref3_Check.j0 kq x12_1 a0_0 a0_1 a0_2 l0_3 = some r) ∧ Aside0 (kq ≤ k) ∧ Aside0 (wc.heap[gb214]? = some (.cells #[.int .i64 a0_0,.int .i64 a0_1,.string a0_2,(.slice A0_3 l0_3.length c0_3)] 24 (0,0))) ∧ Aside0 (Below w.heap.size w wc))
 case first =>
  have H := HC2.out; clear HC2
  by_cases c4 : a0_0 < 1
  ·rw [if_pos c4] at H
   have c4b0 : decide (a0_0 < 1) = true := decide_eq_true c4
   clear c4
   (first|rw [c4b0]|(simp only [i64_w,i32_w]; rw [c4b0])|skip)
   have H' := Aside0.mk H; clear H
   have hcz5_0 : w3.cell? ⟨gb214,0,none⟩ = some (.int .i64 a0_0):=(blk_cell BK214.out 0).trans rfl
   have hcz5_1 : w3.cell? ⟨gb214,1,none⟩ = some (.int .i64 a0_1):=(blk_cell BK214.out 1).trans rfl
   have hcz5_2 : w3.cell? ⟨gb214,2,none⟩ = some (.string a0_2):=(blk_cell BK214.out 2).trans rfl
   have hcz5_3 : w3.cell? ⟨gb214,3,none⟩ = some (.slice A0_3 l0_3.length c0_3):=(blk_cell BK214.out 3).trans rfl
   have hfz5_0 := blk_frozen BK214.out 0
   have hfz5_1 := blk_frozen BK214.out 1
   have hfz5_2 := blk_frozen BK214.out 2
   have hfz5_3 := blk_frozen BK214.out 3
   go_wp2
   go_meet
   case rel=>exact ⟨_,(true),(by first|rfl|(simp; done)|(simp [*]; done)),H',⟨by first|omega|exact Nat.le_refl _⟩,⟨by (with_reducible repeat (first|refine zN ?_ _|refine zD ?_|refine zA ?_ _)); exact BK214.out⟩,⟨by repeat (first|(with_reducible first|exact HB.out|apply zE|apply zB|apply zC|refine zJ ?_ GE214.out)|exact HB.out)⟩⟩
  ·rw [if_neg c4] at H
   have c4b0 : decide (a0_0 < 1) = false := decide_eq_false c4
   clear c4
   (first|rw [c4b0]|(simp only [i64_w,i32_w]; rw [c4b0])|skip)
   have H' := Aside0.mk H; clear H
   have hcz6_0 : w3.cell? ⟨gb214,0,none⟩ = some (.int .i64 a0_0):=(blk_cell BK214.out 0).trans rfl
   have hcz6_1 : w3.cell? ⟨gb214,1,none⟩ = some (.int .i64 a0_1):=(blk_cell BK214.out 1).trans rfl
   have hcz6_2 : w3.cell? ⟨gb214,2,none⟩ = some (.string a0_2):=(blk_cell BK214.out 2).trans rfl
   have hcz6_3 : w3.cell? ⟨gb214,3,none⟩ = some (.slice A0_3 l0_3.length c0_3):=(blk_cell BK214.out 3).trans rfl
   have hfz6_0 := blk_frozen BK214.out 0
   have hfz6_1 := blk_frozen BK214.out 1
   have hfz6_2 := blk_frozen BK214.out 2
   have hfz6_3 := blk_frozen BK214.out 3
   go_wp2
   go_meet
   case rel=>exact ⟨_,(decide (a0_0 > 5)),(by first|rfl|(simp; done)|(simp [*]; done)),H',⟨by first|omega|exact Nat.le_refl _⟩,⟨by (with_reducible repeat (first|refine zN ?_ _|refine zD ?_|refine zA ?_ _)); exact BK214.out⟩,⟨by repeat (first|(with_reducible first|exact HB.out|apply zE|apply zB|apply zC|refine zJ ?_ GE214.out)|exact HB.out)⟩⟩
 case rest =>
  clear HC2;(try clear c1);(try clear p2);(try clear c4);(try clear c4b0);(try clear hcz5_0);(try clear hcz5_1);(try clear hcz5_2);(try clear hcz5_3);(try clear hcz6_0);(try clear hcz6_1);(try clear hcz6_2);(try clear hcz6_3);(try clear hfz5_0);(try clear hfz5_1);(try clear hfz5_2);(try clear hfz5_3);(try clear hfz6_0);(try clear hfz6_1);(try clear hfz6_2);(try clear hfz6_3)
  obtain ⟨kq,x12_1,rfl,HA,HJ1,BK214,HB⟩ := hcut
  cases kq with
  | zero=>exact absurd HA.out (by simp [flagstoneref3_Check.j0])
  | succ kj1 =>
   have H := HA.out; clear HA
   simp only [flagstoneref3_Check.j0] at H
   by_cases c7 : x12_1 = true
   ·subst c7
    have H1 : (some 7) = some r := by rw [if_pos rfl] at H; exact H
    clear H; have H := H1; clear H1
    obtain rfl := Option.some.inj H
    go_wp2
    go_ret
    exact ⟨by first|rfl|(simp [errW_none,errW_some]<;>rfl)|(simp [*,errW_none,errW_some]<;>rfl),by repeat (first|(with_reducible first|exact HB.out|apply zE|apply zB|apply zC|refine zJ ?_ GE214.out)|exact HB.out)⟩
   ·replace c7 := Bool.eq_false_iff.mpr c7
    subst c7
    have H1 : ((flagstoneref3_shape.f a0_0 a0_1 a0_2 l0_3).bind fun t215=>(if t215 = true then (if a0_0 = 1 then (if a0_1 = 0 then (some 0) else (if a0_1 = 1 then (some 0) else (some 3))) else (if a0_0 = 2 then (if a0_1 < (-1099511627776) then (some 3) else (if a0_1 > 1099511627776 then (some 3) else (some 0))) else (if a0_0 = 3 then ((flagstoneref1_Valid.f kj1 a0_2).bind fun t216=>(if t216 = true then (some 0) else (some 2))) else (if a0_0 = 4 then ((flagstoneref3_parts.f a0_2).bind fun bt217=>(if bt217.2.2.2 = true then (some 0) else (some 1))) else (if a0_0 = 5 then ((flagstoneref3_list.f kj1 l0_3).bind fun t222=>(some t222)) else (some 0)))))) else (some 15))) = some r := by rw [if_neg (show ¬ (false = true) by decide)] at H; exact H
    clear H; have H := H1; clear H1; replace H := Option.bind_eq_some_iff.mp H; obtain ⟨t215,A80,H⟩ := H
    replace H : (if t215 = true then (if a0_0 = 1 then (if a0_1 = 0 then (some 0) else (if a0_1 = 1 then (some 0) else (some 3))) else (if a0_0 = 2 then (if a0_1 < (-1099511627776) then (some 3) else (if a0_1 > 1099511627776 then (some 3) else (some 0))) else (if a0_0 = 3 then ((flagstoneref1_Valid.f kj1 a0_2).bind fun t216=>(if t216 = true then (some 0) else (some 2))) else (if a0_0 = 4 then ((flagstoneref3_parts.f a0_2).bind fun bt217=>(if bt217.2.2.2 = true then (some 0) else (some 1))) else (if a0_0 = 5 then ((flagstoneref3_list.f kj1 l0_3).bind fun t222=>(some t222)) else (some 0)))))) else (some 15)) = some r := H
    have A8 := Aside0.mk A80; clear A80
    by_cases c9 : t215 = true
    ·subst c9
     have H1 : (if a0_0 = 1 then (if a0_1 = 0 then (some 0) else (if a0_1 = 1 then (some 0) else (some 3))) else (if a0_0 = 2 then (if a0_1 < (-1099511627776) then (some 3) else (if a0_1 > 1099511627776 then (some 3) else (some 0))) else (if a0_0 = 3 then ((flagstoneref1_Valid.f kj1 a0_2).bind fun t216=>(if t216 = true then (some 0) else (some 2))) else (if a0_0 = 4 then ((flagstoneref3_parts.f a0_2).bind fun bt217=>(if bt217.2.2.2 = true then (some 0) else (some 1))) else (if a0_0 = 5 then ((flagstoneref3_list.f kj1 l0_3).bind fun t222=>(some t222)) else (some 0)))))) = some r := by rw [if_pos rfl] at H; exact H
     clear H; have H := H1; clear H1
     by_cases c10 : a0_0 = 1
     ·rw [if_pos c10] at H
      have c10b0 : (a0_0 == 1) = true := beq_iff_eq.mpr c10
      have c10b1 : (a0_0 != 1) = false := bne_eq_false_iff_eq.mpr c10
      clear c10
      by_cases c11 : a0_1 = 0
      ·rw [if_pos c11] at H
       have c11b0 : (a0_1 == 0) = true := beq_iff_eq.mpr c11
       have c11b1 : (a0_1 != 0) = false := bne_eq_false_iff_eq.mpr c11
       clear c11
       obtain rfl := Option.some.inj H
       have hcz12_0 : wc.cell? ⟨gb214,0,none⟩ = some (.int .i64 a0_0):=(blk_cell BK214.out 0).trans rfl
       have hcz12_1 : wc.cell? ⟨gb214,1,none⟩ = some (.int .i64 a0_1):=(blk_cell BK214.out 1).trans rfl
       have hcz12_2 : wc.cell? ⟨gb214,2,none⟩ = some (.string a0_2):=(blk_cell BK214.out 2).trans rfl
       have hcz12_3 : wc.cell? ⟨gb214,3,none⟩ = some (.slice A0_3 l0_3.length c0_3):=(blk_cell BK214.out 3).trans rfl
       have hfz12_0 := blk_frozen BK214.out 0
       have hfz12_1 := blk_frozen BK214.out 1
       have hfz12_2 := blk_frozen BK214.out 2
       have hfz12_3 := blk_frozen BK214.out 3
       go_wp2_with (first|((with_reducible refine gate_callee (f := 30) rfl ?_); refine goesL_ (some 14) rfl rfl Tryz.func30 (by kernel_rfl) rfl #[.agg #[.int .i64 a0_0,.int .i64 a0_1,.string a0_2,.slice A0_3 l0_3.length c0_3]] rfl (by (try simp only [List.map_toArray,List.map_cons,List.map_nil]); first|done|rfl|(simp only [List.length_drop,List.length_take]; rfl)) ?_;(with_reducible refine (flagstoneref3_shape.calls a0_0 a0_1 a0_2 _ _ l0_3 true _ ?side1 ?side2 A8.out).mono ?_);(case side1=>repeat (first|exact (Kd.C_below HR0_3.out HB.out)|(with_reducible refine Kd.C_alloc ?_ _)|(with_reducible refine Kd.C_drewN ?_ _)|(with_reducible refine Kd.C_drew ?_)));(case side2=>exact HC0_3.out); rintro e w13 ⟨rfl,hb⟩; refine ⟨_,rfl,?_⟩; have n0_ := Aside0.mk (blk_below (g := gb214) (o := .cells #[.int .i64 a0_0,.int .i64 a0_1,.string a0_2,.slice A0_3 l0_3.length c0_3] 24 (0,0)) (by (with_reducible repeat (first|refine zN ?_ _|refine zD ?_|refine zA ?_ _)); exact BK214.out) hb); have n1_ := Aside0.mk (below_step (by repeat (first|(with_reducible first|exact HB.out|apply zE|apply zB|apply zC|refine zJ ?_ GE214.out)|exact HB.out)) hb); clear BK214 HB; have BK214 := n0_; have HB := n1_; clear n0_ n1_;(try clear hb);(try clear hb2);(try clear hk);(try clear hi);(try clear hge); have hcz14_0 : w13.cell? ⟨gb214,0,none⟩ = some (.int .i64 a0_0):=(blk_cell BK214.out 0).trans rfl; have hcz14_1 : w13.cell? ⟨gb214,1,none⟩ = some (.int .i64 a0_1):=(blk_cell BK214.out 1).trans rfl; have hcz14_2 : w13.cell? ⟨gb214,2,none⟩ = some (.string a0_2):=(blk_cell BK214.out 2).trans rfl; have hcz14_3 : w13.cell? ⟨gb214,3,none⟩ = some (.slice A0_3 l0_3.length c0_3):=(blk_cell BK214.out 3).trans rfl; have hfz14_0 := blk_frozen BK214.out 0; have hfz14_1 := blk_frozen BK214.out 1; have hfz14_2 := blk_frozen BK214.out 2; have hfz14_3 := blk_frozen BK214.out 3))
       go_ret
       exact ⟨by first|rfl|(simp [errW_none,errW_some]<;>rfl)|(simp [*,errW_none,errW_some]<;>rfl),by repeat (first|(with_reducible first|exact HB.out|apply zE|apply zB|apply zC|refine zJ ?_ GE214.out)|exact HB.out)⟩
      ·rw [if_neg c11] at H
       have c11b0 : (a0_1 == 0) = false := beq_eq_false_iff_ne.mpr c11
       have c11b1 : (a0_1 != 0) = true := bne_iff_ne.mpr c11
       by_cases c15 : a0_1 = 1
       ·rw [if_pos c15] at H
        have c15b0 : (a0_1 == 1) = true := beq_iff_eq.mpr c15
        have c15b1 : (a0_1 != 1) = false := bne_eq_false_iff_eq.mpr c15
        clear c15
        obtain rfl := Option.some.inj H
        have hcz16_0 : wc.cell? ⟨gb214,0,none⟩ = some (.int .i64 a0_0):=(blk_cell BK214.out 0).trans rfl
        have hcz16_1 : wc.cell? ⟨gb214,1,none⟩ = some (.int .i64 a0_1):=(blk_cell BK214.out 1).trans rfl
        have hcz16_2 : wc.cell? ⟨gb214,2,none⟩ = some (.string a0_2):=(blk_cell BK214.out 2).trans rfl
        have hcz16_3 : wc.cell? ⟨gb214,3,none⟩ = some (.slice A0_3 l0_3.length c0_3):=(blk_cell BK214.out 3).trans rfl
        have hfz16_0 := blk_frozen BK214.out 0
        have hfz16_1 := blk_frozen BK214.out 1
        have hfz16_2 := blk_frozen BK214.out 2
        have hfz16_3 := blk_frozen BK214.out 3
        go_wp2_with (first|((with_reducible refine gate_callee (f := 30) rfl ?_); refine goesL_ (some 14) rfl rfl Tryz.func30 (by kernel_rfl) rfl #[.agg #[.int .i64 a0_0,.int .i64 a0_1,.string a0_2,.slice A0_3 l0_3.length c0_3]] rfl (by (try simp only [List.map_toArray,List.map_cons,List.map_nil]); first|done|rfl|(simp only [List.length_drop,List.length_take]; rfl)) ?_;(with_reducible refine (flagstoneref3_shape.calls a0_0 a0_1 a0_2 _ _ l0_3 true _ ?side1 ?side2 A8.out).mono ?_);(case side1=>repeat (first|exact (Kd.C_below HR0_3.out HB.out)|(with_reducible refine Kd.C_alloc ?_ _)|(with_reducible refine Kd.C_drewN ?_ _)|(with_reducible refine Kd.C_drew ?_)));(case side2=>exact HC0_3.out); rintro e w17 ⟨rfl,hb⟩; refine ⟨_,rfl,?_⟩; have n0_ := Aside0.mk (blk_below (g := gb214) (o := .cells #[.int .i64 a0_0,.int .i64 a0_1,.string a0_2,.slice A0_3 l0_3.length c0_3] 24 (0,0)) (by (with_reducible repeat (first|refine zN ?_ _|refine zD ?_|refine zA ?_ _)); exact BK214.out) hb); have n1_ := Aside0.mk (below_step (by repeat (first|(with_reducible first|exact HB.out|apply zE|apply zB|apply zC|refine zJ ?_ GE214.out)|exact HB.out)) hb); clear BK214 HB; have BK214 := n0_; have HB := n1_; clear n0_ n1_;(try clear hb);(try clear hb2);(try clear hk);(try clear hi);(try clear hge); have hcz18_0 : w17.cell? ⟨gb214,0,none⟩ = some (.int .i64 a0_0):=(blk_cell BK214.out 0).trans rfl; have hcz18_1 : w17.cell? ⟨gb214,1,none⟩ = some (.int .i64 a0_1):=(blk_cell BK214.out 1).trans rfl; have hcz18_2 : w17.cell? ⟨gb214,2,none⟩ = some (.string a0_2):=(blk_cell BK214.out 2).trans rfl; have hcz18_3 : w17.cell? ⟨gb214,3,none⟩ = some (.slice A0_3 l0_3.length c0_3):=(blk_cell BK214.out 3).trans rfl; have hfz18_0 := blk_frozen BK214.out 0; have hfz18_1 := blk_frozen BK214.out 1; have hfz18_2 := blk_frozen BK214.out 2; have hfz18_3 := blk_frozen BK214.out 3))
        go_ret
        exact ⟨by first|rfl|(simp [errW_none,errW_some]<;>rfl)|(simp [*,errW_none,errW_some]<;>rfl),by repeat (first|(with_reducible first|exact HB.out|apply zE|apply zB|apply zC|refine zJ ?_ GE214.out)|exact HB.out)⟩
       ·rw [if_neg c15] at H
        have c15b0 : (a0_1 == 1) = false := beq_eq_false_iff_ne.mpr c15
        have c15b1 : (a0_1 != 1) = true := bne_iff_ne.mpr c15
        obtain rfl := Option.some.inj H
        have hcz19_0 : wc.cell? ⟨gb214,0,none⟩ = some (.int .i64 a0_0):=(blk_cell BK214.out 0).trans rfl
        have hcz19_1 : wc.cell? ⟨gb214,1,none⟩ = some (.int .i64 a0_1):=(blk_cell BK214.out 1).trans rfl
        have hcz19_2 : wc.cell? ⟨gb214,2,none⟩ = some (.string a0_2):=(blk_cell BK214.out 2).trans rfl
        have hcz19_3 : wc.cell? ⟨gb214,3,none⟩ = some (.slice A0_3 l0_3.length c0_3):=(blk_cell BK214.out 3).trans rfl
        have hfz19_0 := blk_frozen BK214.out 0
        have hfz19_1 := blk_frozen BK214.out 1
        have hfz19_2 := blk_frozen BK214.out 2
        have hfz19_3 := blk_frozen BK214.out 3
        go_wp2_with (first|((with_reducible refine gate_callee (f := 30) rfl ?_); refine goesL_ (some 14) rfl rfl Tryz.func30 (by kernel_rfl) rfl #[.agg #[.int .i64 a0_0,.int .i64 a0_1,.string a0_2,.slice A0_3 l0_3.length c0_3]] rfl (by (try simp only [List.map_toArray,List.map_cons,List.map_nil]); first|done|rfl|(simp only [List.length_drop,List.length_take]; rfl)) ?_;(with_reducible refine (flagstoneref3_shape.calls a0_0 a0_1 a0_2 _ _ l0_3 true _ ?side1 ?side2 A8.out).mono ?_);(case side1=>repeat (first|exact (Kd.C_below HR0_3.out HB.out)|(with_reducible refine Kd.C_alloc ?_ _)|(with_reducible refine Kd.C_drewN ?_ _)|(with_reducible refine Kd.C_drew ?_)));(case side2=>exact HC0_3.out); rintro e w20 ⟨rfl,hb⟩; refine ⟨_,rfl,?_⟩; have n0_ := Aside0.mk (blk_below (g := gb214) (o := .cells #[.int .i64 a0_0,.int .i64 a0_1,.string a0_2,.slice A0_3 l0_3.length c0_3] 24 (0,0)) (by (with_reducible repeat (first|refine zN ?_ _|refine zD ?_|refine zA ?_ _)); exact BK214.out) hb); have n1_ := Aside0.mk (below_step (by repeat (first|(with_reducible first|exact HB.out|apply zE|apply zB|apply zC|refine zJ ?_ GE214.out)|exact HB.out)) hb); clear BK214 HB; have BK214 := n0_; have HB := n1_; clear n0_ n1_;(try clear hb);(try clear hb2);(try clear hk);(try clear hi);(try clear hge); have hcz21_0 : w20.cell? ⟨gb214,0,none⟩ = some (.int .i64 a0_0):=(blk_cell BK214.out 0).trans rfl; have hcz21_1 : w20.cell? ⟨gb214,1,none⟩ = some (.int .i64 a0_1):=(blk_cell BK214.out 1).trans rfl; have hcz21_2 : w20.cell? ⟨gb214,2,none⟩ = some (.string a0_2):=(blk_cell BK214.out 2).trans rfl; have hcz21_3 : w20.cell? ⟨gb214,3,none⟩ = some (.slice A0_3 l0_3.length c0_3):=(blk_cell BK214.out 3).trans rfl; have hfz21_0 := blk_frozen BK214.out 0; have hfz21_1 := blk_frozen BK214.out 1; have hfz21_2 := blk_frozen BK214.out 2; have hfz21_3 := blk_frozen BK214.out 3))
        go_ret
        exact ⟨by first|rfl|(simp [errW_none,errW_some]<;>rfl)|(simp [*,errW_none,errW_some]<;>rfl),by repeat (first|(with_reducible first|exact HB.out|apply zE|apply zB|apply zC|refine zJ ?_ GE214.out)|exact HB.out)⟩
     ·rw [if_neg c10] at H
      have c10b0 : (a0_0 == 1) = false := beq_eq_false_iff_ne.mpr c10
      have c10b1 : (a0_0 != 1) = true := bne_iff_ne.mpr c10
      by_cases c22 : a0_0 = 2
      ·rw [if_pos c22] at H
       have c22b0 : (a0_0 == 2) = true := beq_iff_eq.mpr c22
       have c22b1 : (a0_0 != 2) = false := bne_eq_false_iff_eq.mpr c22
       clear c22
       by_cases c23 : a0_1 < (-1099511627776)
       ·rw [if_pos c23] at H
        have c23b0 : decide (a0_1 < (-1099511627776)) = true := decide_eq_true c23
        clear c23
        obtain rfl := Option.some.inj H
        have hcz24_0 : wc.cell? ⟨gb214,0,none⟩ = some (.int .i64 a0_0):=(blk_cell BK214.out 0).trans rfl
        have hcz24_1 : wc.cell? ⟨gb214,1,none⟩ = some (.int .i64 a0_1):=(blk_cell BK214.out 1).trans rfl
        have hcz24_2 : wc.cell? ⟨gb214,2,none⟩ = some (.string a0_2):=(blk_cell BK214.out 2).trans rfl
        have hcz24_3 : wc.cell? ⟨gb214,3,none⟩ = some (.slice A0_3 l0_3.length c0_3):=(blk_cell BK214.out 3).trans rfl
        have hfz24_0 := blk_frozen BK214.out 0
        have hfz24_1 := blk_frozen BK214.out 1
        have hfz24_2 := blk_frozen BK214.out 2
        have hfz24_3 := blk_frozen BK214.out 3
        go_wp2_with (first|((with_reducible refine gate_callee (f := 30) rfl ?_); refine goesL_ (some 14) rfl rfl Tryz.func30 (by kernel_rfl) rfl #[.agg #[.int .i64 a0_0,.int .i64 a0_1,.string a0_2,.slice A0_3 l0_3.length c0_3]] rfl (by (try simp only [List.map_toArray,List.map_cons,List.map_nil]); first|done|rfl|(simp only [List.length_drop,List.length_take]; rfl)) ?_;(with_reducible refine (flagstoneref3_shape.calls a0_0 a0_1 a0_2 _ _ l0_3 true _ ?side1 ?side2 A8.out).mono ?_);(case side1=>repeat (first|exact (Kd.C_below HR0_3.out HB.out)|(with_reducible refine Kd.C_alloc ?_ _)|(with_reducible refine Kd.C_drewN ?_ _)|(with_reducible refine Kd.C_drew ?_)));(case side2=>exact HC0_3.out); rintro e w25 ⟨rfl,hb⟩; refine ⟨_,rfl,?_⟩; have n0_ := Aside0.mk (blk_below (g := gb214) (o := .cells #[.int .i64 a0_0,.int .i64 a0_1,.string a0_2,.slice A0_3 l0_3.length c0_3] 24 (0,0)) (by (with_reducible repeat (first|refine zN ?_ _|refine zD ?_|refine zA ?_ _)); exact BK214.out) hb); have n1_ := Aside0.mk (below_step (by repeat (first|(with_reducible first|exact HB.out|apply zE|apply zB|apply zC|refine zJ ?_ GE214.out)|exact HB.out)) hb); clear BK214 HB; have BK214 := n0_; have HB := n1_; clear n0_ n1_;(try clear hb);(try clear hb2);(try clear hk);(try clear hi);(try clear hge); have hcz26_0 : w25.cell? ⟨gb214,0,none⟩ = some (.int .i64 a0_0):=(blk_cell BK214.out 0).trans rfl; have hcz26_1 : w25.cell? ⟨gb214,1,none⟩ = some (.int .i64 a0_1):=(blk_cell BK214.out 1).trans rfl; have hcz26_2 : w25.cell? ⟨gb214,2,none⟩ = some (.string a0_2):=(blk_cell BK214.out 2).trans rfl; have hcz26_3 : w25.cell? ⟨gb214,3,none⟩ = some (.slice A0_3 l0_3.length c0_3):=(blk_cell BK214.out 3).trans rfl; have hfz26_0 := blk_frozen BK214.out 0; have hfz26_1 := blk_frozen BK214.out 1; have hfz26_2 := blk_frozen BK214.out 2; have hfz26_3 := blk_frozen BK214.out 3))
        go_ret
        exact ⟨by first|rfl|(simp [errW_none,errW_some]<;>rfl)|(simp [*,errW_none,errW_some]<;>rfl),by repeat (first|(with_reducible first|exact HB.out|apply zE|apply zB|apply zC|refine zJ ?_ GE214.out)|exact HB.out)⟩
       ·rw [if_neg c23] at H
        have c23b0 : decide (a0_1 < (-1099511627776)) = false := decide_eq_false c23
        clear c23
        by_cases c27 : a0_1 > 1099511627776
        ·rw [if_pos c27] at H
         have c27b0 : decide (1099511627776 < a0_1) = true := decide_eq_true c27
         clear c27
         obtain rfl := Option.some.inj H
         have hcz28_0 : wc.cell? ⟨gb214,0,none⟩ = some (.int .i64 a0_0):=(blk_cell BK214.out 0).trans rfl
         have hcz28_1 : wc.cell? ⟨gb214,1,none⟩ = some (.int .i64 a0_1):=(blk_cell BK214.out 1).trans rfl
         have hcz28_2 : wc.cell? ⟨gb214,2,none⟩ = some (.string a0_2):=(blk_cell BK214.out 2).trans rfl
         have hcz28_3 : wc.cell? ⟨gb214,3,none⟩ = some (.slice A0_3 l0_3.length c0_3):=(blk_cell BK214.out 3).trans rfl
         have hfz28_0 := blk_frozen BK214.out 0
         have hfz28_1 := blk_frozen BK214.out 1
         have hfz28_2 := blk_frozen BK214.out 2
         have hfz28_3 := blk_frozen BK214.out 3
         go_wp2_with (first|((with_reducible refine gate_callee (f := 30) rfl ?_); refine goesL_ (some 14) rfl rfl Tryz.func30 (by kernel_rfl) rfl #[.agg #[.int .i64 a0_0,.int .i64 a0_1,.string a0_2,.slice A0_3 l0_3.length c0_3]] rfl (by (try simp only [List.map_toArray,List.map_cons,List.map_nil]); first|done|rfl|(simp only [List.length_drop,List.length_take]; rfl)) ?_;(with_reducible refine (flagstoneref3_shape.calls a0_0 a0_1 a0_2 _ _ l0_3 true _ ?side1 ?side2 A8.out).mono ?_);(case side1=>repeat (first|exact (Kd.C_below HR0_3.out HB.out)|(with_reducible refine Kd.C_alloc ?_ _)|(with_reducible refine Kd.C_drewN ?_ _)|(with_reducible refine Kd.C_drew ?_)));(case side2=>exact HC0_3.out); rintro e w29 ⟨rfl,hb⟩; refine ⟨_,rfl,?_⟩; have n0_ := Aside0.mk (blk_below (g := gb214) (o := .cells #[.int .i64 a0_0,.int .i64 a0_1,.string a0_2,.slice A0_3 l0_3.length c0_3] 24 (0,0)) (by (with_reducible repeat (first|refine zN ?_ _|refine zD ?_|refine zA ?_ _)); exact BK214.out) hb); have n1_ := Aside0.mk (below_step (by repeat (first|(with_reducible first|exact HB.out|apply zE|apply zB|apply zC|refine zJ ?_ GE214.out)|exact HB.out)) hb); clear BK214 HB; have BK214 := n0_; have HB := n1_; clear n0_ n1_;(try clear hb);(try clear hb2);(try clear hk);(try clear hi);(try clear hge); have hcz30_0 : w29.cell? ⟨gb214,0,none⟩ = some (.int .i64 a0_0):=(blk_cell BK214.out 0).trans rfl; have hcz30_1 : w29.cell? ⟨gb214,1,none⟩ = some (.int .i64 a0_1):=(blk_cell BK214.out 1).trans rfl; have hcz30_2 : w29.cell? ⟨gb214,2,none⟩ = some (.string a0_2):=(blk_cell BK214.out 2).trans rfl; have hcz30_3 : w29.cell? ⟨gb214,3,none⟩ = some (.slice A0_3 l0_3.length c0_3):=(blk_cell BK214.out 3).trans rfl; have hfz30_0 := blk_frozen BK214.out 0; have hfz30_1 := blk_frozen BK214.out 1; have hfz30_2 := blk_frozen BK214.out 2; have hfz30_3 := blk_frozen BK214.out 3))
         go_ret
         exact ⟨by first|rfl|(simp [errW_none,errW_some]<;>rfl)|(simp [*,errW_none,errW_some]<;>rfl),by repeat (first|(with_reducible first|exact HB.out|apply zE|apply zB|apply zC|refine zJ ?_ GE214.out)|exact HB.out)⟩
        ·rw [if_neg c27] at H
         have c27b0 : decide (1099511627776 < a0_1) = false := decide_eq_false c27
         clear c27
         obtain rfl := Option.some.inj H
         have hcz31_0 : wc.cell? ⟨gb214,0,none⟩ = some (.int .i64 a0_0):=(blk_cell BK214.out 0).trans rfl
         have hcz31_1 : wc.cell? ⟨gb214,1,none⟩ = some (.int .i64 a0_1):=(blk_cell BK214.out 1).trans rfl
         have hcz31_2 : wc.cell? ⟨gb214,2,none⟩ = some (.string a0_2):=(blk_cell BK214.out 2).trans rfl
         have hcz31_3 : wc.cell? ⟨gb214,3,none⟩ = some (.slice A0_3 l0_3.length c0_3):=(blk_cell BK214.out 3).trans rfl
         have hfz31_0 := blk_frozen BK214.out 0
         have hfz31_1 := blk_frozen BK214.out 1
         have hfz31_2 := blk_frozen BK214.out 2
         have hfz31_3 := blk_frozen BK214.out 3
         go_wp2_with (first|((with_reducible refine gate_callee (f := 30) rfl ?_); refine goesL_ (some 14) rfl rfl Tryz.func30 (by kernel_rfl) rfl #[.agg #[.int .i64 a0_0,.int .i64 a0_1,.string a0_2,.slice A0_3 l0_3.length c0_3]] rfl (by (try simp only [List.map_toArray,List.map_cons,List.map_nil]); first|done|rfl|(simp only [List.length_drop,List.length_take]; rfl)) ?_;(with_reducible refine (flagstoneref3_shape.calls a0_0 a0_1 a0_2 _ _ l0_3 true _ ?side1 ?side2 A8.out).mono ?_);(case side1=>repeat (first|exact (Kd.C_below HR0_3.out HB.out)|(with_reducible refine Kd.C_alloc ?_ _)|(with_reducible refine Kd.C_drewN ?_ _)|(with_reducible refine Kd.C_drew ?_)));(case side2=>exact HC0_3.out); rintro e w32 ⟨rfl,hb⟩; refine ⟨_,rfl,?_⟩; have n0_ := Aside0.mk (blk_below (g := gb214) (o := .cells #[.int .i64 a0_0,.int .i64 a0_1,.string a0_2,.slice A0_3 l0_3.length c0_3] 24 (0,0)) (by (with_reducible repeat (first|refine zN ?_ _|refine zD ?_|refine zA ?_ _)); exact BK214.out) hb); have n1_ := Aside0.mk (below_step (by repeat (first|(with_reducible first|exact HB.out|apply zE|apply zB|apply zC|refine zJ ?_ GE214.out)|exact HB.out)) hb); clear BK214 HB; have BK214 := n0_; have HB := n1_; clear n0_ n1_;(try clear hb);(try clear hb2);(try clear hk);(try clear hi);(try clear hge); have hcz33_0 : w32.cell? ⟨gb214,0,none⟩ = some (.int .i64 a0_0):=(blk_cell BK214.out 0).trans rfl; have hcz33_1 : w32.cell? ⟨gb214,1,none⟩ = some (.int .i64 a0_1):=(blk_cell BK214.out 1).trans rfl; have hcz33_2 : w32.cell? ⟨gb214,2,none⟩ = some (.string a0_2):=(blk_cell BK214.out 2).trans rfl; have hcz33_3 : w32.cell? ⟨gb214,3,none⟩ = some (.slice A0_3 l0_3.length c0_3):=(blk_cell BK214.out 3).trans rfl; have hfz33_0 := blk_frozen BK214.out 0; have hfz33_1 := blk_frozen BK214.out 1; have hfz33_2 := blk_frozen BK214.out 2; have hfz33_3 := blk_frozen BK214.out 3))
         go_ret
         exact ⟨by first|rfl|(simp [errW_none,errW_some]<;>rfl)|(simp [*,errW_none,errW_some]<;>rfl),by repeat (first|(with_reducible first|exact HB.out|apply zE|apply zB|apply zC|refine zJ ?_ GE214.out)|exact HB.out)⟩
      ·rw [if_neg c22] at H
       have c22b0 : (a0_0 == 2) = false := beq_eq_false_iff_ne.mpr c22
       have c22b1 : (a0_0 != 2) = true := bne_iff_ne.mpr c22
       by_cases c34 : a0_0 = 3
       ·rw [if_pos c34] at H
        have c34b0 : (a0_0 == 3) = true := beq_iff_eq.mpr c34
        have c34b1 : (a0_0 != 3) = false := bne_eq_false_iff_eq.mpr c34
        clear c34; replace H := Option.bind_eq_some_iff.mp H; obtain ⟨t216,A350,H⟩ := H
        replace H : (if t216 = true then (some 0) else (some 2)) = some r := H
        have A35 := Aside0.mk A350; clear A350
        by_cases c36 : t216 = true
        ·subst c36
         have H1 : (some 0) = some r := by rw [if_pos rfl] at H; exact H
         clear H; have H := H1; clear H1
         obtain rfl := Option.some.inj H
         have hcz37_0 : wc.cell? ⟨gb214,0,none⟩ = some (.int .i64 a0_0):=(blk_cell BK214.out 0).trans rfl
         have hcz37_1 : wc.cell? ⟨gb214,1,none⟩ = some (.int .i64 a0_1):=(blk_cell BK214.out 1).trans rfl
         have hcz37_2 : wc.cell? ⟨gb214,2,none⟩ = some (.string a0_2):=(blk_cell BK214.out 2).trans rfl
         have hcz37_3 : wc.cell? ⟨gb214,3,none⟩ = some (.slice A0_3 l0_3.length c0_3):=(blk_cell BK214.out 3).trans rfl
         have hfz37_0 := blk_frozen BK214.out 0
         have hfz37_1 := blk_frozen BK214.out 1
         have hfz37_2 := blk_frozen BK214.out 2
         have hfz37_3 := blk_frozen BK214.out 3
         go_wp2_with (first|((with_reducible refine gate_callee (f := 30) rfl ?_); refine goesL_ (some 14) rfl rfl Tryz.func30 (by kernel_rfl) rfl #[.agg #[.int .i64 a0_0,.int .i64 a0_1,.string a0_2,.slice A0_3 l0_3.length c0_3]] rfl (by (try simp only [List.map_toArray,List.map_cons,List.map_nil]); first|done|rfl|(simp only [List.length_drop,List.length_take]; rfl)) ?_;(with_reducible refine (flagstoneref3_shape.calls a0_0 a0_1 a0_2 _ _ l0_3 true _ ?side1 ?side2 A8.out).mono ?_);(case side1=>repeat (first|exact (Kd.C_below HR0_3.out HB.out)|(with_reducible refine Kd.C_alloc ?_ _)|(with_reducible refine Kd.C_drewN ?_ _)|(with_reducible refine Kd.C_drew ?_)));(case side2=>exact HC0_3.out); rintro e w38 ⟨rfl,hb⟩; refine ⟨_,rfl,?_⟩; have n0_ := Aside0.mk (blk_below (g := gb214) (o := .cells #[.int .i64 a0_0,.int .i64 a0_1,.string a0_2,.slice A0_3 l0_3.length c0_3] 24 (0,0)) (by (with_reducible repeat (first|refine zN ?_ _|refine zD ?_|refine zA ?_ _)); exact BK214.out) hb); have n1_ := Aside0.mk (below_step (by repeat (first|(with_reducible first|exact HB.out|apply zE|apply zB|apply zC|refine zJ ?_ GE214.out)|exact HB.out)) hb); clear BK214 HB; have BK214 := n0_; have HB := n1_; clear n0_ n1_;(try clear hb);(try clear hb2);(try clear hk);(try clear hi);(try clear hge); have hcz39_0 : w38.cell? ⟨gb214,0,none⟩ = some (.int .i64 a0_0):=(blk_cell BK214.out 0).trans rfl; have hcz39_1 : w38.cell? ⟨gb214,1,none⟩ = some (.int .i64 a0_1):=(blk_cell BK214.out 1).trans rfl; have hcz39_2 : w38.cell? ⟨gb214,2,none⟩ = some (.string a0_2):=(blk_cell BK214.out 2).trans rfl; have hcz39_3 : w38.cell? ⟨gb214,3,none⟩ = some (.slice A0_3 l0_3.length c0_3):=(blk_cell BK214.out 3).trans rfl; have hfz39_0 := blk_frozen BK214.out 0; have hfz39_1 := blk_frozen BK214.out 1; have hfz39_2 := blk_frozen BK214.out 2; have hfz39_3 := blk_frozen BK214.out 3)|((with_reducible refine gate_callee (f := 31) rfl ?_); refine goesL_ (some 42) rfl rfl Tryz.func31 (by kernel_rfl) rfl #[.string a0_2] rfl (by (try simp only [List.map_toArray,List.map_cons,List.map_nil]); first|done|rfl|(simp only [List.length_drop,List.length_take]; rfl)) ?_;(with_reducible refine (flagstoneref1_Valid.calls kj1 a0_2 true _ ?side1 A35.out).mono ?_);(case side1=>exact GL.below HGL.out (by repeat (first|(with_reducible first|exact HB.out|apply zE|apply zB|apply zC|refine zJ ?_ GE214.out)|exact HB.out))); rintro e w40 ⟨rfl,hb⟩; refine ⟨_,rfl,?_⟩; have n0_ := Aside0.mk (blk_below (g := gb214) (o := .cells #[.int .i64 a0_0,.int .i64 a0_1,.string a0_2,.slice A0_3 l0_3.length c0_3] 24 (0,0)) (by (with_reducible repeat (first|refine zN ?_ _|refine zD ?_|refine zA ?_ _)); exact BK214.out) hb); have n1_ := Aside0.mk (below_step (by repeat (first|(with_reducible first|exact HB.out|apply zE|apply zB|apply zC|refine zJ ?_ GE214.out)|exact HB.out)) hb); clear BK214 HB; have BK214 := n0_; have HB := n1_; clear n0_ n1_;(try clear hb);(try clear hb2);(try clear hk);(try clear hi);(try clear hge)))
         go_ret
         exact ⟨by first|rfl|(simp [errW_none,errW_some]<;>rfl)|(simp [*,errW_none,errW_some]<;>rfl),by repeat (first|(with_reducible first|exact HB.out|apply zE|apply zB|apply zC|refine zJ ?_ GE214.out)|exact HB.out)⟩
        ·replace c36 := Bool.eq_false_iff.mpr c36
         subst c36
         have H1 : (some 2) = some r := by rw [if_neg (show ¬ (false = true) by decide)] at H; exact H
         clear H; have H := H1; clear H1
         obtain rfl := Option.some.inj H
         have hcz41_0 : wc.cell? ⟨gb214,0,none⟩ = some (.int .i64 a0_0):=(blk_cell BK214.out 0).trans rfl
         have hcz41_1 : wc.cell? ⟨gb214,1,none⟩ = some (.int .i64 a0_1):=(blk_cell BK214.out 1).trans rfl
         have hcz41_2 : wc.cell? ⟨gb214,2,none⟩ = some (.string a0_2):=(blk_cell BK214.out 2).trans rfl
         have hcz41_3 : wc.cell? ⟨gb214,3,none⟩ = some (.slice A0_3 l0_3.length c0_3):=(blk_cell BK214.out 3).trans rfl
         have hfz41_0 := blk_frozen BK214.out 0
         have hfz41_1 := blk_frozen BK214.out 1
         have hfz41_2 := blk_frozen BK214.out 2
         have hfz41_3 := blk_frozen BK214.out 3
         go_wp2_with (first|((with_reducible refine gate_callee (f := 30) rfl ?_); refine goesL_ (some 14) rfl rfl Tryz.func30 (by kernel_rfl) rfl #[.agg #[.int .i64 a0_0,.int .i64 a0_1,.string a0_2,.slice A0_3 l0_3.length c0_3]] rfl (by (try simp only [List.map_toArray,List.map_cons,List.map_nil]); first|done|rfl|(simp only [List.length_drop,List.length_take]; rfl)) ?_;(with_reducible refine (flagstoneref3_shape.calls a0_0 a0_1 a0_2 _ _ l0_3 true _ ?side1 ?side2 A8.out).mono ?_);(case side1=>repeat (first|exact (Kd.C_below HR0_3.out HB.out)|(with_reducible refine Kd.C_alloc ?_ _)|(with_reducible refine Kd.C_drewN ?_ _)|(with_reducible refine Kd.C_drew ?_)));(case side2=>exact HC0_3.out); rintro e w42 ⟨rfl,hb⟩; refine ⟨_,rfl,?_⟩; have n0_ := Aside0.mk (blk_below (g := gb214) (o := .cells #[.int .i64 a0_0,.int .i64 a0_1,.string a0_2,.slice A0_3 l0_3.length c0_3] 24 (0,0)) (by (with_reducible repeat (first|refine zN ?_ _|refine zD ?_|refine zA ?_ _)); exact BK214.out) hb); have n1_ := Aside0.mk (below_step (by repeat (first|(with_reducible first|exact HB.out|apply zE|apply zB|apply zC|refine zJ ?_ GE214.out)|exact HB.out)) hb); clear BK214 HB; have BK214 := n0_; have HB := n1_; clear n0_ n1_;(try clear hb);(try clear hb2);(try clear hk);(try clear hi);(try clear hge); have hcz43_0 : w42.cell? ⟨gb214,0,none⟩ = some (.int .i64 a0_0):=(blk_cell BK214.out 0).trans rfl; have hcz43_1 : w42.cell? ⟨gb214,1,none⟩ = some (.int .i64 a0_1):=(blk_cell BK214.out 1).trans rfl; have hcz43_2 : w42.cell? ⟨gb214,2,none⟩ = some (.string a0_2):=(blk_cell BK214.out 2).trans rfl; have hcz43_3 : w42.cell? ⟨gb214,3,none⟩ = some (.slice A0_3 l0_3.length c0_3):=(blk_cell BK214.out 3).trans rfl; have hfz43_0 := blk_frozen BK214.out 0; have hfz43_1 := blk_frozen BK214.out 1; have hfz43_2 := blk_frozen BK214.out 2; have hfz43_3 := blk_frozen BK214.out 3)|((with_reducible refine gate_callee (f := 31) rfl ?_); refine goesL_ (some 42) rfl rfl Tryz.func31 (by kernel_rfl) rfl #[.string a0_2] rfl (by (try simp only [List.map_toArray,List.map_cons,List.map_nil]); first|done|rfl|(simp only [List.length_drop,List.length_take]; rfl)) ?_;(with_reducible refine (flagstoneref1_Valid.calls kj1 a0_2 false _ ?side1 A35.out).mono ?_);(case side1=>exact GL.below HGL.out (by repeat (first|(with_reducible first|exact HB.out|apply zE|apply zB|apply zC|refine zJ ?_ GE214.out)|exact HB.out))); rintro e w44 ⟨rfl,hb⟩; refine ⟨_,rfl,?_⟩; have n0_ := Aside0.mk (blk_below (g := gb214) (o := .cells #[.int .i64 a0_0,.int .i64 a0_1,.string a0_2,.slice A0_3 l0_3.length c0_3] 24 (0,0)) (by (with_reducible repeat (first|refine zN ?_ _|refine zD ?_|refine zA ?_ _)); exact BK214.out) hb); have n1_ := Aside0.mk (below_step (by repeat (first|(with_reducible first|exact HB.out|apply zE|apply zB|apply zC|refine zJ ?_ GE214.out)|exact HB.out)) hb); clear BK214 HB; have BK214 := n0_; have HB := n1_; clear n0_ n1_;(try clear hb);(try clear hb2);(try clear hk);(try clear hi);(try clear hge)))
         go_ret
         exact ⟨by first|rfl|(simp [errW_none,errW_some]<;>rfl)|(simp [*,errW_none,errW_some]<;>rfl),by repeat (first|(with_reducible first|exact HB.out|apply zE|apply zB|apply zC|refine zJ ?_ GE214.out)|exact HB.out)⟩
       ·rw [if_neg c34] at H
        have c34b0 : (a0_0 == 3) = false := beq_eq_false_iff_ne.mpr c34
        have c34b1 : (a0_0 != 3) = true := bne_iff_ne.mpr c34
        by_cases c45 : a0_0 = 4
        ·rw [if_pos c45] at H
         have c45b0 : (a0_0 == 4) = true := beq_iff_eq.mpr c45
         have c45b1 : (a0_0 != 4) = false := bne_eq_false_iff_eq.mpr c45
         clear c45; replace H := Option.bind_eq_some_iff.mp H
         obtain ⟨⟨t217,t218,t219,t220⟩,A460,H⟩ := H
         replace H : (if t220 = true then (some 0) else (some 1)) = some r := H
         have A46 := Aside0.mk A460; clear A460
         by_cases c47 : t220 = true
         ·subst c47
          have H1 : (some 0) = some r := by rw [if_pos rfl] at H; exact H
          clear H; have H := H1; clear H1
          obtain rfl := Option.some.inj H
          have hcz48_0 : wc.cell? ⟨gb214,0,none⟩ = some (.int .i64 a0_0):=(blk_cell BK214.out 0).trans rfl
          have hcz48_1 : wc.cell? ⟨gb214,1,none⟩ = some (.int .i64 a0_1):=(blk_cell BK214.out 1).trans rfl
          have hcz48_2 : wc.cell? ⟨gb214,2,none⟩ = some (.string a0_2):=(blk_cell BK214.out 2).trans rfl
          have hcz48_3 : wc.cell? ⟨gb214,3,none⟩ = some (.slice A0_3 l0_3.length c0_3):=(blk_cell BK214.out 3).trans rfl
          have hfz48_0 := blk_frozen BK214.out 0
          have hfz48_1 := blk_frozen BK214.out 1
          have hfz48_2 := blk_frozen BK214.out 2
          have hfz48_3 := blk_frozen BK214.out 3
          go_wp2_with (first|((with_reducible refine gate_callee (f := 30) rfl ?_); refine goesL_ (some 14) rfl rfl Tryz.func30 (by kernel_rfl) rfl #[.agg #[.int .i64 a0_0,.int .i64 a0_1,.string a0_2,.slice A0_3 l0_3.length c0_3]] rfl (by (try simp only [List.map_toArray,List.map_cons,List.map_nil]); first|done|rfl|(simp only [List.length_drop,List.length_take]; rfl)) ?_;(with_reducible refine (flagstoneref3_shape.calls a0_0 a0_1 a0_2 _ _ l0_3 true _ ?side1 ?side2 A8.out).mono ?_);(case side1=>repeat (first|exact (Kd.C_below HR0_3.out HB.out)|(with_reducible refine Kd.C_alloc ?_ _)|(with_reducible refine Kd.C_drewN ?_ _)|(with_reducible refine Kd.C_drew ?_)));(case side2=>exact HC0_3.out); rintro e w49 ⟨rfl,hb⟩; refine ⟨_,rfl,?_⟩; have n0_ := Aside0.mk (blk_below (g := gb214) (o := .cells #[.int .i64 a0_0,.int .i64 a0_1,.string a0_2,.slice A0_3 l0_3.length c0_3] 24 (0,0)) (by (with_reducible repeat (first|refine zN ?_ _|refine zD ?_|refine zA ?_ _)); exact BK214.out) hb); have n1_ := Aside0.mk (below_step (by repeat (first|(with_reducible first|exact HB.out|apply zE|apply zB|apply zC|refine zJ ?_ GE214.out)|exact HB.out)) hb); clear BK214 HB; have BK214 := n0_; have HB := n1_; clear n0_ n1_;(try clear hb);(try clear hb2);(try clear hk);(try clear hi);(try clear hge); have hcz50_0 : w49.cell? ⟨gb214,0,none⟩ = some (.int .i64 a0_0):=(blk_cell BK214.out 0).trans rfl; have hcz50_1 : w49.cell? ⟨gb214,1,none⟩ = some (.int .i64 a0_1):=(blk_cell BK214.out 1).trans rfl; have hcz50_2 : w49.cell? ⟨gb214,2,none⟩ = some (.string a0_2):=(blk_cell BK214.out 2).trans rfl; have hcz50_3 : w49.cell? ⟨gb214,3,none⟩ = some (.slice A0_3 l0_3.length c0_3):=(blk_cell BK214.out 3).trans rfl; have hfz50_0 := blk_frozen BK214.out 0; have hfz50_1 := blk_frozen BK214.out 1; have hfz50_2 := blk_frozen BK214.out 2; have hfz50_3 := blk_frozen BK214.out 3)|((with_reducible refine gate_callee (f := 32) rfl ?_); refine goesL_ (some 49) rfl rfl Tryz.func32 (by kernel_rfl) rfl #[.string a0_2] rfl (by (try simp only [List.map_toArray,List.map_cons,List.map_nil]); first|done|rfl|(simp only [List.length_drop,List.length_take]; rfl)) ?_;(with_reducible refine (flagstoneref3_parts.calls a0_2 t217 t218 t219 true _ A46.out).mono ?_); rintro e w51 ⟨rfl,hb⟩; refine ⟨_,rfl,?_⟩; have n0_ := Aside0.mk (blk_below (g := gb214) (o := .cells #[.int .i64 a0_0,.int .i64 a0_1,.string a0_2,.slice A0_3 l0_3.length c0_3] 24 (0,0)) (by (with_reducible repeat (first|refine zN ?_ _|refine zD ?_|refine zA ?_ _)); exact BK214.out) hb); have n1_ := Aside0.mk (below_step (by repeat (first|(with_reducible first|exact HB.out|apply zE|apply zB|apply zC|refine zJ ?_ GE214.out)|exact HB.out)) hb); clear BK214 HB; have BK214 := n0_; have HB := n1_; clear n0_ n1_;(try clear hb);(try clear hb2);(try clear hk);(try clear hi);(try clear hge))|((with_reducible refine gate_dst (N := 3) rfl ?_); refine box_event ?hg (N := 3) ?hd (cs := #[.int .i64 0,.int .i64 0,.int .i64 0]) (t := 54) ?hr ?_;(case hd=>rfl);(case hg=>rfl);(case hr=>first|(go_simp; done)|(go_simp; rfl)); intro gb221 hg w52 hbox hb; have n0_ := Aside0.mk (blk_below (g := gb214) (o := .cells #[.int .i64 a0_0,.int .i64 a0_1,.string a0_2,.slice A0_3 l0_3.length c0_3] 24 (0,0)) (by (with_reducible repeat (first|refine zN ?_ _|refine zD ?_|refine zA ?_ _)); exact BK214.out) hb); have n1_ := Aside0.mk (below_step (by repeat (first|(with_reducible first|exact HB.out|apply zE|apply zB|apply zC|refine zJ ?_ GE214.out)|exact HB.out)) hb); have n2_ := Aside0.mk (hbox); have n3_ := Aside0.mk ((by rw [hg]; exact (below_size (by repeat (first|(with_reducible first|exact HB.out|apply zE|apply zB|apply zC|refine zJ ?_ GE214.out)|exact HB.out))) : w.heap.size ≤ gb221)); have n4_ := Aside0.mk ((by rw [hg]; exact (below_size (by repeat (first|(with_reducible first|exact HB.out|apply zE|apply zB|apply zC|refine zJ ?_ GE214.out)|exact HB.out))) : w.heap.size ≤ gb221)); have n5_ := Aside0.mk ((by rw [hg]; exact Nat.ne_of_lt (blk_lt (g := gb214) (o := .cells #[.int .i64 a0_0,.int .i64 a0_1,.string a0_2,.slice A0_3 l0_3.length c0_3] 24 (0,0)) (by (with_reducible repeat (first|refine zN ?_ _|refine zD ?_|refine zA ?_ _)); exact BK214.out)) : gb214 ≠ gb221)); have n6_ := Aside0.mk ((by rw [hg]; exact Nat.ne_of_gt (blk_lt (g := gb214) (o := .cells #[.int .i64 a0_0,.int .i64 a0_1,.string a0_2,.slice A0_3 l0_3.length c0_3] 24 (0,0)) (by (with_reducible repeat (first|refine zN ?_ _|refine zD ?_|refine zA ?_ _)); exact BK214.out)) : gb221 ≠ gb214)); clear BK214 HB; have BK214 := n0_; have HB := n1_; have BK221 := n2_; have GW221 := n3_; have GE221 := n4_; have NB214_221 := n5_; have NB221_214 := n6_; clear n0_ n1_ n2_ n3_ n4_ n5_ n6_ hb hbox hg; have hnb53 := NB221_214.out; have hnc53 := NB214_221.out; have hcz54_0 : w52.cell? ⟨gb221,0,none⟩ = some (.int .i64 0):=(blk_cell BK221.out 0).trans rfl; have hcz54_1 : w52.cell? ⟨gb221,1,none⟩ = some (.int .i64 0):=(blk_cell BK221.out 1).trans rfl; have hcz54_2 : w52.cell? ⟨gb221,2,none⟩ = some (.int .i64 0):=(blk_cell BK221.out 2).trans rfl; have hfz54_0 := blk_frozen BK221.out 0; have hfz54_1 := blk_frozen BK221.out 1; have hfz54_2 := blk_frozen BK221.out 2))
          go_ret
          exact ⟨by first|rfl|(simp [errW_none,errW_some]<;>rfl)|(simp [*,errW_none,errW_some]<;>rfl),by repeat (first|(with_reducible first|exact HB.out|apply zE|apply zB|apply zC|refine zJ ?_ GE214.out|refine zJ ?_ GE221.out)|exact HB.out)⟩
         ·replace c47 := Bool.eq_false_iff.mpr c47
          subst c47
          have H1 : (some 1) = some r := by rw [if_neg (show ¬ (false = true) by decide)] at H; exact H
          clear H; have H := H1; clear H1
          obtain rfl := Option.some.inj H
          have hcz55_0 : wc.cell? ⟨gb214,0,none⟩ = some (.int .i64 a0_0):=(blk_cell BK214.out 0).trans rfl
          have hcz55_1 : wc.cell? ⟨gb214,1,none⟩ = some (.int .i64 a0_1):=(blk_cell BK214.out 1).trans rfl
          have hcz55_2 : wc.cell? ⟨gb214,2,none⟩ = some (.string a0_2):=(blk_cell BK214.out 2).trans rfl
          have hcz55_3 : wc.cell? ⟨gb214,3,none⟩ = some (.slice A0_3 l0_3.length c0_3):=(blk_cell BK214.out 3).trans rfl
          have hfz55_0 := blk_frozen BK214.out 0
          have hfz55_1 := blk_frozen BK214.out 1
          have hfz55_2 := blk_frozen BK214.out 2
          have hfz55_3 := blk_frozen BK214.out 3
          go_wp2_with (first|((with_reducible refine gate_callee (f := 30) rfl ?_); refine goesL_ (some 14) rfl rfl Tryz.func30 (by kernel_rfl) rfl #[.agg #[.int .i64 a0_0,.int .i64 a0_1,.string a0_2,.slice A0_3 l0_3.length c0_3]] rfl (by (try simp only [List.map_toArray,List.map_cons,List.map_nil]); first|done|rfl|(simp only [List.length_drop,List.length_take]; rfl)) ?_;(with_reducible refine (flagstoneref3_shape.calls a0_0 a0_1 a0_2 _ _ l0_3 true _ ?side1 ?side2 A8.out).mono ?_);(case side1=>repeat (first|exact (Kd.C_below HR0_3.out HB.out)|(with_reducible refine Kd.C_alloc ?_ _)|(with_reducible refine Kd.C_drewN ?_ _)|(with_reducible refine Kd.C_drew ?_)));(case side2=>exact HC0_3.out); rintro e w56 ⟨rfl,hb⟩; refine ⟨_,rfl,?_⟩; have n0_ := Aside0.mk (blk_below (g := gb214) (o := .cells #[.int .i64 a0_0,.int .i64 a0_1,.string a0_2,.slice A0_3 l0_3.length c0_3] 24 (0,0)) (by (with_reducible repeat (first|refine zN ?_ _|refine zD ?_|refine zA ?_ _)); exact BK214.out) hb); have n1_ := Aside0.mk (below_step (by repeat (first|(with_reducible first|exact HB.out|apply zE|apply zB|apply zC|refine zJ ?_ GE214.out)|exact HB.out)) hb); clear BK214 HB; have BK214 := n0_; have HB := n1_; clear n0_ n1_;(try clear hb);(try clear hb2);(try clear hk);(try clear hi);(try clear hge); have hcz57_0 : w56.cell? ⟨gb214,0,none⟩ = some (.int .i64 a0_0):=(blk_cell BK214.out 0).trans rfl; have hcz57_1 : w56.cell? ⟨gb214,1,none⟩ = some (.int .i64 a0_1):=(blk_cell BK214.out 1).trans rfl; have hcz57_2 : w56.cell? ⟨gb214,2,none⟩ = some (.string a0_2):=(blk_cell BK214.out 2).trans rfl; have hcz57_3 : w56.cell? ⟨gb214,3,none⟩ = some (.slice A0_3 l0_3.length c0_3):=(blk_cell BK214.out 3).trans rfl; have hfz57_0 := blk_frozen BK214.out 0; have hfz57_1 := blk_frozen BK214.out 1; have hfz57_2 := blk_frozen BK214.out 2; have hfz57_3 := blk_frozen BK214.out 3)|((with_reducible refine gate_callee (f := 32) rfl ?_); refine goesL_ (some 49) rfl rfl Tryz.func32 (by kernel_rfl) rfl #[.string a0_2] rfl (by (try simp only [List.map_toArray,List.map_cons,List.map_nil]); first|done|rfl|(simp only [List.length_drop,List.length_take]; rfl)) ?_;(with_reducible refine (flagstoneref3_parts.calls a0_2 t217 t218 t219 false _ A46.out).mono ?_); rintro e w58 ⟨rfl,hb⟩; refine ⟨_,rfl,?_⟩; have n0_ := Aside0.mk (blk_below (g := gb214) (o := .cells #[.int .i64 a0_0,.int .i64 a0_1,.string a0_2,.slice A0_3 l0_3.length c0_3] 24 (0,0)) (by (with_reducible repeat (first|refine zN ?_ _|refine zD ?_|refine zA ?_ _)); exact BK214.out) hb); have n1_ := Aside0.mk (below_step (by repeat (first|(with_reducible first|exact HB.out|apply zE|apply zB|apply zC|refine zJ ?_ GE214.out)|exact HB.out)) hb); clear BK214 HB; have BK214 := n0_; have HB := n1_; clear n0_ n1_;(try clear hb);(try clear hb2);(try clear hk);(try clear hi);(try clear hge))|((with_reducible refine gate_dst (N := 3) rfl ?_); refine box_event ?hg (N := 3) ?hd (cs := #[.int .i64 0,.int .i64 0,.int .i64 0]) (t := 54) ?hr ?_;(case hd=>rfl);(case hg=>rfl);(case hr=>first|(go_simp; done)|(go_simp; rfl)); intro gb221 hg w59 hbox hb; have n0_ := Aside0.mk (blk_below (g := gb214) (o := .cells #[.int .i64 a0_0,.int .i64 a0_1,.string a0_2,.slice A0_3 l0_3.length c0_3] 24 (0,0)) (by (with_reducible repeat (first|refine zN ?_ _|refine zD ?_|refine zA ?_ _)); exact BK214.out) hb); have n1_ := Aside0.mk (below_step (by repeat (first|(with_reducible first|exact HB.out|apply zE|apply zB|apply zC|refine zJ ?_ GE214.out)|exact HB.out)) hb); have n2_ := Aside0.mk (hbox); have n3_ := Aside0.mk ((by rw [hg]; exact (below_size (by repeat (first|(with_reducible first|exact HB.out|apply zE|apply zB|apply zC|refine zJ ?_ GE214.out)|exact HB.out))) : w.heap.size ≤ gb221)); have n4_ := Aside0.mk ((by rw [hg]; exact (below_size (by repeat (first|(with_reducible first|exact HB.out|apply zE|apply zB|apply zC|refine zJ ?_ GE214.out)|exact HB.out))) : w.heap.size ≤ gb221)); have n5_ := Aside0.mk ((by rw [hg]; exact Nat.ne_of_lt (blk_lt (g := gb214) (o := .cells #[.int .i64 a0_0,.int .i64 a0_1,.string a0_2,.slice A0_3 l0_3.length c0_3] 24 (0,0)) (by (with_reducible repeat (first|refine zN ?_ _|refine zD ?_|refine zA ?_ _)); exact BK214.out)) : gb214 ≠ gb221)); have n6_ := Aside0.mk ((by rw [hg]; exact Nat.ne_of_gt (blk_lt (g := gb214) (o := .cells #[.int .i64 a0_0,.int .i64 a0_1,.string a0_2,.slice A0_3 l0_3.length c0_3] 24 (0,0)) (by (with_reducible repeat (first|refine zN ?_ _|refine zD ?_|refine zA ?_ _)); exact BK214.out)) : gb221 ≠ gb214)); clear BK214 HB; have BK214 := n0_; have HB := n1_; have BK221 := n2_; have GW221 := n3_; have GE221 := n4_; have NB214_221 := n5_; have NB221_214 := n6_; clear n0_ n1_ n2_ n3_ n4_ n5_ n6_ hb hbox hg; have hnb60 := NB221_214.out; have hnc60 := NB214_221.out; have hcz61_0 : w59.cell? ⟨gb221,0,none⟩ = some (.int .i64 0):=(blk_cell BK221.out 0).trans rfl; have hcz61_1 : w59.cell? ⟨gb221,1,none⟩ = some (.int .i64 0):=(blk_cell BK221.out 1).trans rfl; have hcz61_2 : w59.cell? ⟨gb221,2,none⟩ = some (.int .i64 0):=(blk_cell BK221.out 2).trans rfl; have hfz61_0 := blk_frozen BK221.out 0; have hfz61_1 := blk_frozen BK221.out 1; have hfz61_2 := blk_frozen BK221.out 2))
          go_ret
          exact ⟨by first|rfl|(simp [errW_none,errW_some]<;>rfl)|(simp [*,errW_none,errW_some]<;>rfl),by repeat (first|(with_reducible first|exact HB.out|apply zE|apply zB|apply zC|refine zJ ?_ GE214.out|refine zJ ?_ GE221.out)|exact HB.out)⟩
        ·rw [if_neg c45] at H
         have c45b0 : (a0_0 == 4) = false := beq_eq_false_iff_ne.mpr c45
         have c45b1 : (a0_0 != 4) = true := bne_iff_ne.mpr c45
         by_cases c62 : a0_0 = 5
         ·rw [if_pos c62] at H
          have c62b0 : (a0_0 == 5) = true := beq_iff_eq.mpr c62
          have c62b1 : (a0_0 != 5) = false := bne_eq_false_iff_eq.mpr c62
          clear c62; replace H := Option.bind_eq_some_iff.mp H; obtain ⟨t222,A630,H⟩ := H
          replace H : (some t222) = some r := H
          have A63 := Aside0.mk A630; clear A630
          obtain rfl := Option.some.inj H
          have hcz64_0 : wc.cell? ⟨gb214,0,none⟩ = some (.int .i64 a0_0):=(blk_cell BK214.out 0).trans rfl
          have hcz64_1 : wc.cell? ⟨gb214,1,none⟩ = some (.int .i64 a0_1):=(blk_cell BK214.out 1).trans rfl
          have hcz64_2 : wc.cell? ⟨gb214,2,none⟩ = some (.string a0_2):=(blk_cell BK214.out 2).trans rfl
          have hcz64_3 : wc.cell? ⟨gb214,3,none⟩ = some (.slice A0_3 l0_3.length c0_3):=(blk_cell BK214.out 3).trans rfl
          have hfz64_0 := blk_frozen BK214.out 0
          have hfz64_1 := blk_frozen BK214.out 1
          have hfz64_2 := blk_frozen BK214.out 2
          have hfz64_3 := blk_frozen BK214.out 3
          go_wp2_with (first|((with_reducible refine gate_callee (f := 30) rfl ?_); refine goesL_ (some 14) rfl rfl Tryz.func30 (by kernel_rfl) rfl #[.agg #[.int .i64 a0_0,.int .i64 a0_1,.string a0_2,.slice A0_3 l0_3.length c0_3]] rfl (by (try simp only [List.map_toArray,List.map_cons,List.map_nil]); first|done|rfl|(simp only [List.length_drop,List.length_take]; rfl)) ?_;(with_reducible refine (flagstoneref3_shape.calls a0_0 a0_1 a0_2 _ _ l0_3 true _ ?side1 ?side2 A8.out).mono ?_);(case side1=>repeat (first|exact (Kd.C_below HR0_3.out HB.out)|(with_reducible refine Kd.C_alloc ?_ _)|(with_reducible refine Kd.C_drewN ?_ _)|(with_reducible refine Kd.C_drew ?_)));(case side2=>exact HC0_3.out); rintro e w65 ⟨rfl,hb⟩; refine ⟨_,rfl,?_⟩; have n0_ := Aside0.mk (blk_below (g := gb214) (o := .cells #[.int .i64 a0_0,.int .i64 a0_1,.string a0_2,.slice A0_3 l0_3.length c0_3] 24 (0,0)) (by (with_reducible repeat (first|refine zN ?_ _|refine zD ?_|refine zA ?_ _)); exact BK214.out) hb); have n1_ := Aside0.mk (below_step (by repeat (first|(with_reducible first|exact HB.out|apply zE|apply zB|apply zC|refine zJ ?_ GE214.out)|exact HB.out)) hb); clear BK214 HB; have BK214 := n0_; have HB := n1_; clear n0_ n1_;(try clear hb);(try clear hb2);(try clear hk);(try clear hi);(try clear hge); have hcz66_0 : w65.cell? ⟨gb214,0,none⟩ = some (.int .i64 a0_0):=(blk_cell BK214.out 0).trans rfl; have hcz66_1 : w65.cell? ⟨gb214,1,none⟩ = some (.int .i64 a0_1):=(blk_cell BK214.out 1).trans rfl; have hcz66_2 : w65.cell? ⟨gb214,2,none⟩ = some (.string a0_2):=(blk_cell BK214.out 2).trans rfl; have hcz66_3 : w65.cell? ⟨gb214,3,none⟩ = some (.slice A0_3 l0_3.length c0_3):=(blk_cell BK214.out 3).trans rfl; have hfz66_0 := blk_frozen BK214.out 0; have hfz66_1 := blk_frozen BK214.out 1; have hfz66_2 := blk_frozen BK214.out 2; have hfz66_3 := blk_frozen BK214.out 3)|((with_reducible refine gate_callee (f := 33) rfl ?_); refine goesL_ (some 58) rfl rfl Tryz.func33 (by kernel_rfl) rfl #[.slice A0_3 l0_3.length c0_3] rfl (by (try simp only [List.map_toArray,List.map_cons,List.map_nil]); first|done|rfl|(simp only [List.length_drop,List.length_take]; rfl)) ?_;(with_reducible refine (flagstoneref3_list.calls kj1 _ _ l0_3 t222 _ ?side1 ?side2 ?side3 A63.out).mono ?_);(case side1=>repeat (first|exact (Kd.C_below HR0_3.out HB.out)|(with_reducible refine Kd.C_alloc ?_ _)|(with_reducible refine Kd.C_drewN ?_ _)|(with_reducible refine Kd.C_drew ?_)));(case side2=>exact HC0_3.out);(case side3=>exact GL.below HGL.out (by repeat (first|(with_reducible first|exact HB.out|apply zE|apply zB|apply zC|refine zJ ?_ GE214.out)|exact HB.out))); rintro e w67 ⟨rfl,hb⟩; refine ⟨_,rfl,?_⟩; have n0_ := Aside0.mk (blk_below (g := gb214) (o := .cells #[.int .i64 a0_0,.int .i64 a0_1,.string a0_2,.slice A0_3 l0_3.length c0_3] 24 (0,0)) (by (with_reducible repeat (first|refine zN ?_ _|refine zD ?_|refine zA ?_ _)); exact BK214.out) hb); have n1_ := Aside0.mk (below_step (by repeat (first|(with_reducible first|exact HB.out|apply zE|apply zB|apply zC|refine zJ ?_ GE214.out)|exact HB.out)) hb); clear BK214 HB; have BK214 := n0_; have HB := n1_; clear n0_ n1_;(try clear hb);(try clear hb2);(try clear hk);(try clear hi);(try clear hge)))
          go_ret
          exact ⟨by first|rfl|(simp [errW_none,errW_some]<;>rfl)|(simp [*,errW_none,errW_some]<;>rfl),by repeat (first|(with_reducible first|exact HB.out|apply zE|apply zB|apply zC|refine zJ ?_ GE214.out)|exact HB.out)⟩
         ·rw [if_neg c62] at H
          have c62b0 : (a0_0 == 5) = false := beq_eq_false_iff_ne.mpr c62
          have c62b1 : (a0_0 != 5) = true := bne_iff_ne.mpr c62
          obtain rfl := Option.some.inj H
          have hcz68_0 : wc.cell? ⟨gb214,0,none⟩ = some (.int .i64 a0_0):=(blk_cell BK214.out 0).trans rfl
          have hcz68_1 : wc.cell? ⟨gb214,1,none⟩ = some (.int .i64 a0_1):=(blk_cell BK214.out 1).trans rfl
          have hcz68_2 : wc.cell? ⟨gb214,2,none⟩ = some (.string a0_2):=(blk_cell BK214.out 2).trans rfl
          have hcz68_3 : wc.cell? ⟨gb214,3,none⟩ = some (.slice A0_3 l0_3.length c0_3):=(blk_cell BK214.out 3).trans rfl
          have hfz68_0 := blk_frozen BK214.out 0
          have hfz68_1 := blk_frozen BK214.out 1
          have hfz68_2 := blk_frozen BK214.out 2
          have hfz68_3 := blk_frozen BK214.out 3
          go_wp2_with (first|((with_reducible refine gate_callee (f := 30) rfl ?_); refine goesL_ (some 14) rfl rfl Tryz.func30 (by kernel_rfl) rfl #[.agg #[.int .i64 a0_0,.int .i64 a0_1,.string a0_2,.slice A0_3 l0_3.length c0_3]] rfl (by (try simp only [List.map_toArray,List.map_cons,List.map_nil]); first|done|rfl|(simp only [List.length_drop,List.length_take]; rfl)) ?_;(with_reducible refine (flagstoneref3_shape.calls a0_0 a0_1 a0_2 _ _ l0_3 true _ ?side1 ?side2 A8.out).mono ?_);(case side1=>repeat (first|exact (Kd.C_below HR0_3.out HB.out)|(with_reducible refine Kd.C_alloc ?_ _)|(with_reducible refine Kd.C_drewN ?_ _)|(with_reducible refine Kd.C_drew ?_)));(case side2=>exact HC0_3.out); rintro e w69 ⟨rfl,hb⟩; refine ⟨_,rfl,?_⟩; have n0_ := Aside0.mk (blk_below (g := gb214) (o := .cells #[.int .i64 a0_0,.int .i64 a0_1,.string a0_2,.slice A0_3 l0_3.length c0_3] 24 (0,0)) (by (with_reducible repeat (first|refine zN ?_ _|refine zD ?_|refine zA ?_ _)); exact BK214.out) hb); have n1_ := Aside0.mk (below_step (by repeat (first|(with_reducible first|exact HB.out|apply zE|apply zB|apply zC|refine zJ ?_ GE214.out)|exact HB.out)) hb); clear BK214 HB; have BK214 := n0_; have HB := n1_; clear n0_ n1_;(try clear hb);(try clear hb2);(try clear hk);(try clear hi);(try clear hge); have hcz70_0 : w69.cell? ⟨gb214,0,none⟩ = some (.int .i64 a0_0):=(blk_cell BK214.out 0).trans rfl; have hcz70_1 : w69.cell? ⟨gb214,1,none⟩ = some (.int .i64 a0_1):=(blk_cell BK214.out 1).trans rfl; have hcz70_2 : w69.cell? ⟨gb214,2,none⟩ = some (.string a0_2):=(blk_cell BK214.out 2).trans rfl; have hcz70_3 : w69.cell? ⟨gb214,3,none⟩ = some (.slice A0_3 l0_3.length c0_3):=(blk_cell BK214.out 3).trans rfl; have hfz70_0 := blk_frozen BK214.out 0; have hfz70_1 := blk_frozen BK214.out 1; have hfz70_2 := blk_frozen BK214.out 2; have hfz70_3 := blk_frozen BK214.out 3))
          go_ret
          exact ⟨by first|rfl|(simp [errW_none,errW_some]<;>rfl)|(simp [*,errW_none,errW_some]<;>rfl),by repeat (first|(with_reducible first|exact HB.out|apply zE|apply zB|apply zC|refine zJ ?_ GE214.out)|exact HB.out)⟩
    ·replace c9 := Bool.eq_false_iff.mpr c9
     subst c9
     have H1 : (some 15) = some r := by rw [if_neg (show ¬ (false = true) by decide)] at H; exact H
     clear H; have H := H1; clear H1
     obtain rfl := Option.some.inj H
     have hcz71_0 : wc.cell? ⟨gb214,0,none⟩ = some (.int .i64 a0_0):=(blk_cell BK214.out 0).trans rfl
     have hcz71_1 : wc.cell? ⟨gb214,1,none⟩ = some (.int .i64 a0_1):=(blk_cell BK214.out 1).trans rfl
     have hcz71_2 : wc.cell? ⟨gb214,2,none⟩ = some (.string a0_2):=(blk_cell BK214.out 2).trans rfl
     have hcz71_3 : wc.cell? ⟨gb214,3,none⟩ = some (.slice A0_3 l0_3.length c0_3):=(blk_cell BK214.out 3).trans rfl
     have hfz71_0 := blk_frozen BK214.out 0
     have hfz71_1 := blk_frozen BK214.out 1
     have hfz71_2 := blk_frozen BK214.out 2
     have hfz71_3 := blk_frozen BK214.out 3
     go_wp2_with (first|((with_reducible refine gate_callee (f := 30) rfl ?_); refine goesL_ (some 14) rfl rfl Tryz.func30 (by kernel_rfl) rfl #[.agg #[.int .i64 a0_0,.int .i64 a0_1,.string a0_2,.slice A0_3 l0_3.length c0_3]] rfl (by (try simp only [List.map_toArray,List.map_cons,List.map_nil]); first|done|rfl|(simp only [List.length_drop,List.length_take]; rfl)) ?_;(with_reducible refine (flagstoneref3_shape.calls a0_0 a0_1 a0_2 _ _ l0_3 false _ ?side1 ?side2 A8.out).mono ?_);(case side1=>repeat (first|exact (Kd.C_below HR0_3.out HB.out)|(with_reducible refine Kd.C_alloc ?_ _)|(with_reducible refine Kd.C_drewN ?_ _)|(with_reducible refine Kd.C_drew ?_)));(case side2=>exact HC0_3.out); rintro e w72 ⟨rfl,hb⟩; refine ⟨_,rfl,?_⟩; have n0_ := Aside0.mk (blk_below (g := gb214) (o := .cells #[.int .i64 a0_0,.int .i64 a0_1,.string a0_2,.slice A0_3 l0_3.length c0_3] 24 (0,0)) (by (with_reducible repeat (first|refine zN ?_ _|refine zD ?_|refine zA ?_ _)); exact BK214.out) hb); have n1_ := Aside0.mk (below_step (by repeat (first|(with_reducible first|exact HB.out|apply zE|apply zB|apply zC|refine zJ ?_ GE214.out)|exact HB.out)) hb); clear BK214 HB; have BK214 := n0_; have HB := n1_; clear n0_ n1_;(try clear hb);(try clear hb2);(try clear hk);(try clear hi);(try clear hge)))
     go_ret
     exact ⟨by first|rfl|(simp [errW_none,errW_some]<;>rfl)|(simp [*,errW_none,errW_some]<;>rfl),by repeat (first|(with_reducible first|exact HB.out|apply zE|apply zB|apply zC|refine zJ ?_ GE214.out)|exact HB.out)⟩

/-! ### flagstoneref1_Number: function 37 -/
def dgt (x : Nat) : UInt8 := UInt8.ofNat (48 + x)
theorem enc_digit : ∀ e : Fin 10, Utf8.encode (48 + (e.val : Int)) = ⟨#[dgt e.val]⟩ := by decide +kernel
theorem bytes_cons (c : UInt8) (s : List UInt8) : (⟨#[c]⟩ : ByteArray) ++ ⟨s.toArray⟩ = ⟨(c :: s).toArray⟩ := by
 apply ByteArray.ext
 simp
theorem numL_len {n : Int} (hz : n ≠ 0) (h0 : -9223372036854775808 ≤ n) (h1 : n ≤ 9223372036854775807) : (Num.numL n.natAbs).length ≤ 21 := by
 have h := Lib.itoa_length_le n h0 h1
 rw [Num.itoa_eq hz,List.length_append] at h
 omega
set_option maxHeartbeats 4000000 in
set_option maxRecDepth 100000 in
theorem refnumber_any (n : Int) (h0 : -9223372036854775808 ≤ n) (h1 : n ≤ 9223372036854775807) (w : World) :
  Calls Tryz.prog 37 #[.int .i64 n] w fun e w'=>e = .returned (.string ⟨(Lib.itoa n).toArray⟩) ∧ Drawn0 w w' := by
 by_cases hz : n = 0
 ·subst hz
  have hi : Lib.itoa 0 = [48] := by decide +kernel
  rw [hi]
  go_enter Tryz.func37,Tryz.ntmps37
  go_wp2_with fail
  go_ret
  exact ⟨rfl,Drawn0.refl _⟩
 have hzb : (n == 0) = false := by simpa using hz
 have hlen := numL_len hz h0 h1
 have hitoa := Aside0.mk (Num.itoa_eq hz)
 go_enter Tryz.func37,Tryz.ntmps37
 go_wp2_with fail
 go_loop [0,3] (fun a b=>∃ (m : Int) (s : List UInt8),a = .int .i64 m ∧ b = .string ⟨s.toArray⟩ ∧ (m < 0 → n < 0) ∧ (0 < m → 0 < n) ∧ Aside0 (Num.numL m.natAbs ++ s = Num.numL n.natAbs) ∧ -9223372036854775808 ≤ m ∧ m ≤ 9223372036854775807) (fun a _=>(intOf a).natAbs)
 case atStart=>exact ⟨n,[],rfl,rfl,id,id,⟨by simp⟩,h0,h1⟩
 case round =>
  obtain ⟨m,s,rfl,rfl,g1,g2,g3,g4,g5⟩ := hrel
  have hs : s.length ≤ 21 := by
   have := congrArg List.length g3.out
   rw [List.length_append] at this
   omega
  by_cases hm : m = 0
  ·subst hm
   have g6 : Aside0 (s = Num.numL n.natAbs):=⟨by have := g3.out; simpa [Num.numL] using this⟩
   by_cases hneg : n < 0
   ·have hd := decide_eq_true hneg
    have hcap : ¬ 9223372036854775807 < 1 + s.length := by omega
    go_wp2_with fail
    go_ret
    refine ⟨?_,Drawn0.refl _⟩
    rw [hitoa.out,if_pos hneg,← g6.out]
    exact congrArg (fun z=>Ending.returned (Value.string z)) (bytes_cons 45 s)
   ·have hd := decide_eq_false hneg
    go_wp2_with fail
    go_ret
    refine ⟨?_,Drawn0.refl _⟩
    rw [hitoa.out,if_neg (show ¬ n < 0 by omega),← g6.out]
    rfl
  ·have hmb : (m == 0) = false := by simpa using hm
   have hmn : (m != 0) = true := by simpa using hm
   have hstep := Aside0.mk (Num.numL_step (u := m.natAbs) (by omega))
   have hq : m.tdiv 10 < 0 ∨ 0 ≤ m.tdiv 10 := by omega
   have hcap : ¬ 9223372036854775807 < 1 + s.length := by omega
   have hq1 : (m.tdiv 10).natAbs = m.natAbs / 10 := Int.natAbs_tdiv ..
   have hq2 : 0 < m → 0 ≤ m.tdiv 10 := fun h=>Int.tdiv_nonneg (by omega) (by omega)
   have hq3 : m < 0 → m.tdiv 10 ≤ 0 := fun h=>by
    have := Int.tdiv_nonneg (a := -m) (b := 10) (by omega) (by omega)
    rw [Int.neg_tdiv] at this
    omega
   have hrel2 : (m.tdiv 10 < 0 → n < 0) ∧ (0 < m.tdiv 10 → 0 < n) ∧ -9223372036854775808 ≤ m.tdiv 10 ∧ m.tdiv 10 ≤ 9223372036854775807 := by
    refine ⟨fun h=>g1 (by omega),fun h=>g2 (by omega),by omega,by omega⟩
   have hmeas : (m.tdiv 10).natAbs < m.natAbs := by rw [hq1]; omega
   have hR := Aside0.mk hrel2; have hM := Aside0.mk hmeas; have hQ := Aside0.mk hq1
   have hwq := Aside0.mk (show wrap64 (m.tdiv 10) = m.tdiv 10 by unfold wrap64; omega)
   have hr0 : (m.tmod 10).natAbs = m.natAbs % 10 := Int.natAbs_tmod ..
   obtain ⟨e,he⟩ : ∃ e : Fin 10,e.val = m.natAbs % 10:=⟨⟨m.natAbs % 10,by omega⟩,rfl⟩
   have henc := enc_digit e; clear hq hq1 hq2 hq3 hrel2 hmeas
   by_cases hd : m.tmod 10 < 0
   ·have hw : Utf8.encode (wrap32 (wrap64 (48 + wrap64 (-m.tmod 10)))) = ⟨#[dgt (m.natAbs % 10)]⟩ := by
     have h48 : wrap32 (wrap64 (48 + wrap64 (-m.tmod 10))) = 48 + (e.val : Int) := by unfold wrap32 wrap64; omega
     rw [h48,henc,he]
    clear hr0 henc he
    go_wp2_with fail
    go_round
    case measure=>simpa [intOf] using hM.out
    case rel =>
     refine ⟨m.tdiv 10,dgt (m.natAbs % 10) :: s,rfl,congrArg Value.string (bytes_cons _ s),hR.out.1,hR.out.2.1,⟨?_⟩,hR.out.2.2.1,hR.out.2.2.2⟩
     rw [hQ.out,← g3.out,← hstep.out,List.append_assoc]
     rfl
   ·have hd2 : 0 ≤ m.tmod 10 := by omega
    have hw : Utf8.encode (wrap32 (wrap64 (48 + m.tmod 10))) = ⟨#[dgt (m.natAbs % 10)]⟩ := by
     have h48 : wrap32 (wrap64 (48 + m.tmod 10)) = 48 + (e.val : Int) := by unfold wrap32 wrap64; omega
     rw [h48,henc,he]
    clear hr0 henc he
    go_wp2_with fail
    go_round
    case measure=>simpa [intOf] using hM.out
    case rel =>
     refine ⟨m.tdiv 10,dgt (m.natAbs % 10) :: s,rfl,congrArg Value.string (bytes_cons _ s),hR.out.1,hR.out.2.1,⟨?_⟩,hR.out.2.2.1,hR.out.2.2.2⟩
     rw [hQ.out,← g3.out,← hstep.out,List.append_assoc]
     rfl
def flagstoneref1_Number.f (a0 : Int) : Option ByteArray := if -9223372036854775808 ≤ a0 ∧ a0 ≤ 9223372036854775807 then some ⟨(Lib.itoa a0).toArray⟩ else none
theorem flagstoneref1_Number.calls (a0 : Int) (r : ByteArray) (w : World) (h : flagstoneref1_Number.f a0 = some r) :
  Calls Tryz.prog 37 #[.int .i64 a0] w fun e w'=>e = .returned (.string r) ∧ Drawn0 w w' := by
 unfold flagstoneref1_Number.f at h
 split at h
 ·rename_i hb
  obtain rfl := Option.some.inj h
  exact refnumber_any a0 hb.1 hb.2 w
 ·cases h

/-! ### flagstoneref1_Quote: function 38 -/
def flagstoneref1_Quote.l0 : Nat → ByteArray → List Int → Int → Option (ByteArray × Int)
 | 0,_,_,_=>none
 | k + 1,x0,x4,x5=>if x5 < (x0.size : Int) then (if 0 ≤ x5 then (if (bt x0 x5) = 34 then (if x4.length < 140737488355328 then ((some (x4 ++ [92] : List Int)).bind fun y227=>(if y227.length < 140737488355328 then (flagstoneref1_Quote.l0 k x0 (y227 ++ [bt x0 x5]) (wrap64 (x5 + 1))) else (none))) else (none)) else (if (bt x0 x5) = 92 then (if x4.length < 140737488355328 then ((some (x4 ++ [92] : List Int)).bind fun y233=>(if y233.length < 140737488355328 then (flagstoneref1_Quote.l0 k x0 (y233 ++ [bt x0 x5]) (wrap64 (x5 + 1))) else (none))) else (none)) else (if x4.length < 140737488355328 then (flagstoneref1_Quote.l0 k x0 (x4 ++ [bt x0 x5]) (wrap64 (x5 + 1))) else (none)))) else (none)) else (if x4.length < 140737488355328 then (some (strOfNums (x4 ++ [34]),0)) else (none))
def flagstoneref1_Quote.f (k : Nat) (a0 : ByteArray) : Option (ByteArray × Int) := (flagstoneref1_Valid.f k a0).bind fun t223 => (if t223 = true then (flagstoneref1_Quote.l0 k a0 (([34] : List Int)) 0) else (some ((⟨#[]⟩ : ByteArray), 2)))
theorem flagstoneref1_Quote.mono_l : ∀ k, (∀ y0 y1 y2, LeO (flagstoneref1_Quote.l0 k y0 y1 y2) (flagstoneref1_Quote.l0 (k + 1) y0 y1 y2))
 | 0=>fun _ _ _ r h=>by simp [flagstoneref1_Quote.l0] at h
 | k + 1=>by
  have ih0 := flagstoneref1_Quote.mono_l k
  ·intro y0 y1 y2
   unfold flagstoneref1_Quote.l0
   repeat' first
   | (with_reducible exact ih0 _ _ _)
   | (with_reducible exact flagstoneref1_Valid.mono _ _)
   | (with_reducible exact LeO.refl _)
   | (with_reducible exact LeO.none _)
   | (with_reducible refine LeO.ite ?_ ?_)
   | (with_reducible refine LeO.bind ?_ (fun _=>?_))
   | exact ih0 _ _ _
   | exact flagstoneref1_Valid.mono _ _
   | exact LeO.none _
   | refine LeO.ite ?_ ?_
   | refine LeO.bind ?_ (fun _=>?_)
theorem flagstoneref1_Quote.mono : ∀ a0 k, LeO (flagstoneref1_Quote.f k a0) (flagstoneref1_Quote.f (k + 1) a0) := by
 intro a0 k
 have ih0 := flagstoneref1_Quote.mono_l k
 unfold flagstoneref1_Quote.f
 repeat' first
   | (with_reducible exact ih0 _ _ _)
   | (with_reducible exact flagstoneref1_Valid.mono _ _)
   | (with_reducible exact LeO.refl _)
   | (with_reducible exact LeO.none _)
   | (with_reducible refine LeO.ite ?_ ?_)
   | (with_reducible refine LeO.bind ?_ (fun _=>?_))
   | exact ih0 _ _ _
   | exact flagstoneref1_Valid.mono _ _
   | exact LeO.none _
   | refine LeO.ite ?_ ?_
   | refine LeO.bind ?_ (fun _=>?_)
set_option maxHeartbeats 8000000 in
set_option maxRecDepth 100000 in
theorem flagstoneref1_Quote.calls (k : Nat) (a0 : ByteArray) (r1 : ByteArray) (r2 : Int) (w : World) (hGL : GL w) (h : flagstoneref1_Quote.f k a0 = some (r1, r2)) :
  Calls Tryz.prog 38 #[.string a0] w fun e w'=>e = .returned (.tuple #[.string r1,.int .i64 r2]) ∧ Below w.heap.size w w' := by
 have HGL := Aside0.mk hGL; clear hGL
 have HB := Aside0.mk (Below.refl w.heap.size w)
 have H : ((flagstoneref1_Valid.f k a0).bind fun t223=>(if t223 = true then (flagstoneref1_Quote.l0 k a0 (([34] : List Int)) 0) else (some ((⟨#[]⟩ : ByteArray),2)))) = some (r1,r2) := h
 clear h; replace H := Option.bind_eq_some_iff.mp H; obtain ⟨t223,A20,H⟩ := H
 replace H : (if t223 = true then (flagstoneref1_Quote.l0 k a0 (([34] : List Int)) 0) else (some ((⟨#[]⟩ : ByteArray),2))) = some (r1,r2) := H
 have A2 := Aside0.mk A20; clear A20
 by_cases c3 : t223 = true
 ·subst c3
  have H1 : (flagstoneref1_Quote.l0 k a0 (([34] : List Int)) 0) = some (r1,r2) := by rw [if_pos rfl] at H; exact H
  clear H; have H := H1; clear H1
  obtain ⟨y224,hy224⟩ : ∃ y_ : List Int,y_ = (([34] : List Int)):=⟨_,rfl⟩
  replace H : (flagstoneref1_Quote.l0 k a0 y224 0) = some (r1,r2) := by first|(rw [hy224]; with_reducible exact H)|(have H2_:=(Option.bind_some _ _).symm.trans H; rw [hy224]; with_reducible exact H2_)|(have H2_:=(Option.bind_some _ _).symm.trans H; with_reducible exact H2_)|with_reducible exact H|(rw [hy224]; exact H)|exact H
  have Ny224 := Aside0.mk hy224; clear hy224; have H' := Aside0.mk H; clear H
  go_enter Tryz.func38,Tryz.ntmps38
  go_wp2_with (first|((with_reducible refine gate_callee (f := 31) rfl ?_); refine goesL_ (some 7) rfl rfl Tryz.func31 (by kernel_rfl) rfl #[.string a0] rfl (by (try simp only [List.map_toArray,List.map_cons,List.map_nil]); first|done|rfl|(simp only [List.length_drop,List.length_take]; rfl)) ?_;(with_reducible refine (flagstoneref1_Valid.calls k a0 true _ ?side1 A2.out).mono ?_);(case side1=>exact GL.below HGL.out (by repeat (first|(with_reducible first|exact HB.out|apply zE|apply zB|apply zC)|exact HB.out))); rintro e w4 ⟨rfl,hb⟩; refine ⟨_,rfl,?_⟩; have n0_ := Aside0.mk (below_step (by repeat (first|(with_reducible first|exact HB.out|apply zE|apply zB|apply zC)|exact HB.out)) hb); clear HB; have HB := n0_; clear n0_;(try clear hb);(try clear hb2);(try clear hk);(try clear hi);(try clear hge))|((with_reducible refine gate_dst (N := 9) rfl ?_); refine Kd.R_lit (Kd.int .u8) _ 5 ?hg (N := 9) ?hd (xs:=([34] : List Int)) (inner := [.int .u8 34]) (ok := fun _=>True) (okp := fun _=>True) ?hr ?hp (fun _ hk=>hk) trivial (Below.refl _ _) (Nat.le_refl _) (by simp) ?_;(case hd=>rfl);(case hg=>rfl);(case hr=>first|(go_simp; done)|(go_simp; rfl));(case hp=>exact (Reps.one (show Kd.M (Kd.int .u8) _ _ _ 34 [.int .u8 34] from rfl) (Reps.none _ _))); intro v225 w5 ho6 hb hg_ hnew_; clear hg_ hnew_;(first|rw [← Ny224.out] at ho6|(simp only [Int.reduceToNat] at ho6; rw [← Ny224.out] at ho6)); have n0_ := Aside0.mk (Kd.R_lower ho6 (below_size (by repeat (first|(with_reducible first|exact HB.out|apply zE|apply zB|apply zC)|exact HB.out)))); have n1_ := Aside0.mk (below_step (by repeat (first|(with_reducible first|exact HB.out|apply zE|apply zB|apply zC)|exact HB.out)) hb); clear HB; have HO226 := n0_; have HB := n1_; clear n0_ n1_ hb ho6))
  go_loopg [4,5] k (fun kq v4 v5 w'=>∃ (x4_1 : List Int) (x5_1 : Int),v5 = .int .i64 x5_1 ∧ Aside0 (flagstoneref1_Quote.l0 kq a0 x4_1 x5_1 = some (r1,r2)) ∧ Aside0 (kq ≤ k) ∧ Aside0 (Kd.R (Kd.int .u8) 5 w' w.heap.size (fun _=>True) v4 x4_1) ∧ Aside0 (Below w.heap.size w w'))
  case atStart=>exact ⟨(y224),(0),(by first|rfl|(simp; done)|(simp [*]; done)),H',⟨Nat.le_refl _⟩,⟨by (with_reducible repeat (first|apply Kd.R_alloc|apply Kd.R_drewN|apply Kd.R_drew)); exact HO226.out⟩,⟨by repeat (first|(with_reducible first|exact HB.out|apply zE|apply zB|apply zC)|exact HB.out)⟩⟩
  case round =>
   clear H';(try clear p2);(try clear c3)
   obtain ⟨x4_1,x5_1,rfl,HA,HK1,HO_4,HB⟩ := hrel
   cases gk with
   | zero=>exact absurd HA.out (by simp [flagstoneref1_Quote.l0])
   | succ k1 =>
    have H := HA.out; clear HA
    simp only [flagstoneref1_Quote.l0] at H
    by_cases c7 : x5_1 < (a0.size : Int)
    ·rw [if_pos c7] at H
     have c7b0 : decide (x5_1 < (a0.size : Int)) = true := decide_eq_true c7
     clear c7
     by_cases c8 : 0 ≤ x5_1
     ·rw [if_pos c8] at H
      have c8b0 : decide (0 ≤ x5_1) = true := decide_eq_true c8
      clear c8
      by_cases c10 : (bt a0 x5_1) = 34
      ·rw [if_pos c10] at H
       have c10b0 : ((bt a0 x5_1) == 34) = true := beq_iff_eq.mpr c10
       have c10b1 : ((bt a0 x5_1) != 34) = false := bne_eq_false_iff_eq.mpr c10
       clear c10
       by_cases c11 : x4_1.length < 140737488355328
       ·rw [if_pos c11] at H
        have LMc11 := Aside0.mk c11; clear c11
        obtain ⟨y227,hy227⟩ : ∃ y_ : List Int,y_ = (x4_1 ++ [92]):=⟨_,rfl⟩
        replace H : (if y227.length < 140737488355328 then (flagstoneref1_Quote.l0 k1 a0 (y227 ++ [bt a0 x5_1]) (wrap64 (x5_1 + 1))) else (none)) = some (r1,r2) := by first|(rw [hy227]; with_reducible exact H)|(have H2_:=(Option.bind_some _ _).symm.trans H; rw [hy227]; with_reducible exact H2_)|(have H2_:=(Option.bind_some _ _).symm.trans H; with_reducible exact H2_)|with_reducible exact H|(rw [hy227]; exact H)|exact H
        have Ny227 := Aside0.mk hy227; clear hy227
        by_cases c13 : y227.length < 140737488355328
        ·rw [if_pos c13] at H
         have LMc13 := Aside0.mk c13; clear c13
         obtain ⟨y230,hy230⟩ : ∃ y_ : List Int,y_ = (y227 ++ [bt a0 x5_1]):=⟨_,rfl⟩
         replace H : (flagstoneref1_Quote.l0 k1 a0 y230 (wrap64 (x5_1 + 1))) = some (r1,r2) := by first|(rw [hy230]; with_reducible exact H)|(have H2_:=(Option.bind_some _ _).symm.trans H; rw [hy230]; with_reducible exact H2_)|(have H2_:=(Option.bind_some _ _).symm.trans H; with_reducible exact H2_)|with_reducible exact H|(rw [hy230]; exact H)|exact H
         have Ny230 := Aside0.mk hy230; clear hy230; have H' := Aside0.mk H; clear H
         have p9 : 0 ≤ (x5_1 : Int) := of_decide_eq_true (by first|(with_reducible assumption)|assumption)
         have q9 : x5_1 < (a0.size : Int) := of_decide_eq_true (by first|(with_reducible assumption)|assumption)
         have hx9 := bt_at a0 x5_1
         replace p9 := eq_true p9
         replace q9 := eq_true q9
         go_wp2_with (first|((with_reducible refine gate_builtin (b := .append) (xs := #[.tmp 26,.tmp 27]) rfl ?_); at_builtin; refine Kd.R_append (Kd.int .u8) (w0 := w) w.heap.size rfl (.tmp 26) (.tmp 27) 25 5 (.int .u8 0) 1 rfl Tryz.underlying25 info5 rfl (by decide) (by omega) u4 x4_1 92 [.int .u8 92] (fun _=>True) (fun _=>False) rfl rfl ?aP (fun _ hk=>hk.elim) ?aF ?aO ?aB ?aS ?aL ?_;(case aP=>exact rfl);(case aB=>exact (by repeat (first|(with_reducible first|exact HB.out|apply zE|apply zB|apply zC)|exact HB.out)));(case aF=>exact (fun _ _=>trivial));(case aO=>exact (by (with_reducible repeat (first|apply Kd.R_alloc|apply Kd.R_drewN|apply Kd.R_drew)); exact HO_4.out));(case aS=>exact (below_size (by repeat (first|(with_reducible first|exact HB.out|apply zE|apply zB|apply zC)|exact HB.out))));(case aL=>have := LMc11.out; omega); intro v228 w14 ho hb hg hat; rw [← Ny227.out] at ho; have n0_ := Aside0.mk (hb); have n1_ := Aside0.mk (ho); clear HB HO_4; have HB := n0_; have HO229 := n1_; clear n0_ n1_ ho hb hg hat; have p12 : 0 ≤ (x5_1 : Int) := of_decide_eq_true (by first|(with_reducible assumption)|assumption); have q12 : x5_1 < (a0.size : Int) := of_decide_eq_true (by first|(with_reducible assumption)|assumption); have hx12 := bt_at a0 x5_1; replace p12 := eq_true p12; replace q12 := eq_true q12)|((with_reducible refine gate_builtin (b := .append) (xs := #[.tmp 29,.tmp 33]) rfl ?_); at_builtin; refine Kd.R_append (Kd.int .u8) (w0 := w) w.heap.size rfl (.tmp 29) (.tmp 33) 25 5 (.int .u8 0) 1 rfl Tryz.underlying25 info5 rfl (by decide) (by omega) v228 y227 (bt a0 x5_1) [.int .u8 (bt a0 x5_1)] (fun _=>True) (fun _=>False) rfl rfl ?aP (fun _ hk=>hk.elim) ?aF ?aO ?aB ?aS ?aL ?_;(case aP=>exact rfl);(case aB=>exact (by repeat (first|(with_reducible first|exact HB.out|apply zE|apply zB|apply zC)|exact HB.out)));(case aF=>exact (fun _ _=>trivial));(case aO=>exact (by (with_reducible repeat (first|apply Kd.R_alloc|apply Kd.R_drewN|apply Kd.R_drew)); exact HO229.out));(case aS=>exact (below_size (by repeat (first|(with_reducible first|exact HB.out|apply zE|apply zB|apply zC)|exact HB.out))));(case aL=>have := LMc13.out; omega); intro v231 w15 ho hb hg hat; rw [← Ny230.out] at ho; have n0_ := Aside0.mk (hb); have n1_ := Aside0.mk (ho); clear HB HO229; have HB := n0_; have HO232 := n1_; clear n0_ n1_ ho hb hg hat))
         go_roundg k1
         case measure=>have := HK1.out; omega
         case rel=>exact ⟨(y230),(wrap64 (x5_1 + 1)),(by first|rfl|(simp; done)|(simp [*]; done)),H',⟨by have := HK1.out; omega⟩,⟨by (with_reducible repeat (first|apply Kd.R_alloc|apply Kd.R_drewN|apply Kd.R_drew)); exact HO232.out⟩,⟨by repeat (first|(with_reducible first|exact HB.out|apply zE|apply zB|apply zC)|exact HB.out)⟩⟩
        ·rw [if_neg c13] at H
         exact absurd H (by simp)
       ·rw [if_neg c11] at H
        exact absurd H (by simp)
      ·rw [if_neg c10] at H
       have c10b0 : ((bt a0 x5_1) == 34) = false := beq_eq_false_iff_ne.mpr c10
       have c10b1 : ((bt a0 x5_1) != 34) = true := bne_iff_ne.mpr c10
       by_cases c17 : (bt a0 x5_1) = 92
       ·rw [if_pos c17] at H
        have c17b0 : ((bt a0 x5_1) == 92) = true := beq_iff_eq.mpr c17
        have c17b1 : ((bt a0 x5_1) != 92) = false := bne_eq_false_iff_eq.mpr c17
        clear c17
        by_cases c18 : x4_1.length < 140737488355328
        ·rw [if_pos c18] at H
         have LMc18 := Aside0.mk c18; clear c18
         obtain ⟨y233,hy233⟩ : ∃ y_ : List Int,y_ = (x4_1 ++ [92]):=⟨_,rfl⟩
         replace H : (if y233.length < 140737488355328 then (flagstoneref1_Quote.l0 k1 a0 (y233 ++ [bt a0 x5_1]) (wrap64 (x5_1 + 1))) else (none)) = some (r1,r2) := by first|(rw [hy233]; with_reducible exact H)|(have H2_:=(Option.bind_some _ _).symm.trans H; rw [hy233]; with_reducible exact H2_)|(have H2_:=(Option.bind_some _ _).symm.trans H; with_reducible exact H2_)|with_reducible exact H|(rw [hy233]; exact H)|exact H
         have Ny233 := Aside0.mk hy233; clear hy233
         by_cases c20 : y233.length < 140737488355328
         ·rw [if_pos c20] at H
          have LMc20 := Aside0.mk c20; clear c20
          obtain ⟨y236,hy236⟩ : ∃ y_ : List Int,y_ = (y233 ++ [bt a0 x5_1]):=⟨_,rfl⟩
          replace H : (flagstoneref1_Quote.l0 k1 a0 y236 (wrap64 (x5_1 + 1))) = some (r1,r2) := by first|(rw [hy236]; with_reducible exact H)|(have H2_:=(Option.bind_some _ _).symm.trans H; rw [hy236]; with_reducible exact H2_)|(have H2_:=(Option.bind_some _ _).symm.trans H; with_reducible exact H2_)|with_reducible exact H|(rw [hy236]; exact H)|exact H
          have Ny236 := Aside0.mk hy236; clear hy236; have H' := Aside0.mk H; clear H
          have p9 : 0 ≤ (x5_1 : Int) := of_decide_eq_true (by first|(with_reducible assumption)|assumption)
          have q9 : x5_1 < (a0.size : Int) := of_decide_eq_true (by first|(with_reducible assumption)|assumption)
          have hx9 := bt_at a0 x5_1
          replace p9 := eq_true p9
          replace q9 := eq_true q9
          have p16 : 0 ≤ (x5_1 : Int) := of_decide_eq_true (by first|(with_reducible assumption)|assumption)
          have q16 : x5_1 < (a0.size : Int) := of_decide_eq_true (by first|(with_reducible assumption)|assumption)
          have hx16 := bt_at a0 x5_1
          replace p16 := eq_true p16
          replace q16 := eq_true q16
          go_wp2_with (first|((with_reducible refine gate_builtin (b := .append) (xs := #[.tmp 26,.tmp 27]) rfl ?_); at_builtin; refine Kd.R_append (Kd.int .u8) (w0 := w) w.heap.size rfl (.tmp 26) (.tmp 27) 25 5 (.int .u8 0) 1 rfl Tryz.underlying25 info5 rfl (by decide) (by omega) u4 x4_1 92 [.int .u8 92] (fun _=>True) (fun _=>False) rfl rfl ?aP (fun _ hk=>hk.elim) ?aF ?aO ?aB ?aS ?aL ?_;(case aP=>exact rfl);(case aB=>exact (by repeat (first|(with_reducible first|exact HB.out|apply zE|apply zB|apply zC)|exact HB.out)));(case aF=>exact (fun _ _=>trivial));(case aO=>exact (by (with_reducible repeat (first|apply Kd.R_alloc|apply Kd.R_drewN|apply Kd.R_drew)); exact HO_4.out));(case aS=>exact (below_size (by repeat (first|(with_reducible first|exact HB.out|apply zE|apply zB|apply zC)|exact HB.out))));(case aL=>have := LMc18.out; omega); intro v234 w21 ho hb hg hat; rw [← Ny233.out] at ho; have n0_ := Aside0.mk (hb); have n1_ := Aside0.mk (ho); clear HB HO_4; have HB := n0_; have HO235 := n1_; clear n0_ n1_ ho hb hg hat; have p19 : 0 ≤ (x5_1 : Int) := of_decide_eq_true (by first|(with_reducible assumption)|assumption); have q19 : x5_1 < (a0.size : Int) := of_decide_eq_true (by first|(with_reducible assumption)|assumption); have hx19 := bt_at a0 x5_1; replace p19 := eq_true p19; replace q19 := eq_true q19)|((with_reducible refine gate_builtin (b := .append) (xs := #[.tmp 29,.tmp 33]) rfl ?_); at_builtin; refine Kd.R_append (Kd.int .u8) (w0 := w) w.heap.size rfl (.tmp 29) (.tmp 33) 25 5 (.int .u8 0) 1 rfl Tryz.underlying25 info5 rfl (by decide) (by omega) v234 y233 (bt a0 x5_1) [.int .u8 (bt a0 x5_1)] (fun _=>True) (fun _=>False) rfl rfl ?aP (fun _ hk=>hk.elim) ?aF ?aO ?aB ?aS ?aL ?_;(case aP=>exact rfl);(case aB=>exact (by repeat (first|(with_reducible first|exact HB.out|apply zE|apply zB|apply zC)|exact HB.out)));(case aF=>exact (fun _ _=>trivial));(case aO=>exact (by (with_reducible repeat (first|apply Kd.R_alloc|apply Kd.R_drewN|apply Kd.R_drew)); exact HO235.out));(case aS=>exact (below_size (by repeat (first|(with_reducible first|exact HB.out|apply zE|apply zB|apply zC)|exact HB.out))));(case aL=>have := LMc20.out; omega); intro v237 w22 ho hb hg hat; rw [← Ny236.out] at ho; have n0_ := Aside0.mk (hb); have n1_ := Aside0.mk (ho); clear HB HO235; have HB := n0_; have HO238 := n1_; clear n0_ n1_ ho hb hg hat))
          go_roundg k1
          case measure=>have := HK1.out; omega
          case rel=>exact ⟨(y236),(wrap64 (x5_1 + 1)),(by first|rfl|(simp; done)|(simp [*]; done)),H',⟨by have := HK1.out; omega⟩,⟨by (with_reducible repeat (first|apply Kd.R_alloc|apply Kd.R_drewN|apply Kd.R_drew)); exact HO238.out⟩,⟨by repeat (first|(with_reducible first|exact HB.out|apply zE|apply zB|apply zC)|exact HB.out)⟩⟩
         ·rw [if_neg c20] at H
          exact absurd H (by simp)
        ·rw [if_neg c18] at H
         exact absurd H (by simp)
       ·rw [if_neg c17] at H
        have c17b0 : ((bt a0 x5_1) == 92) = false := beq_eq_false_iff_ne.mpr c17
        have c17b1 : ((bt a0 x5_1) != 92) = true := bne_iff_ne.mpr c17
        by_cases c24 : x4_1.length < 140737488355328
        ·rw [if_pos c24] at H
         have LMc24 := Aside0.mk c24; clear c24
         obtain ⟨y239,hy239⟩ : ∃ y_ : List Int,y_ = (x4_1 ++ [bt a0 x5_1]):=⟨_,rfl⟩
         replace H : (flagstoneref1_Quote.l0 k1 a0 y239 (wrap64 (x5_1 + 1))) = some (r1,r2) := by first|(rw [hy239]; with_reducible exact H)|(have H2_:=(Option.bind_some _ _).symm.trans H; rw [hy239]; with_reducible exact H2_)|(have H2_:=(Option.bind_some _ _).symm.trans H; with_reducible exact H2_)|with_reducible exact H|(rw [hy239]; exact H)|exact H
         have Ny239 := Aside0.mk hy239; clear hy239; have H' := Aside0.mk H; clear H
         have p9 : 0 ≤ (x5_1 : Int) := of_decide_eq_true (by first|(with_reducible assumption)|assumption)
         have q9 : x5_1 < (a0.size : Int) := of_decide_eq_true (by first|(with_reducible assumption)|assumption)
         have hx9 := bt_at a0 x5_1
         replace p9 := eq_true p9
         replace q9 := eq_true q9
         have p16 : 0 ≤ (x5_1 : Int) := of_decide_eq_true (by first|(with_reducible assumption)|assumption)
         have q16 : x5_1 < (a0.size : Int) := of_decide_eq_true (by first|(with_reducible assumption)|assumption)
         have hx16 := bt_at a0 x5_1
         replace p16 := eq_true p16
         replace q16 := eq_true q16
         have p23 : 0 ≤ (x5_1 : Int) := of_decide_eq_true (by first|(with_reducible assumption)|assumption)
         have q23 : x5_1 < (a0.size : Int) := of_decide_eq_true (by first|(with_reducible assumption)|assumption)
         have hx23 := bt_at a0 x5_1
         replace p23 := eq_true p23
         replace q23 := eq_true q23
         go_wp2_with (first|((with_reducible refine gate_builtin (b := .append) (xs := #[.tmp 29,.tmp 33]) rfl ?_); at_builtin; refine Kd.R_append (Kd.int .u8) (w0 := w) w.heap.size rfl (.tmp 29) (.tmp 33) 25 5 (.int .u8 0) 1 rfl Tryz.underlying25 info5 rfl (by decide) (by omega) u4 x4_1 (bt a0 x5_1) [.int .u8 (bt a0 x5_1)] (fun _=>True) (fun _=>False) rfl rfl ?aP (fun _ hk=>hk.elim) ?aF ?aO ?aB ?aS ?aL ?_;(case aP=>exact rfl);(case aB=>exact (by repeat (first|(with_reducible first|exact HB.out|apply zE|apply zB|apply zC)|exact HB.out)));(case aF=>exact (fun _ _=>trivial));(case aO=>exact (by (with_reducible repeat (first|apply Kd.R_alloc|apply Kd.R_drewN|apply Kd.R_drew)); exact HO_4.out));(case aS=>exact (below_size (by repeat (first|(with_reducible first|exact HB.out|apply zE|apply zB|apply zC)|exact HB.out))));(case aL=>have := LMc24.out; omega); intro v240 w25 ho hb hg hat; rw [← Ny239.out] at ho; have n0_ := Aside0.mk (hb); have n1_ := Aside0.mk (ho); clear HB HO_4; have HB := n0_; have HO241 := n1_; clear n0_ n1_ ho hb hg hat))
         go_roundg k1
         case measure=>have := HK1.out; omega
         case rel=>exact ⟨(y239),(wrap64 (x5_1 + 1)),(by first|rfl|(simp; done)|(simp [*]; done)),H',⟨by have := HK1.out; omega⟩,⟨by (with_reducible repeat (first|apply Kd.R_alloc|apply Kd.R_drewN|apply Kd.R_drew)); exact HO241.out⟩,⟨by repeat (first|(with_reducible first|exact HB.out|apply zE|apply zB|apply zC)|exact HB.out)⟩⟩
        ·rw [if_neg c24] at H
         exact absurd H (by simp)
     ·rw [if_neg c8] at H
      exact absurd H (by simp)
    ·rw [if_neg c7] at H
     have c7b0 : decide (x5_1 < (a0.size : Int)) = false := decide_eq_false c7
     clear c7
     by_cases c26 : x4_1.length < 140737488355328
     ·rw [if_pos c26] at H
      have LMc26 := Aside0.mk c26; clear c26
      obtain ⟨y242,hy242⟩ : ∃ y_ : List Int,y_ = (x4_1 ++ [34]):=⟨_,rfl⟩
      replace H : (some (strOfNums y242,0)) = some (r1,r2) := by first|(rw [hy242]; with_reducible exact H)|(have H2_:=(Option.bind_some _ _).symm.trans H; rw [hy242]; with_reducible exact H2_)|(have H2_:=(Option.bind_some _ _).symm.trans H; with_reducible exact H2_)|with_reducible exact H|(rw [hy242]; exact H)|exact H
      have Ny242 := Aside0.mk hy242; clear hy242
      simp only [Option.some.injEq,Prod.mk.injEq] at H
      obtain ⟨rfl,rfl⟩ := H
      go_wp2_with (first|((with_reducible refine gate_builtin (b := .append) (xs := #[.tmp 35,.tmp 36]) rfl ?_); at_builtin; refine Kd.R_append (Kd.int .u8) (w0 := w) w.heap.size rfl (.tmp 35) (.tmp 36) 25 5 (.int .u8 0) 1 rfl Tryz.underlying25 info5 rfl (by decide) (by omega) u4 x4_1 34 [.int .u8 34] (fun _=>True) (fun _=>False) rfl rfl ?aP (fun _ hk=>hk.elim) ?aF ?aO ?aB ?aS ?aL ?_;(case aP=>exact rfl);(case aB=>exact (by repeat (first|(with_reducible first|exact HB.out|apply zE|apply zB|apply zC)|exact HB.out)));(case aF=>exact (fun _ _=>trivial));(case aO=>exact (by (with_reducible repeat (first|apply Kd.R_alloc|apply Kd.R_drewN|apply Kd.R_drew)); exact HO_4.out));(case aS=>exact (below_size (by repeat (first|(with_reducible first|exact HB.out|apply zE|apply zB|apply zC)|exact HB.out))));(case aL=>have := LMc26.out; omega); intro v243 w27 ho hb hg hat; rw [← Ny242.out] at ho; have n0_ := Aside0.mk (hb); have n1_ := Aside0.mk (ho); clear HB HO_4; have HB := n0_; have HO244 := n1_; clear n0_ n1_ ho hb hg hat; have hcv28 := own_string (P := Tryz.prog) Tryz.underlying25 Tryz.underlying5 Tryz.underlying9 (Kd.own_of_R HO244.out)))
      go_ret2
      exact ⟨by first|rfl|(simp [errW_none,errW_some]<;>rfl)|(simp [*,errW_none,errW_some]<;>rfl),by repeat (first|(with_reducible first|exact HB.out|apply zE|apply zB|apply zC)|exact HB.out)⟩
     ·rw [if_neg c26] at H
      exact absurd H (by simp)
 ·replace c3 := Bool.eq_false_iff.mpr c3
  subst c3
  have H1 : (some ((⟨#[]⟩ : ByteArray),2)) = some (r1,r2) := by rw [if_neg (show ¬ (false = true) by decide)] at H; exact H
  clear H; have H := H1; clear H1
  simp only [Option.some.injEq,Prod.mk.injEq] at H
  obtain ⟨rfl,rfl⟩ := H
  go_enter Tryz.func38,Tryz.ntmps38
  go_wp2_with (first|((with_reducible refine gate_callee (f := 31) rfl ?_); refine goesL_ (some 7) rfl rfl Tryz.func31 (by kernel_rfl) rfl #[.string a0] rfl (by (try simp only [List.map_toArray,List.map_cons,List.map_nil]); first|done|rfl|(simp only [List.length_drop,List.length_take]; rfl)) ?_;(with_reducible refine (flagstoneref1_Valid.calls k a0 false _ ?side1 A2.out).mono ?_);(case side1=>exact GL.below HGL.out (by repeat (first|(with_reducible first|exact HB.out|apply zE|apply zB|apply zC)|exact HB.out))); rintro e w29 ⟨rfl,hb⟩; refine ⟨_,rfl,?_⟩; have n0_ := Aside0.mk (below_step (by repeat (first|(with_reducible first|exact HB.out|apply zE|apply zB|apply zC)|exact HB.out)) hb); clear HB; have HB := n0_; clear n0_;(try clear hb);(try clear hb2);(try clear hk);(try clear hi);(try clear hge)))
  go_ret2
  exact ⟨by first|rfl|(simp [errW_none,errW_some]<;>rfl)|(simp [*,errW_none,errW_some]<;>rfl),by repeat (first|(with_reducible first|exact HB.out|apply zE|apply zB|apply zC)|exact HB.out)⟩

end Go.Proofs.YtannjakcnnefhaaGreatDoor.V
