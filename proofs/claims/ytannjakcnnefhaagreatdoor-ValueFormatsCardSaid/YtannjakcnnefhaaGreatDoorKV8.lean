import Derived.Test.YtannjakcnnefhaaGreatDoorKV0
import Derived.Test.YtannjakcnnefhaaGreatDoorKV7
-- printed by wip/hp.py (the session's driver of the print, with hand-proved contracts)
namespace Go.Proofs.YtannjakcnnefhaaGreatDoor.V
open Go.RowKit Go.Proofs.YtannjakcnnefhaaGreatDoorW.PrintWords Go.Proofs.YtannjakcnnefhaaGreatDoorW.PrintLast Go.Proofs.YtannjakcnnefhaaGreatDoorW.PrintMore
attribute [local go_sem] max2_int min2_int max_two min_two max_three min_three max_four min_four   -- for this text's walks alone
set_option linter.unusedVariables false
set_option linter.unusedSimpArgs false

/-! ### flagstoneref3_Format: function 17 -/
def flagstoneref3_Format.l0 : Nat → ByteArray → Int → Int → Int → ByteArray → List ByteArray → Option (ByteArray × Int)
 | 0,_,_,_,_,_,_=>none
 | k + 1,x5,x6,x246000,x246001,x246002,x246003=>if x6 < (x246003.length : Int) then (if 0 ≤ x6 then ((flagstoneref1_Quote.f k (rdOf ByteArray.empty x246003 x6)).bind fun bt251=>(if x6 > 0 then (if x5.size + 2 ≤ 9223372036854775807 then (if (x5 ++ (⟨#[44,32]⟩ : ByteArray)).size + bt251.1.size ≤ 9223372036854775807 then (flagstoneref3_Format.l0 k ((x5 ++ (⟨#[44,32]⟩ : ByteArray)) ++ bt251.1) (wrap64 (x6 + 1)) x246000 x246001 x246002 x246003) else (none)) else (none)) else (if x5.size + bt251.1.size ≤ 9223372036854775807 then (flagstoneref3_Format.l0 k (x5 ++ bt251.1) (wrap64 (x6 + 1)) x246000 x246001 x246002 x246003) else (none)))) else (none)) else (if x5.size + 1 ≤ 9223372036854775807 then (some (x5 ++ (⟨#[93]⟩ : ByteArray),0)) else (none))
def flagstoneref3_Format.f (k : Nat) (a0_0 : Int) (a0_1 : Int) (a0_2 : ByteArray) (l0_3 : List ByteArray) : Option (ByteArray × Int) := (flagstoneref3_Check.f k a0_0 a0_1 a0_2 l0_3).bind fun t246 => (if t246 = 0 then (if a0_0 = 1 then (if a0_1 = 1 then (some ((⟨#[116, 114, 117, 101]⟩ : ByteArray), 0)) else (some ((⟨#[102, 97, 108, 115, 101]⟩ : ByteArray), 0))) else (if a0_0 = 2 then ((flagstoneref1_Number.f a0_1).bind fun t247 => (some (t247, 0))) else (if a0_0 = 3 then ((flagstoneref1_Quote.f k a0_2).bind fun bt248 => (some (bt248.1, bt248.2))) else (if a0_0 = 4 then (some (a0_2, 0)) else (flagstoneref3_Format.l0 k (⟨#[91]⟩ : ByteArray) 0 a0_0 a0_1 a0_2 l0_3))))) else (some ((⟨#[]⟩ : ByteArray), t246)))
theorem flagstoneref3_Format.mono_l : ∀ k, (∀ y0 y1 y2 y3 y4 y5, LeO (flagstoneref3_Format.l0 k y0 y1 y2 y3 y4 y5) (flagstoneref3_Format.l0 (k + 1) y0 y1 y2 y3 y4 y5))
 | 0=>fun _ _ _ _ _ _ r h=>by simp [flagstoneref3_Format.l0] at h
 | k + 1=>by
  have ih0 := flagstoneref3_Format.mono_l k
  ·intro y0 y1 y2 y3 y4 y5
   unfold flagstoneref3_Format.l0
   repeat' first
   | (with_reducible exact ih0 _ _ _ _ _ _)
   | (with_reducible exact flagstoneref1_Quote.mono _ _)
   | (with_reducible exact flagstoneref3_Check.mono _ _ _ _ _)
   | (with_reducible exact LeO.refl _)
   | (with_reducible exact LeO.none _)
   | (with_reducible refine LeO.ite ?_ ?_)
   | (with_reducible refine LeO.bind ?_ (fun _=>?_))
   | exact ih0 _ _ _ _ _ _
   | exact flagstoneref1_Quote.mono _ _
   | exact flagstoneref3_Check.mono _ _ _ _ _
   | exact LeO.none _
   | refine LeO.ite ?_ ?_
   | refine LeO.bind ?_ (fun _=>?_)
theorem flagstoneref3_Format.mono : ∀ a0 a1 a2 a3 k, LeO (flagstoneref3_Format.f k a0 a1 a2 a3) (flagstoneref3_Format.f (k + 1) a0 a1 a2 a3) := by
 intro a0 a1 a2 a3 k
 have ih0 := flagstoneref3_Format.mono_l k
 unfold flagstoneref3_Format.f
 repeat' first
   | (with_reducible exact ih0 _ _ _ _ _ _)
   | (with_reducible exact flagstoneref1_Quote.mono _ _)
   | (with_reducible exact flagstoneref3_Check.mono _ _ _ _ _)
   | (with_reducible exact LeO.refl _)
   | (with_reducible exact LeO.none _)
   | (with_reducible refine LeO.ite ?_ ?_)
   | (with_reducible refine LeO.bind ?_ (fun _=>?_))
   | exact ih0 _ _ _ _ _ _
   | exact flagstoneref1_Quote.mono _ _
   | exact flagstoneref3_Check.mono _ _ _ _ _
   | exact LeO.none _
   | refine LeO.ite ?_ ?_
   | refine LeO.bind ?_ (fun _=>?_)
set_option maxHeartbeats 8000000 in
set_option maxRecDepth 100000 in
theorem flagstoneref3_Format.calls (k : Nat) (a0_0 : Int) (a0_1 : Int) (a0_2 : ByteArray) (A0_3 : Option Addr) (c0_3 : Nat) (l0_3 : List ByteArray) (r1 : ByteArray) (r2 : Int) (w : World) (hr0_3 : Kd.C Kd.string w A0_3 l0_3.length l0_3) (hc0_3 : l0_3.length ≤ c0_3) (hGL : GL w) (h : flagstoneref3_Format.f k a0_0 a0_1 a0_2 l0_3 = some (r1, r2)) :
  Calls Tryz.prog 17 #[.agg #[.int .i64 a0_0,.int .i64 a0_1,.string a0_2,.slice A0_3 l0_3.length c0_3]] w fun e w'=>e = .returned (.tuple #[.string r1,.int .i64 r2]) ∧ Below w.heap.size w w' := by
 have hu24 := Tryz.underlying24; have HR0_3 := Aside0.mk hr0_3; have HC0_3 := Aside0.mk hc0_3; clear hr0_3 hc0_3; have HGL := Aside0.mk hGL; clear hGL
 have HB := Aside0.mk (Below.refl w.heap.size w)
 have H : ((flagstoneref3_Check.f k a0_0 a0_1 a0_2 l0_3).bind fun t246=>(if t246 = 0 then (if a0_0 = 1 then (if a0_1 = 1 then (some ((⟨#[116,114,117,101]⟩ : ByteArray),0)) else (some ((⟨#[102,97,108,115,101]⟩ : ByteArray),0))) else (if a0_0 = 2 then ((flagstoneref1_Number.f a0_1).bind fun t247=>(some (t247,0))) else (if a0_0 = 3 then ((flagstoneref1_Quote.f k a0_2).bind fun bt248=>(some (bt248.1,bt248.2))) else (if a0_0 = 4 then (some (a0_2,0)) else (flagstoneref3_Format.l0 k (⟨#[91]⟩ : ByteArray) 0 a0_0 a0_1 a0_2 l0_3))))) else (some ((⟨#[]⟩ : ByteArray),t246)))) = some (r1,r2) := h
 clear h; replace H := Option.bind_eq_some_iff.mp H; obtain ⟨t246,A20,H⟩ := H
 replace H : (if t246 = 0 then (if a0_0 = 1 then (if a0_1 = 1 then (some ((⟨#[116,114,117,101]⟩ : ByteArray),0)) else (some ((⟨#[102,97,108,115,101]⟩ : ByteArray),0))) else (if a0_0 = 2 then ((flagstoneref1_Number.f a0_1).bind fun t247=>(some (t247,0))) else (if a0_0 = 3 then ((flagstoneref1_Quote.f k a0_2).bind fun bt248=>(some (bt248.1,bt248.2))) else (if a0_0 = 4 then (some (a0_2,0)) else (flagstoneref3_Format.l0 k (⟨#[91]⟩ : ByteArray) 0 a0_0 a0_1 a0_2 l0_3))))) else (some ((⟨#[]⟩ : ByteArray),t246))) = some (r1,r2) := H
 have A2 := Aside0.mk A20; clear A20
 by_cases c3 : t246 = 0
 ·rw [if_pos c3] at H
  have c3b0 : (t246 == 0) = true := beq_iff_eq.mpr c3
  have c3b1 : (t246 != 0) = false := bne_eq_false_iff_eq.mpr c3
  clear c3
  by_cases c4 : a0_0 = 1
  ·rw [if_pos c4] at H
   have c4b0 : (a0_0 == 1) = true := beq_iff_eq.mpr c4
   have c4b1 : (a0_0 != 1) = false := bne_eq_false_iff_eq.mpr c4
   clear c4
   by_cases c5 : a0_1 = 1
   ·rw [if_pos c5] at H
    have c5b0 : (a0_1 == 1) = true := beq_iff_eq.mpr c5
    have c5b1 : (a0_1 != 1) = false := bne_eq_false_iff_eq.mpr c5
    clear c5
    simp only [Option.some.injEq,Prod.mk.injEq] at H
    obtain ⟨rfl,rfl⟩ := H
    go_enter Tryz.func17,Tryz.ntmps17
    go_wp2_with (first|((with_reducible refine gate_dst (N := 1) rfl ?_); refine box_event ?hg (N := 1) ?hd (cs := #[.int .i64 a0_0,.int .i64 a0_1,.string a0_2,.slice A0_3 l0_3.length c0_3]) (t := 24) ?hr ?_;(case hd=>rfl);(case hg=>rfl);(case hr=>first|(go_simp; done)|(go_simp; rfl)); intro gb245 hg w6 hbox hb; have n0_ := Aside0.mk (below_step (by repeat (first|(with_reducible first|exact HB.out|apply zE|apply zB|apply zC)|exact HB.out)) hb); have n1_ := Aside0.mk (hbox); have n2_ := Aside0.mk ((by rw [hg]; exact (below_size (by repeat (first|(with_reducible first|exact HB.out|apply zE|apply zB|apply zC)|exact HB.out))) : w.heap.size ≤ gb245)); have n3_ := Aside0.mk ((by rw [hg]; exact (below_size (by repeat (first|(with_reducible first|exact HB.out|apply zE|apply zB|apply zC)|exact HB.out))) : w.heap.size ≤ gb245)); clear HB; have HB := n0_; have BK245 := n1_; have GW245 := n2_; have GE245 := n3_; clear n0_ n1_ n2_ n3_ hb hbox hg; have hcz7_0 : w6.cell? ⟨gb245,0,none⟩ = some (.int .i64 a0_0):=(blk_cell BK245.out 0).trans rfl; have hcz7_1 : w6.cell? ⟨gb245,1,none⟩ = some (.int .i64 a0_1):=(blk_cell BK245.out 1).trans rfl; have hcz7_2 : w6.cell? ⟨gb245,2,none⟩ = some (.string a0_2):=(blk_cell BK245.out 2).trans rfl; have hcz7_3 : w6.cell? ⟨gb245,3,none⟩ = some (.slice A0_3 l0_3.length c0_3):=(blk_cell BK245.out 3).trans rfl; have hfz7_0 := blk_frozen BK245.out 0; have hfz7_1 := blk_frozen BK245.out 1; have hfz7_2 := blk_frozen BK245.out 2; have hfz7_3 := blk_frozen BK245.out 3)|((with_reducible refine gate_callee (f := 15) rfl ?_); refine goesL_ (some 10) rfl rfl Tryz.func15 (by kernel_rfl) rfl #[.agg #[.int .i64 a0_0,.int .i64 a0_1,.string a0_2,.slice A0_3 l0_3.length c0_3]] rfl (by (try simp only [List.map_toArray,List.map_cons,List.map_nil]); first|done|rfl|(simp only [List.length_drop,List.length_take]; rfl)) ?_;(with_reducible refine (flagstoneref3_Check.calls k a0_0 a0_1 a0_2 _ _ l0_3 t246 _ ?side1 ?side2 ?side3 A2.out).mono ?_);(case side1=>repeat (first|exact (Kd.C_below HR0_3.out HB.out)|(with_reducible refine Kd.C_alloc ?_ _)|(with_reducible refine Kd.C_drewN ?_ _)|(with_reducible refine Kd.C_drew ?_)));(case side2=>exact HC0_3.out);(case side3=>exact GL.below HGL.out (by repeat (first|(with_reducible first|exact HB.out|apply zE|apply zB|apply zC|refine zJ ?_ GE245.out)|exact HB.out))); rintro e w8 ⟨rfl,hb⟩; refine ⟨_,rfl,?_⟩; have n0_ := Aside0.mk (blk_below (g := gb245) (o := .cells #[.int .i64 a0_0,.int .i64 a0_1,.string a0_2,.slice A0_3 l0_3.length c0_3] 24 (0,0)) (by (with_reducible repeat (first|refine zN ?_ _|refine zD ?_|refine zA ?_ _)); exact BK245.out) hb); have n1_ := Aside0.mk (below_step (by repeat (first|(with_reducible first|exact HB.out|apply zE|apply zB|apply zC|refine zJ ?_ GE245.out)|exact HB.out)) hb); clear BK245 HB; have BK245 := n0_; have HB := n1_; clear n0_ n1_;(try clear hb);(try clear hb2);(try clear hk);(try clear hi);(try clear hge); have hcz9_0 : w8.cell? ⟨gb245,0,none⟩ = some (.int .i64 a0_0):=(blk_cell BK245.out 0).trans rfl; have hcz9_1 : w8.cell? ⟨gb245,1,none⟩ = some (.int .i64 a0_1):=(blk_cell BK245.out 1).trans rfl; have hcz9_2 : w8.cell? ⟨gb245,2,none⟩ = some (.string a0_2):=(blk_cell BK245.out 2).trans rfl; have hcz9_3 : w8.cell? ⟨gb245,3,none⟩ = some (.slice A0_3 l0_3.length c0_3):=(blk_cell BK245.out 3).trans rfl; have hfz9_0 := blk_frozen BK245.out 0; have hfz9_1 := blk_frozen BK245.out 1; have hfz9_2 := blk_frozen BK245.out 2; have hfz9_3 := blk_frozen BK245.out 3))
    go_ret2
    exact ⟨by first|rfl|(simp [errW_none,errW_some]<;>rfl)|(simp [*,errW_none,errW_some]<;>rfl),by repeat (first|(with_reducible first|exact HB.out|apply zE|apply zB|apply zC|refine zJ ?_ GE245.out)|exact HB.out)⟩
   ·rw [if_neg c5] at H
    have c5b0 : (a0_1 == 1) = false := beq_eq_false_iff_ne.mpr c5
    have c5b1 : (a0_1 != 1) = true := bne_iff_ne.mpr c5
    simp only [Option.some.injEq,Prod.mk.injEq] at H
    obtain ⟨rfl,rfl⟩ := H
    go_enter Tryz.func17,Tryz.ntmps17
    go_wp2_with (first|((with_reducible refine gate_dst (N := 1) rfl ?_); refine box_event ?hg (N := 1) ?hd (cs := #[.int .i64 a0_0,.int .i64 a0_1,.string a0_2,.slice A0_3 l0_3.length c0_3]) (t := 24) ?hr ?_;(case hd=>rfl);(case hg=>rfl);(case hr=>first|(go_simp; done)|(go_simp; rfl)); intro gb245 hg w10 hbox hb; have n0_ := Aside0.mk (below_step (by repeat (first|(with_reducible first|exact HB.out|apply zE|apply zB|apply zC)|exact HB.out)) hb); have n1_ := Aside0.mk (hbox); have n2_ := Aside0.mk ((by rw [hg]; exact (below_size (by repeat (first|(with_reducible first|exact HB.out|apply zE|apply zB|apply zC)|exact HB.out))) : w.heap.size ≤ gb245)); have n3_ := Aside0.mk ((by rw [hg]; exact (below_size (by repeat (first|(with_reducible first|exact HB.out|apply zE|apply zB|apply zC)|exact HB.out))) : w.heap.size ≤ gb245)); clear HB; have HB := n0_; have BK245 := n1_; have GW245 := n2_; have GE245 := n3_; clear n0_ n1_ n2_ n3_ hb hbox hg; have hcz11_0 : w10.cell? ⟨gb245,0,none⟩ = some (.int .i64 a0_0):=(blk_cell BK245.out 0).trans rfl; have hcz11_1 : w10.cell? ⟨gb245,1,none⟩ = some (.int .i64 a0_1):=(blk_cell BK245.out 1).trans rfl; have hcz11_2 : w10.cell? ⟨gb245,2,none⟩ = some (.string a0_2):=(blk_cell BK245.out 2).trans rfl; have hcz11_3 : w10.cell? ⟨gb245,3,none⟩ = some (.slice A0_3 l0_3.length c0_3):=(blk_cell BK245.out 3).trans rfl; have hfz11_0 := blk_frozen BK245.out 0; have hfz11_1 := blk_frozen BK245.out 1; have hfz11_2 := blk_frozen BK245.out 2; have hfz11_3 := blk_frozen BK245.out 3)|((with_reducible refine gate_callee (f := 15) rfl ?_); refine goesL_ (some 10) rfl rfl Tryz.func15 (by kernel_rfl) rfl #[.agg #[.int .i64 a0_0,.int .i64 a0_1,.string a0_2,.slice A0_3 l0_3.length c0_3]] rfl (by (try simp only [List.map_toArray,List.map_cons,List.map_nil]); first|done|rfl|(simp only [List.length_drop,List.length_take]; rfl)) ?_;(with_reducible refine (flagstoneref3_Check.calls k a0_0 a0_1 a0_2 _ _ l0_3 t246 _ ?side1 ?side2 ?side3 A2.out).mono ?_);(case side1=>repeat (first|exact (Kd.C_below HR0_3.out HB.out)|(with_reducible refine Kd.C_alloc ?_ _)|(with_reducible refine Kd.C_drewN ?_ _)|(with_reducible refine Kd.C_drew ?_)));(case side2=>exact HC0_3.out);(case side3=>exact GL.below HGL.out (by repeat (first|(with_reducible first|exact HB.out|apply zE|apply zB|apply zC|refine zJ ?_ GE245.out)|exact HB.out))); rintro e w12 ⟨rfl,hb⟩; refine ⟨_,rfl,?_⟩; have n0_ := Aside0.mk (blk_below (g := gb245) (o := .cells #[.int .i64 a0_0,.int .i64 a0_1,.string a0_2,.slice A0_3 l0_3.length c0_3] 24 (0,0)) (by (with_reducible repeat (first|refine zN ?_ _|refine zD ?_|refine zA ?_ _)); exact BK245.out) hb); have n1_ := Aside0.mk (below_step (by repeat (first|(with_reducible first|exact HB.out|apply zE|apply zB|apply zC|refine zJ ?_ GE245.out)|exact HB.out)) hb); clear BK245 HB; have BK245 := n0_; have HB := n1_; clear n0_ n1_;(try clear hb);(try clear hb2);(try clear hk);(try clear hi);(try clear hge); have hcz13_0 : w12.cell? ⟨gb245,0,none⟩ = some (.int .i64 a0_0):=(blk_cell BK245.out 0).trans rfl; have hcz13_1 : w12.cell? ⟨gb245,1,none⟩ = some (.int .i64 a0_1):=(blk_cell BK245.out 1).trans rfl; have hcz13_2 : w12.cell? ⟨gb245,2,none⟩ = some (.string a0_2):=(blk_cell BK245.out 2).trans rfl; have hcz13_3 : w12.cell? ⟨gb245,3,none⟩ = some (.slice A0_3 l0_3.length c0_3):=(blk_cell BK245.out 3).trans rfl; have hfz13_0 := blk_frozen BK245.out 0; have hfz13_1 := blk_frozen BK245.out 1; have hfz13_2 := blk_frozen BK245.out 2; have hfz13_3 := blk_frozen BK245.out 3))
    go_ret2
    exact ⟨by first|rfl|(simp [errW_none,errW_some]<;>rfl)|(simp [*,errW_none,errW_some]<;>rfl),by repeat (first|(with_reducible first|exact HB.out|apply zE|apply zB|apply zC|refine zJ ?_ GE245.out)|exact HB.out)⟩
  ·rw [if_neg c4] at H
   have c4b0 : (a0_0 == 1) = false := beq_eq_false_iff_ne.mpr c4
   have c4b1 : (a0_0 != 1) = true := bne_iff_ne.mpr c4
   by_cases c14 : a0_0 = 2
   ·rw [if_pos c14] at H
    have c14b0 : (a0_0 == 2) = true := beq_iff_eq.mpr c14
    have c14b1 : (a0_0 != 2) = false := bne_eq_false_iff_eq.mpr c14
    clear c14; replace H := Option.bind_eq_some_iff.mp H; obtain ⟨t247,A150,H⟩ := H
    replace H : (some (t247,0)) = some (r1,r2) := H
    have A15 := Aside0.mk A150; clear A150
    simp only [Option.some.injEq,Prod.mk.injEq] at H
    obtain ⟨rfl,rfl⟩ := H
    go_enter Tryz.func17,Tryz.ntmps17
    go_wp2_with (first|((with_reducible refine gate_dst (N := 1) rfl ?_); refine box_event ?hg (N := 1) ?hd (cs := #[.int .i64 a0_0,.int .i64 a0_1,.string a0_2,.slice A0_3 l0_3.length c0_3]) (t := 24) ?hr ?_;(case hd=>rfl);(case hg=>rfl);(case hr=>first|(go_simp; done)|(go_simp; rfl)); intro gb245 hg w16 hbox hb; have n0_ := Aside0.mk (below_step (by repeat (first|(with_reducible first|exact HB.out|apply zE|apply zB|apply zC)|exact HB.out)) hb); have n1_ := Aside0.mk (hbox); have n2_ := Aside0.mk ((by rw [hg]; exact (below_size (by repeat (first|(with_reducible first|exact HB.out|apply zE|apply zB|apply zC)|exact HB.out))) : w.heap.size ≤ gb245)); have n3_ := Aside0.mk ((by rw [hg]; exact (below_size (by repeat (first|(with_reducible first|exact HB.out|apply zE|apply zB|apply zC)|exact HB.out))) : w.heap.size ≤ gb245)); clear HB; have HB := n0_; have BK245 := n1_; have GW245 := n2_; have GE245 := n3_; clear n0_ n1_ n2_ n3_ hb hbox hg; have hcz17_0 : w16.cell? ⟨gb245,0,none⟩ = some (.int .i64 a0_0):=(blk_cell BK245.out 0).trans rfl; have hcz17_1 : w16.cell? ⟨gb245,1,none⟩ = some (.int .i64 a0_1):=(blk_cell BK245.out 1).trans rfl; have hcz17_2 : w16.cell? ⟨gb245,2,none⟩ = some (.string a0_2):=(blk_cell BK245.out 2).trans rfl; have hcz17_3 : w16.cell? ⟨gb245,3,none⟩ = some (.slice A0_3 l0_3.length c0_3):=(blk_cell BK245.out 3).trans rfl; have hfz17_0 := blk_frozen BK245.out 0; have hfz17_1 := blk_frozen BK245.out 1; have hfz17_2 := blk_frozen BK245.out 2; have hfz17_3 := blk_frozen BK245.out 3)|((with_reducible refine gate_callee (f := 15) rfl ?_); refine goesL_ (some 10) rfl rfl Tryz.func15 (by kernel_rfl) rfl #[.agg #[.int .i64 a0_0,.int .i64 a0_1,.string a0_2,.slice A0_3 l0_3.length c0_3]] rfl (by (try simp only [List.map_toArray,List.map_cons,List.map_nil]); first|done|rfl|(simp only [List.length_drop,List.length_take]; rfl)) ?_;(with_reducible refine (flagstoneref3_Check.calls k a0_0 a0_1 a0_2 _ _ l0_3 t246 _ ?side1 ?side2 ?side3 A2.out).mono ?_);(case side1=>repeat (first|exact (Kd.C_below HR0_3.out HB.out)|(with_reducible refine Kd.C_alloc ?_ _)|(with_reducible refine Kd.C_drewN ?_ _)|(with_reducible refine Kd.C_drew ?_)));(case side2=>exact HC0_3.out);(case side3=>exact GL.below HGL.out (by repeat (first|(with_reducible first|exact HB.out|apply zE|apply zB|apply zC|refine zJ ?_ GE245.out)|exact HB.out))); rintro e w18 ⟨rfl,hb⟩; refine ⟨_,rfl,?_⟩; have n0_ := Aside0.mk (blk_below (g := gb245) (o := .cells #[.int .i64 a0_0,.int .i64 a0_1,.string a0_2,.slice A0_3 l0_3.length c0_3] 24 (0,0)) (by (with_reducible repeat (first|refine zN ?_ _|refine zD ?_|refine zA ?_ _)); exact BK245.out) hb); have n1_ := Aside0.mk (below_step (by repeat (first|(with_reducible first|exact HB.out|apply zE|apply zB|apply zC|refine zJ ?_ GE245.out)|exact HB.out)) hb); clear BK245 HB; have BK245 := n0_; have HB := n1_; clear n0_ n1_;(try clear hb);(try clear hb2);(try clear hk);(try clear hi);(try clear hge); have hcz19_0 : w18.cell? ⟨gb245,0,none⟩ = some (.int .i64 a0_0):=(blk_cell BK245.out 0).trans rfl; have hcz19_1 : w18.cell? ⟨gb245,1,none⟩ = some (.int .i64 a0_1):=(blk_cell BK245.out 1).trans rfl; have hcz19_2 : w18.cell? ⟨gb245,2,none⟩ = some (.string a0_2):=(blk_cell BK245.out 2).trans rfl; have hcz19_3 : w18.cell? ⟨gb245,3,none⟩ = some (.slice A0_3 l0_3.length c0_3):=(blk_cell BK245.out 3).trans rfl; have hfz19_0 := blk_frozen BK245.out 0; have hfz19_1 := blk_frozen BK245.out 1; have hfz19_2 := blk_frozen BK245.out 2; have hfz19_3 := blk_frozen BK245.out 3)|((with_reducible refine gate_callee (f := 37) rfl ?_); refine goesL_ (some 25) rfl rfl Tryz.func37 (by kernel_rfl) rfl #[.int .i64 a0_1] rfl (by (try simp only [List.map_toArray,List.map_cons,List.map_nil]); first|done|rfl|(simp only [List.length_drop,List.length_take]; rfl)) ?_;(with_reducible refine (flagstoneref1_Number.calls a0_1 t247 _ A15.out).mono ?_); rintro e w' ⟨rfl,⟨nd,rfl⟩⟩; refine ⟨_,rfl,?_⟩))
    go_ret2
    exact ⟨by first|rfl|(simp [errW_none,errW_some]<;>rfl)|(simp [*,errW_none,errW_some]<;>rfl),by repeat (first|(with_reducible first|exact HB.out|apply zE|apply zB|apply zC|refine zJ ?_ GE245.out)|exact HB.out)⟩
   ·rw [if_neg c14] at H
    have c14b0 : (a0_0 == 2) = false := beq_eq_false_iff_ne.mpr c14
    have c14b1 : (a0_0 != 2) = true := bne_iff_ne.mpr c14
    by_cases c20 : a0_0 = 3
    ·rw [if_pos c20] at H
     have c20b0 : (a0_0 == 3) = true := beq_iff_eq.mpr c20
     have c20b1 : (a0_0 != 3) = false := bne_eq_false_iff_eq.mpr c20
     clear c20; replace H := Option.bind_eq_some_iff.mp H
     obtain ⟨⟨t248,t249⟩,A210,H⟩ := H
     replace H : (some (t248,t249)) = some (r1,r2) := H
     have A21 := Aside0.mk A210; clear A210
     simp only [Option.some.injEq,Prod.mk.injEq] at H
     obtain ⟨rfl,rfl⟩ := H
     go_enter Tryz.func17,Tryz.ntmps17
     go_wp2_with (first|((with_reducible refine gate_dst (N := 1) rfl ?_); refine box_event ?hg (N := 1) ?hd (cs := #[.int .i64 a0_0,.int .i64 a0_1,.string a0_2,.slice A0_3 l0_3.length c0_3]) (t := 24) ?hr ?_;(case hd=>rfl);(case hg=>rfl);(case hr=>first|(go_simp; done)|(go_simp; rfl)); intro gb245 hg w22 hbox hb; have n0_ := Aside0.mk (below_step (by repeat (first|(with_reducible first|exact HB.out|apply zE|apply zB|apply zC)|exact HB.out)) hb); have n1_ := Aside0.mk (hbox); have n2_ := Aside0.mk ((by rw [hg]; exact (below_size (by repeat (first|(with_reducible first|exact HB.out|apply zE|apply zB|apply zC)|exact HB.out))) : w.heap.size ≤ gb245)); have n3_ := Aside0.mk ((by rw [hg]; exact (below_size (by repeat (first|(with_reducible first|exact HB.out|apply zE|apply zB|apply zC)|exact HB.out))) : w.heap.size ≤ gb245)); clear HB; have HB := n0_; have BK245 := n1_; have GW245 := n2_; have GE245 := n3_; clear n0_ n1_ n2_ n3_ hb hbox hg; have hcz23_0 : w22.cell? ⟨gb245,0,none⟩ = some (.int .i64 a0_0):=(blk_cell BK245.out 0).trans rfl; have hcz23_1 : w22.cell? ⟨gb245,1,none⟩ = some (.int .i64 a0_1):=(blk_cell BK245.out 1).trans rfl; have hcz23_2 : w22.cell? ⟨gb245,2,none⟩ = some (.string a0_2):=(blk_cell BK245.out 2).trans rfl; have hcz23_3 : w22.cell? ⟨gb245,3,none⟩ = some (.slice A0_3 l0_3.length c0_3):=(blk_cell BK245.out 3).trans rfl; have hfz23_0 := blk_frozen BK245.out 0; have hfz23_1 := blk_frozen BK245.out 1; have hfz23_2 := blk_frozen BK245.out 2; have hfz23_3 := blk_frozen BK245.out 3)|((with_reducible refine gate_callee (f := 15) rfl ?_); refine goesL_ (some 10) rfl rfl Tryz.func15 (by kernel_rfl) rfl #[.agg #[.int .i64 a0_0,.int .i64 a0_1,.string a0_2,.slice A0_3 l0_3.length c0_3]] rfl (by (try simp only [List.map_toArray,List.map_cons,List.map_nil]); first|done|rfl|(simp only [List.length_drop,List.length_take]; rfl)) ?_;(with_reducible refine (flagstoneref3_Check.calls k a0_0 a0_1 a0_2 _ _ l0_3 t246 _ ?side1 ?side2 ?side3 A2.out).mono ?_);(case side1=>repeat (first|exact (Kd.C_below HR0_3.out HB.out)|(with_reducible refine Kd.C_alloc ?_ _)|(with_reducible refine Kd.C_drewN ?_ _)|(with_reducible refine Kd.C_drew ?_)));(case side2=>exact HC0_3.out);(case side3=>exact GL.below HGL.out (by repeat (first|(with_reducible first|exact HB.out|apply zE|apply zB|apply zC|refine zJ ?_ GE245.out)|exact HB.out))); rintro e w24 ⟨rfl,hb⟩; refine ⟨_,rfl,?_⟩; have n0_ := Aside0.mk (blk_below (g := gb245) (o := .cells #[.int .i64 a0_0,.int .i64 a0_1,.string a0_2,.slice A0_3 l0_3.length c0_3] 24 (0,0)) (by (with_reducible repeat (first|refine zN ?_ _|refine zD ?_|refine zA ?_ _)); exact BK245.out) hb); have n1_ := Aside0.mk (below_step (by repeat (first|(with_reducible first|exact HB.out|apply zE|apply zB|apply zC|refine zJ ?_ GE245.out)|exact HB.out)) hb); clear BK245 HB; have BK245 := n0_; have HB := n1_; clear n0_ n1_;(try clear hb);(try clear hb2);(try clear hk);(try clear hi);(try clear hge); have hcz25_0 : w24.cell? ⟨gb245,0,none⟩ = some (.int .i64 a0_0):=(blk_cell BK245.out 0).trans rfl; have hcz25_1 : w24.cell? ⟨gb245,1,none⟩ = some (.int .i64 a0_1):=(blk_cell BK245.out 1).trans rfl; have hcz25_2 : w24.cell? ⟨gb245,2,none⟩ = some (.string a0_2):=(blk_cell BK245.out 2).trans rfl; have hcz25_3 : w24.cell? ⟨gb245,3,none⟩ = some (.slice A0_3 l0_3.length c0_3):=(blk_cell BK245.out 3).trans rfl; have hfz25_0 := blk_frozen BK245.out 0; have hfz25_1 := blk_frozen BK245.out 1; have hfz25_2 := blk_frozen BK245.out 2; have hfz25_3 := blk_frozen BK245.out 3)|((with_reducible refine gate_callee (f := 38) rfl ?_); refine goesL_ (some 30) rfl rfl Tryz.func38 (by kernel_rfl) rfl #[.string a0_2] rfl (by (try simp only [List.map_toArray,List.map_cons,List.map_nil]); first|done|rfl|(simp only [List.length_drop,List.length_take]; rfl)) ?_;(with_reducible refine (flagstoneref1_Quote.calls k a0_2 t248 t249 _ ?side1 A21.out).mono ?_);(case side1=>exact GL.below HGL.out (by repeat (first|(with_reducible first|exact HB.out|apply zE|apply zB|apply zC|refine zJ ?_ GE245.out)|exact HB.out))); rintro e w26 ⟨rfl,hb⟩; refine ⟨_,rfl,?_⟩; have n0_ := Aside0.mk (blk_below (g := gb245) (o := .cells #[.int .i64 a0_0,.int .i64 a0_1,.string a0_2,.slice A0_3 l0_3.length c0_3] 24 (0,0)) (by (with_reducible repeat (first|refine zN ?_ _|refine zD ?_|refine zA ?_ _)); exact BK245.out) hb); have n1_ := Aside0.mk (below_step (by repeat (first|(with_reducible first|exact HB.out|apply zE|apply zB|apply zC|refine zJ ?_ GE245.out)|exact HB.out)) hb); clear BK245 HB; have BK245 := n0_; have HB := n1_; clear n0_ n1_;(try clear hb);(try clear hb2);(try clear hk);(try clear hi);(try clear hge)))
     go_ret2
     exact ⟨by first|rfl|(simp [errW_none,errW_some]<;>rfl)|(simp [*,errW_none,errW_some]<;>rfl),by repeat (first|(with_reducible first|exact HB.out|apply zE|apply zB|apply zC|refine zJ ?_ GE245.out)|exact HB.out)⟩
    ·rw [if_neg c20] at H
     have c20b0 : (a0_0 == 3) = false := beq_eq_false_iff_ne.mpr c20
     have c20b1 : (a0_0 != 3) = true := bne_iff_ne.mpr c20
     by_cases c27 : a0_0 = 4
     ·rw [if_pos c27] at H
      have c27b0 : (a0_0 == 4) = true := beq_iff_eq.mpr c27
      have c27b1 : (a0_0 != 4) = false := bne_eq_false_iff_eq.mpr c27
      clear c27
      simp only [Option.some.injEq,Prod.mk.injEq] at H
      obtain ⟨rfl,rfl⟩ := H
      go_enter Tryz.func17,Tryz.ntmps17
      go_wp2_with (first|((with_reducible refine gate_dst (N := 1) rfl ?_); refine box_event ?hg (N := 1) ?hd (cs := #[.int .i64 a0_0,.int .i64 a0_1,.string a0_2,.slice A0_3 l0_3.length c0_3]) (t := 24) ?hr ?_;(case hd=>rfl);(case hg=>rfl);(case hr=>first|(go_simp; done)|(go_simp; rfl)); intro gb245 hg w28 hbox hb; have n0_ := Aside0.mk (below_step (by repeat (first|(with_reducible first|exact HB.out|apply zE|apply zB|apply zC)|exact HB.out)) hb); have n1_ := Aside0.mk (hbox); have n2_ := Aside0.mk ((by rw [hg]; exact (below_size (by repeat (first|(with_reducible first|exact HB.out|apply zE|apply zB|apply zC)|exact HB.out))) : w.heap.size ≤ gb245)); have n3_ := Aside0.mk ((by rw [hg]; exact (below_size (by repeat (first|(with_reducible first|exact HB.out|apply zE|apply zB|apply zC)|exact HB.out))) : w.heap.size ≤ gb245)); clear HB; have HB := n0_; have BK245 := n1_; have GW245 := n2_; have GE245 := n3_; clear n0_ n1_ n2_ n3_ hb hbox hg; have hcz29_0 : w28.cell? ⟨gb245,0,none⟩ = some (.int .i64 a0_0):=(blk_cell BK245.out 0).trans rfl; have hcz29_1 : w28.cell? ⟨gb245,1,none⟩ = some (.int .i64 a0_1):=(blk_cell BK245.out 1).trans rfl; have hcz29_2 : w28.cell? ⟨gb245,2,none⟩ = some (.string a0_2):=(blk_cell BK245.out 2).trans rfl; have hcz29_3 : w28.cell? ⟨gb245,3,none⟩ = some (.slice A0_3 l0_3.length c0_3):=(blk_cell BK245.out 3).trans rfl; have hfz29_0 := blk_frozen BK245.out 0; have hfz29_1 := blk_frozen BK245.out 1; have hfz29_2 := blk_frozen BK245.out 2; have hfz29_3 := blk_frozen BK245.out 3)|((with_reducible refine gate_callee (f := 15) rfl ?_); refine goesL_ (some 10) rfl rfl Tryz.func15 (by kernel_rfl) rfl #[.agg #[.int .i64 a0_0,.int .i64 a0_1,.string a0_2,.slice A0_3 l0_3.length c0_3]] rfl (by (try simp only [List.map_toArray,List.map_cons,List.map_nil]); first|done|rfl|(simp only [List.length_drop,List.length_take]; rfl)) ?_;(with_reducible refine (flagstoneref3_Check.calls k a0_0 a0_1 a0_2 _ _ l0_3 t246 _ ?side1 ?side2 ?side3 A2.out).mono ?_);(case side1=>repeat (first|exact (Kd.C_below HR0_3.out HB.out)|(with_reducible refine Kd.C_alloc ?_ _)|(with_reducible refine Kd.C_drewN ?_ _)|(with_reducible refine Kd.C_drew ?_)));(case side2=>exact HC0_3.out);(case side3=>exact GL.below HGL.out (by repeat (first|(with_reducible first|exact HB.out|apply zE|apply zB|apply zC|refine zJ ?_ GE245.out)|exact HB.out))); rintro e w30 ⟨rfl,hb⟩; refine ⟨_,rfl,?_⟩; have n0_ := Aside0.mk (blk_below (g := gb245) (o := .cells #[.int .i64 a0_0,.int .i64 a0_1,.string a0_2,.slice A0_3 l0_3.length c0_3] 24 (0,0)) (by (with_reducible repeat (first|refine zN ?_ _|refine zD ?_|refine zA ?_ _)); exact BK245.out) hb); have n1_ := Aside0.mk (below_step (by repeat (first|(with_reducible first|exact HB.out|apply zE|apply zB|apply zC|refine zJ ?_ GE245.out)|exact HB.out)) hb); clear BK245 HB; have BK245 := n0_; have HB := n1_; clear n0_ n1_;(try clear hb);(try clear hb2);(try clear hk);(try clear hi);(try clear hge); have hcz31_0 : w30.cell? ⟨gb245,0,none⟩ = some (.int .i64 a0_0):=(blk_cell BK245.out 0).trans rfl; have hcz31_1 : w30.cell? ⟨gb245,1,none⟩ = some (.int .i64 a0_1):=(blk_cell BK245.out 1).trans rfl; have hcz31_2 : w30.cell? ⟨gb245,2,none⟩ = some (.string a0_2):=(blk_cell BK245.out 2).trans rfl; have hcz31_3 : w30.cell? ⟨gb245,3,none⟩ = some (.slice A0_3 l0_3.length c0_3):=(blk_cell BK245.out 3).trans rfl; have hfz31_0 := blk_frozen BK245.out 0; have hfz31_1 := blk_frozen BK245.out 1; have hfz31_2 := blk_frozen BK245.out 2; have hfz31_3 := blk_frozen BK245.out 3))
      go_ret2
      exact ⟨by first|rfl|(simp [errW_none,errW_some]<;>rfl)|(simp [*,errW_none,errW_some]<;>rfl),by repeat (first|(with_reducible first|exact HB.out|apply zE|apply zB|apply zC|refine zJ ?_ GE245.out)|exact HB.out)⟩
     ·rw [if_neg c27] at H
      have c27b0 : (a0_0 == 4) = false := beq_eq_false_iff_ne.mpr c27
      have c27b1 : (a0_0 != 4) = true := bne_iff_ne.mpr c27
      have H' := Aside0.mk H; clear H
      go_enter Tryz.func17,Tryz.ntmps17
      go_wp2_with (first|((with_reducible refine gate_dst (N := 1) rfl ?_); refine box_event ?hg (N := 1) ?hd (cs := #[.int .i64 a0_0,.int .i64 a0_1,.string a0_2,.slice A0_3 l0_3.length c0_3]) (t := 24) ?hr ?_;(case hd=>rfl);(case hg=>rfl);(case hr=>first|(go_simp; done)|(go_simp; rfl)); intro gb245 hg w32 hbox hb; have n0_ := Aside0.mk (below_step (by repeat (first|(with_reducible first|exact HB.out|apply zE|apply zB|apply zC)|exact HB.out)) hb); have n1_ := Aside0.mk (hbox); have n2_ := Aside0.mk ((by rw [hg]; exact (below_size (by repeat (first|(with_reducible first|exact HB.out|apply zE|apply zB|apply zC)|exact HB.out))) : w.heap.size ≤ gb245)); have n3_ := Aside0.mk ((by rw [hg]; exact (below_size (by repeat (first|(with_reducible first|exact HB.out|apply zE|apply zB|apply zC)|exact HB.out))) : w.heap.size ≤ gb245)); clear HB; have HB := n0_; have BK245 := n1_; have GW245 := n2_; have GE245 := n3_; clear n0_ n1_ n2_ n3_ hb hbox hg; have hcz33_0 : w32.cell? ⟨gb245,0,none⟩ = some (.int .i64 a0_0):=(blk_cell BK245.out 0).trans rfl; have hcz33_1 : w32.cell? ⟨gb245,1,none⟩ = some (.int .i64 a0_1):=(blk_cell BK245.out 1).trans rfl; have hcz33_2 : w32.cell? ⟨gb245,2,none⟩ = some (.string a0_2):=(blk_cell BK245.out 2).trans rfl; have hcz33_3 : w32.cell? ⟨gb245,3,none⟩ = some (.slice A0_3 l0_3.length c0_3):=(blk_cell BK245.out 3).trans rfl; have hfz33_0 := blk_frozen BK245.out 0; have hfz33_1 := blk_frozen BK245.out 1; have hfz33_2 := blk_frozen BK245.out 2; have hfz33_3 := blk_frozen BK245.out 3)|((with_reducible refine gate_callee (f := 15) rfl ?_); refine goesL_ (some 10) rfl rfl Tryz.func15 (by kernel_rfl) rfl #[.agg #[.int .i64 a0_0,.int .i64 a0_1,.string a0_2,.slice A0_3 l0_3.length c0_3]] rfl (by (try simp only [List.map_toArray,List.map_cons,List.map_nil]); first|done|rfl|(simp only [List.length_drop,List.length_take]; rfl)) ?_;(with_reducible refine (flagstoneref3_Check.calls k a0_0 a0_1 a0_2 _ _ l0_3 t246 _ ?side1 ?side2 ?side3 A2.out).mono ?_);(case side1=>repeat (first|exact (Kd.C_below HR0_3.out HB.out)|(with_reducible refine Kd.C_alloc ?_ _)|(with_reducible refine Kd.C_drewN ?_ _)|(with_reducible refine Kd.C_drew ?_)));(case side2=>exact HC0_3.out);(case side3=>exact GL.below HGL.out (by repeat (first|(with_reducible first|exact HB.out|apply zE|apply zB|apply zC|refine zJ ?_ GE245.out)|exact HB.out))); rintro e w34 ⟨rfl,hb⟩; refine ⟨_,rfl,?_⟩; have n0_ := Aside0.mk (blk_below (g := gb245) (o := .cells #[.int .i64 a0_0,.int .i64 a0_1,.string a0_2,.slice A0_3 l0_3.length c0_3] 24 (0,0)) (by (with_reducible repeat (first|refine zN ?_ _|refine zD ?_|refine zA ?_ _)); exact BK245.out) hb); have n1_ := Aside0.mk (below_step (by repeat (first|(with_reducible first|exact HB.out|apply zE|apply zB|apply zC|refine zJ ?_ GE245.out)|exact HB.out)) hb); clear BK245 HB; have BK245 := n0_; have HB := n1_; clear n0_ n1_;(try clear hb);(try clear hb2);(try clear hk);(try clear hi);(try clear hge); have hcz35_0 : w34.cell? ⟨gb245,0,none⟩ = some (.int .i64 a0_0):=(blk_cell BK245.out 0).trans rfl; have hcz35_1 : w34.cell? ⟨gb245,1,none⟩ = some (.int .i64 a0_1):=(blk_cell BK245.out 1).trans rfl; have hcz35_2 : w34.cell? ⟨gb245,2,none⟩ = some (.string a0_2):=(blk_cell BK245.out 2).trans rfl; have hcz35_3 : w34.cell? ⟨gb245,3,none⟩ = some (.slice A0_3 l0_3.length c0_3):=(blk_cell BK245.out 3).trans rfl; have hfz35_0 := blk_frozen BK245.out 0; have hfz35_1 := blk_frozen BK245.out 1; have hfz35_2 := blk_frozen BK245.out 2; have hfz35_3 := blk_frozen BK245.out 3))
      go_loopg [5,6] k (fun kq v5 v6 w'=>∃ (x5_1 : ByteArray) (x6_1 : Int),v5 = .string x5_1 ∧ v6 = .int .i64 x6_1 ∧ Aside0 (flagstoneref3_Format.l0 kq x5_1 x6_1 a0_0 a0_1 a0_2 l0_3 = some (r1,r2)) ∧ Aside0 (kq ≤ k) ∧ Aside0 (w'.heap[gb245]? = some (.cells #[.int .i64 a0_0,.int .i64 a0_1,.string a0_2,(.slice A0_3 l0_3.length c0_3)] 24 (0,0))) ∧ Aside0 (Below w.heap.size w w'))
      case atStart=>exact ⟨((⟨#[91]⟩ : ByteArray)),(0),(by first|rfl|(simp; done)|(simp [*]; done)),(by first|rfl|(simp; done)|(simp [*]; done)),H',⟨Nat.le_refl _⟩,⟨by (with_reducible repeat (first|refine zN ?_ _|refine zD ?_|refine zA ?_ _)); exact BK245.out⟩,⟨by repeat (first|(with_reducible first|exact HB.out|apply zE|apply zB|apply zC|refine zJ ?_ GE245.out)|exact HB.out)⟩⟩
      case round =>
       clear H';(try clear c1);(try clear c2);(try clear p2);(try clear c3);(try clear c3b0);(try clear c3b1);(try clear c4);(try clear c4b0);(try clear c4b1);(try clear c5);(try clear c5b0);(try clear c5b1);(try clear c14);(try clear c14b0);(try clear c14b1);(try clear c15);(try clear c17);(try clear c20);(try clear c20b0);(try clear c20b1);(try clear c27);(try clear c27b0);(try clear c27b1);(try clear hcz11_0);(try clear hcz11_1);(try clear hcz11_2);(try clear hcz11_3);(try clear hcz13_0);(try clear hcz13_1);(try clear hcz13_2);(try clear hcz13_3);(try clear hcz17_0);(try clear hcz17_1);(try clear hcz17_2);(try clear hcz17_3);(try clear hcz19_0);(try clear hcz19_1);(try clear hcz19_2);(try clear hcz19_3);(try clear hcz23_0);(try clear hcz23_1);(try clear hcz23_2);(try clear hcz23_3);(try clear hcz25_0);(try clear hcz25_1);(try clear hcz25_2);(try clear hcz25_3);(try clear hcz29_0);(try clear hcz29_1);(try clear hcz29_2);(try clear hcz29_3);(try clear hcz31_0);(try clear hcz31_1);(try clear hcz31_2);(try clear hcz31_3);(try clear hcz33_0);(try clear hcz33_1);(try clear hcz33_2);(try clear hcz33_3);(try clear hcz35_0);(try clear hcz35_1);(try clear hcz35_2);(try clear hcz35_3);(try clear hcz7_0);(try clear hcz7_1);(try clear hcz7_2);(try clear hcz7_3);(try clear hcz9_0);(try clear hcz9_1);(try clear hcz9_2);(try clear hcz9_3);(try clear hfz11_0);(try clear hfz11_1);(try clear hfz11_2);(try clear hfz11_3);(try clear hfz13_0);(try clear hfz13_1);(try clear hfz13_2);(try clear hfz13_3);(try clear hfz17_0);(try clear hfz17_1);(try clear hfz17_2);(try clear hfz17_3);(try clear hfz19_0);(try clear hfz19_1);(try clear hfz19_2);(try clear hfz19_3);(try clear hfz23_0);(try clear hfz23_1);(try clear hfz23_2);(try clear hfz23_3);(try clear hfz25_0);(try clear hfz25_1);(try clear hfz25_2);(try clear hfz25_3);(try clear hfz29_0);(try clear hfz29_1);(try clear hfz29_2);(try clear hfz29_3);(try clear hfz31_0);(try clear hfz31_1);(try clear hfz31_2);(try clear hfz31_3);(try clear hfz33_0);(try clear hfz33_1);(try clear hfz33_2);(try clear hfz33_3);(try clear hfz35_0);(try clear hfz35_1);(try clear hfz35_2);(try clear hfz35_3);(try clear hfz7_0);(try clear hfz7_1);(try clear hfz7_2);(try clear hfz7_3);(try clear hfz9_0);(try clear hfz9_1);(try clear hfz9_2);(try clear hfz9_3)
       obtain ⟨x5_1,x6_1,rfl,rfl,HA,HK1,BK245,HB⟩ := hrel
       cases gk with
       | zero=>exact absurd HA.out (by simp [flagstoneref3_Format.l0])
       | succ k1 =>
        have H := HA.out; clear HA
        simp only [flagstoneref3_Format.l0] at H
        by_cases c36 : x6_1 < (l0_3.length : Int)
        ·rw [if_pos c36] at H
         have c36b0 : decide (x6_1 < (l0_3.length : Int)) = true := decide_eq_true c36
         clear c36
         by_cases c37 : 0 ≤ x6_1
         ·rw [if_pos c37] at H
          have c37b0 : decide (0 ≤ x6_1) = true := decide_eq_true c37
          clear c37; replace H := Option.bind_eq_some_iff.mp H
          obtain ⟨⟨t251,t252⟩,A380,H⟩ := H
          replace H : (if x6_1 > 0 then (if x5_1.size + 2 ≤ 9223372036854775807 then (if (x5_1 ++ (⟨#[44,32]⟩ : ByteArray)).size + t251.size ≤ 9223372036854775807 then (flagstoneref3_Format.l0 k1 ((x5_1 ++ (⟨#[44,32]⟩ : ByteArray)) ++ t251) (wrap64 (x6_1 + 1)) a0_0 a0_1 a0_2 l0_3) else (none)) else (none)) else (if x5_1.size + t251.size ≤ 9223372036854775807 then (flagstoneref3_Format.l0 k1 (x5_1 ++ t251) (wrap64 (x6_1 + 1)) a0_0 a0_1 a0_2 l0_3) else (none))) = some (r1,r2) := H
          have A38 := Aside0.mk A380; clear A380
          by_cases c39 : x6_1 > 0
          ·rw [if_pos c39] at H
           have c39b0 : decide (0 < x6_1) = true := decide_eq_true c39
           clear c39
           by_cases c40 : x5_1.size + 2 ≤ 9223372036854775807
           ·rw [if_pos c40] at H
            have c40b0 := eq_true c40
            have c40b1 : decide (x5_1.size + 2 ≤ 9223372036854775807) = true := decide_eq_true c40
            try have c40b2 : (9223372036854775807 < x5_1.size + 2) = False := eq_false (Nat.not_lt.2 c40)
            by_cases c41 : (x5_1 ++ (⟨#[44,32]⟩ : ByteArray)).size + t251.size ≤ 9223372036854775807
            ·rw [if_pos c41] at H
             have c41b0 := eq_true c41
             have c41b1 : decide ((x5_1 ++ (⟨#[44,32]⟩ : ByteArray)).size + t251.size ≤ 9223372036854775807) = true := decide_eq_true c41
             try have c41b2 : (9223372036854775807 < (x5_1 ++ (⟨#[44,32]⟩ : ByteArray)).size + t251.size) = False := eq_false (Nat.not_lt.2 c41)
             have H' := Aside0.mk H; clear H
             have hcz42_0 : wr.cell? ⟨gb245,0,none⟩ = some (.int .i64 a0_0):=(blk_cell BK245.out 0).trans rfl
             have hcz42_1 : wr.cell? ⟨gb245,1,none⟩ = some (.int .i64 a0_1):=(blk_cell BK245.out 1).trans rfl
             have hcz42_2 : wr.cell? ⟨gb245,2,none⟩ = some (.string a0_2):=(blk_cell BK245.out 2).trans rfl
             have hcz42_3 : wr.cell? ⟨gb245,3,none⟩ = some (.slice A0_3 l0_3.length c0_3):=(blk_cell BK245.out 3).trans rfl
             have hfz42_0 := blk_frozen BK245.out 0
             have hfz42_1 := blk_frozen BK245.out 1
             have hfz42_2 := blk_frozen BK245.out 2
             have hfz42_3 := blk_frozen BK245.out 3
             have p250 : 0 ≤ (x6_1 : Int) := of_decide_eq_true (by first|(with_reducible assumption)|assumption)
             have q250 : x6_1 < (l0_3.length : Int) := of_decide_eq_true (by first|(with_reducible assumption)|assumption)
             obtain ⟨ad250,e250,hx250_0⟩ := Kd.at_string HR0_3.out x6_1 p250 q250
             cases e250
             replace hx250_0:=(HB.out.cell (World.block_lt_of_cell? w _ hx250_0)).trans hx250_0
             replace p250 := eq_true p250
             replace q250 := eq_true q250
             go_wp2_with (first|((with_reducible refine gate_callee (f := 38) rfl ?_); refine goesL_ (some 50) rfl rfl Tryz.func38 (by kernel_rfl) rfl #[.string (rdOf ByteArray.empty l0_3 x6_1)] rfl (by (try simp only [List.map_toArray,List.map_cons,List.map_nil]); first|done|rfl|(simp only [List.length_drop,List.length_take]; rfl)) ?_;(with_reducible refine (flagstoneref1_Quote.calls k1 (rdOf ByteArray.empty l0_3 x6_1) t251 t252 _ ?side1 A38.out).mono ?_);(case side1=>exact GL.below HGL.out (by repeat (first|(with_reducible first|exact HB.out|apply zE|apply zB|apply zC|refine zJ ?_ GE245.out)|exact HB.out))); rintro e w43 ⟨rfl,hb⟩; refine ⟨_,rfl,?_⟩; have n0_ := Aside0.mk (blk_below (g := gb245) (o := .cells #[.int .i64 a0_0,.int .i64 a0_1,.string a0_2,.slice (some ad250) l0_3.length c0_3] 24 (0,0)) (by (with_reducible repeat (first|refine zN ?_ _|refine zD ?_|refine zA ?_ _)); exact BK245.out) hb); have n1_ := Aside0.mk (below_step (by repeat (first|(with_reducible first|exact HB.out|apply zE|apply zB|apply zC|refine zJ ?_ GE245.out)|exact HB.out)) hb); clear BK245 HB; have BK245 := n0_; have HB := n1_; clear n0_ n1_;(try clear hb);(try clear hb2);(try clear hk);(try clear hi);(try clear hge)))
             go_roundg k1
             case measure=>have := HK1.out; omega
             case rel=>exact ⟨((x5_1 ++ (⟨#[44,32]⟩ : ByteArray)) ++ t251),(wrap64 (x6_1 + 1)),(by first|rfl|(simp; done)|(simp [*]; done)),(by first|rfl|(simp; done)|(simp [*]; done)),H',⟨by have := HK1.out; omega⟩,⟨by (with_reducible repeat (first|refine zN ?_ _|refine zD ?_|refine zA ?_ _)); exact BK245.out⟩,⟨by repeat (first|(with_reducible first|exact HB.out|apply zE|apply zB|apply zC|refine zJ ?_ GE245.out)|exact HB.out)⟩⟩
            ·rw [if_neg c41] at H
             exact absurd H (by simp)
           ·rw [if_neg c40] at H
            exact absurd H (by simp)
          ·rw [if_neg c39] at H
           have c39b0 : decide (0 < x6_1) = false := decide_eq_false c39
           clear c39
           by_cases c44 : x5_1.size + t251.size ≤ 9223372036854775807
           ·rw [if_pos c44] at H
            have c44b0 := eq_true c44
            have c44b1 : decide (x5_1.size + t251.size ≤ 9223372036854775807) = true := decide_eq_true c44
            try have c44b2 : (9223372036854775807 < x5_1.size + t251.size) = False := eq_false (Nat.not_lt.2 c44)
            have H' := Aside0.mk H; clear H
            have hcz45_0 : wr.cell? ⟨gb245,0,none⟩ = some (.int .i64 a0_0):=(blk_cell BK245.out 0).trans rfl
            have hcz45_1 : wr.cell? ⟨gb245,1,none⟩ = some (.int .i64 a0_1):=(blk_cell BK245.out 1).trans rfl
            have hcz45_2 : wr.cell? ⟨gb245,2,none⟩ = some (.string a0_2):=(blk_cell BK245.out 2).trans rfl
            have hcz45_3 : wr.cell? ⟨gb245,3,none⟩ = some (.slice A0_3 l0_3.length c0_3):=(blk_cell BK245.out 3).trans rfl
            have hfz45_0 := blk_frozen BK245.out 0
            have hfz45_1 := blk_frozen BK245.out 1
            have hfz45_2 := blk_frozen BK245.out 2
            have hfz45_3 := blk_frozen BK245.out 3
            have p250 : 0 ≤ (x6_1 : Int) := of_decide_eq_true (by first|(with_reducible assumption)|assumption)
            have q250 : x6_1 < (l0_3.length : Int) := of_decide_eq_true (by first|(with_reducible assumption)|assumption)
            obtain ⟨ad250,e250,hx250_0⟩ := Kd.at_string HR0_3.out x6_1 p250 q250
            cases e250
            replace hx250_0:=(HB.out.cell (World.block_lt_of_cell? w _ hx250_0)).trans hx250_0
            replace p250 := eq_true p250
            replace q250 := eq_true q250
            go_wp2_with (first|((with_reducible refine gate_callee (f := 38) rfl ?_); refine goesL_ (some 50) rfl rfl Tryz.func38 (by kernel_rfl) rfl #[.string (rdOf ByteArray.empty l0_3 x6_1)] rfl (by (try simp only [List.map_toArray,List.map_cons,List.map_nil]); first|done|rfl|(simp only [List.length_drop,List.length_take]; rfl)) ?_;(with_reducible refine (flagstoneref1_Quote.calls k1 (rdOf ByteArray.empty l0_3 x6_1) t251 t252 _ ?side1 A38.out).mono ?_);(case side1=>exact GL.below HGL.out (by repeat (first|(with_reducible first|exact HB.out|apply zE|apply zB|apply zC|refine zJ ?_ GE245.out)|exact HB.out))); rintro e w46 ⟨rfl,hb⟩; refine ⟨_,rfl,?_⟩; have n0_ := Aside0.mk (blk_below (g := gb245) (o := .cells #[.int .i64 a0_0,.int .i64 a0_1,.string a0_2,.slice (some ad250) l0_3.length c0_3] 24 (0,0)) (by (with_reducible repeat (first|refine zN ?_ _|refine zD ?_|refine zA ?_ _)); exact BK245.out) hb); have n1_ := Aside0.mk (below_step (by repeat (first|(with_reducible first|exact HB.out|apply zE|apply zB|apply zC|refine zJ ?_ GE245.out)|exact HB.out)) hb); clear BK245 HB; have BK245 := n0_; have HB := n1_; clear n0_ n1_;(try clear hb);(try clear hb2);(try clear hk);(try clear hi);(try clear hge)))
            go_roundg k1
            case measure=>have := HK1.out; omega
            case rel=>exact ⟨(x5_1 ++ t251),(wrap64 (x6_1 + 1)),(by first|rfl|(simp; done)|(simp [*]; done)),(by first|rfl|(simp; done)|(simp [*]; done)),H',⟨by have := HK1.out; omega⟩,⟨by (with_reducible repeat (first|refine zN ?_ _|refine zD ?_|refine zA ?_ _)); exact BK245.out⟩,⟨by repeat (first|(with_reducible first|exact HB.out|apply zE|apply zB|apply zC|refine zJ ?_ GE245.out)|exact HB.out)⟩⟩
           ·rw [if_neg c44] at H
            exact absurd H (by simp)
         ·rw [if_neg c37] at H
          exact absurd H (by simp)
        ·rw [if_neg c36] at H
         have c36b0 : decide (x6_1 < (l0_3.length : Int)) = false := decide_eq_false c36
         clear c36
         by_cases c47 : x5_1.size + 1 ≤ 9223372036854775807
         ·rw [if_pos c47] at H
          have c47b0 := eq_true c47
          have c47b1 : decide (x5_1.size + 1 ≤ 9223372036854775807) = true := decide_eq_true c47
          try have c47b2 : (9223372036854775807 < x5_1.size + 1) = False := eq_false (Nat.not_lt.2 c47)
          simp only [Option.some.injEq,Prod.mk.injEq] at H
          obtain ⟨rfl,rfl⟩ := H
          have hcz48_0 : wr.cell? ⟨gb245,0,none⟩ = some (.int .i64 a0_0):=(blk_cell BK245.out 0).trans rfl
          have hcz48_1 : wr.cell? ⟨gb245,1,none⟩ = some (.int .i64 a0_1):=(blk_cell BK245.out 1).trans rfl
          have hcz48_2 : wr.cell? ⟨gb245,2,none⟩ = some (.string a0_2):=(blk_cell BK245.out 2).trans rfl
          have hcz48_3 : wr.cell? ⟨gb245,3,none⟩ = some (.slice A0_3 l0_3.length c0_3):=(blk_cell BK245.out 3).trans rfl
          have hfz48_0 := blk_frozen BK245.out 0
          have hfz48_1 := blk_frozen BK245.out 1
          have hfz48_2 := blk_frozen BK245.out 2
          have hfz48_3 := blk_frozen BK245.out 3
          go_wp2
          go_ret2
          exact ⟨by first|rfl|(simp [errW_none,errW_some]<;>rfl)|(simp [*,errW_none,errW_some]<;>rfl),by repeat (first|(with_reducible first|exact HB.out|apply zE|apply zB|apply zC|refine zJ ?_ GE245.out)|exact HB.out)⟩
         ·rw [if_neg c47] at H
          exact absurd H (by simp)
 ·rw [if_neg c3] at H
  have c3b0 : (t246 == 0) = false := beq_eq_false_iff_ne.mpr c3
  have c3b1 : (t246 != 0) = true := bne_iff_ne.mpr c3
  simp only [Option.some.injEq,Prod.mk.injEq] at H
  obtain ⟨rfl,rfl⟩ := H
  go_enter Tryz.func17,Tryz.ntmps17
  go_wp2_with (first|((with_reducible refine gate_dst (N := 1) rfl ?_); refine box_event ?hg (N := 1) ?hd (cs := #[.int .i64 a0_0,.int .i64 a0_1,.string a0_2,.slice A0_3 l0_3.length c0_3]) (t := 24) ?hr ?_;(case hd=>rfl);(case hg=>rfl);(case hr=>first|(go_simp; done)|(go_simp; rfl)); intro gb245 hg w49 hbox hb; have n0_ := Aside0.mk (below_step (by repeat (first|(with_reducible first|exact HB.out|apply zE|apply zB|apply zC)|exact HB.out)) hb); have n1_ := Aside0.mk (hbox); have n2_ := Aside0.mk ((by rw [hg]; exact (below_size (by repeat (first|(with_reducible first|exact HB.out|apply zE|apply zB|apply zC)|exact HB.out))) : w.heap.size ≤ gb245)); have n3_ := Aside0.mk ((by rw [hg]; exact (below_size (by repeat (first|(with_reducible first|exact HB.out|apply zE|apply zB|apply zC)|exact HB.out))) : w.heap.size ≤ gb245)); clear HB; have HB := n0_; have BK245 := n1_; have GW245 := n2_; have GE245 := n3_; clear n0_ n1_ n2_ n3_ hb hbox hg; have hcz50_0 : w49.cell? ⟨gb245,0,none⟩ = some (.int .i64 a0_0):=(blk_cell BK245.out 0).trans rfl; have hcz50_1 : w49.cell? ⟨gb245,1,none⟩ = some (.int .i64 a0_1):=(blk_cell BK245.out 1).trans rfl; have hcz50_2 : w49.cell? ⟨gb245,2,none⟩ = some (.string a0_2):=(blk_cell BK245.out 2).trans rfl; have hcz50_3 : w49.cell? ⟨gb245,3,none⟩ = some (.slice A0_3 l0_3.length c0_3):=(blk_cell BK245.out 3).trans rfl; have hfz50_0 := blk_frozen BK245.out 0; have hfz50_1 := blk_frozen BK245.out 1; have hfz50_2 := blk_frozen BK245.out 2; have hfz50_3 := blk_frozen BK245.out 3)|((with_reducible refine gate_callee (f := 15) rfl ?_); refine goesL_ (some 10) rfl rfl Tryz.func15 (by kernel_rfl) rfl #[.agg #[.int .i64 a0_0,.int .i64 a0_1,.string a0_2,.slice A0_3 l0_3.length c0_3]] rfl (by (try simp only [List.map_toArray,List.map_cons,List.map_nil]); first|done|rfl|(simp only [List.length_drop,List.length_take]; rfl)) ?_;(with_reducible refine (flagstoneref3_Check.calls k a0_0 a0_1 a0_2 _ _ l0_3 t246 _ ?side1 ?side2 ?side3 A2.out).mono ?_);(case side1=>repeat (first|exact (Kd.C_below HR0_3.out HB.out)|(with_reducible refine Kd.C_alloc ?_ _)|(with_reducible refine Kd.C_drewN ?_ _)|(with_reducible refine Kd.C_drew ?_)));(case side2=>exact HC0_3.out);(case side3=>exact GL.below HGL.out (by repeat (first|(with_reducible first|exact HB.out|apply zE|apply zB|apply zC|refine zJ ?_ GE245.out)|exact HB.out))); rintro e w51 ⟨rfl,hb⟩; refine ⟨_,rfl,?_⟩; have n0_ := Aside0.mk (blk_below (g := gb245) (o := .cells #[.int .i64 a0_0,.int .i64 a0_1,.string a0_2,.slice A0_3 l0_3.length c0_3] 24 (0,0)) (by (with_reducible repeat (first|refine zN ?_ _|refine zD ?_|refine zA ?_ _)); exact BK245.out) hb); have n1_ := Aside0.mk (below_step (by repeat (first|(with_reducible first|exact HB.out|apply zE|apply zB|apply zC|refine zJ ?_ GE245.out)|exact HB.out)) hb); clear BK245 HB; have BK245 := n0_; have HB := n1_; clear n0_ n1_;(try clear hb);(try clear hb2);(try clear hk);(try clear hi);(try clear hge)))
  go_ret2
  exact ⟨by first|rfl|(simp [errW_none,errW_some]<;>rfl)|(simp [*,errW_none,errW_some]<;>rfl),by repeat (first|(with_reducible first|exact HB.out|apply zE|apply zB|apply zC|refine zJ ?_ GE245.out)|exact HB.out)⟩

/-! ### flagstoneref1_Same: function 40 -/
def flagstoneref1_Same.l0 : Nat → List ByteArray → List ByteArray → Int → Option (Bool)
 | 0,_,_,_=>none
 | k + 1,x0,x1,x5=>if x5 < (x0.length : Int) then (if 0 ≤ x5 then (if x5 < (x1.length : Int) then (if (rdOf ByteArray.empty x0 x5).toList = (rdOf ByteArray.empty x1 x5).toList then (flagstoneref1_Same.l0 k x0 x1 (wrap64 (x5 + 1))) else (some false)) else (none)) else (none)) else (some true)
def flagstoneref1_Same.f (k : Nat) (l0 : List ByteArray) (l1 : List ByteArray) : Option (Bool) := if (l0.length : Int) = (l1.length : Int) then (flagstoneref1_Same.l0 k l0 l1 0) else (some false)
theorem flagstoneref1_Same.mono_l : ∀ k, (∀ y0 y1 y2, LeO (flagstoneref1_Same.l0 k y0 y1 y2) (flagstoneref1_Same.l0 (k + 1) y0 y1 y2))
 | 0=>fun _ _ _ r h=>by simp [flagstoneref1_Same.l0] at h
 | k + 1=>by
  have ih0 := flagstoneref1_Same.mono_l k
  ·intro y0 y1 y2
   unfold flagstoneref1_Same.l0
   repeat' first
   | (with_reducible exact ih0 _ _ _)
   | (with_reducible exact LeO.refl _)
   | (with_reducible exact LeO.none _)
   | (with_reducible refine LeO.ite ?_ ?_)
   | (with_reducible refine LeO.bind ?_ (fun _=>?_))
   | exact ih0 _ _ _
   | exact LeO.none _
   | refine LeO.ite ?_ ?_
   | refine LeO.bind ?_ (fun _=>?_)
theorem flagstoneref1_Same.mono : ∀ a0 a1 k, LeO (flagstoneref1_Same.f k a0 a1) (flagstoneref1_Same.f (k + 1) a0 a1) := by
 intro a0 a1 k
 have ih0 := flagstoneref1_Same.mono_l k
 unfold flagstoneref1_Same.f
 repeat' first
   | (with_reducible exact ih0 _ _ _)
   | (with_reducible exact LeO.refl _)
   | (with_reducible exact LeO.none _)
   | (with_reducible refine LeO.ite ?_ ?_)
   | (with_reducible refine LeO.bind ?_ (fun _=>?_))
   | exact ih0 _ _ _
   | exact LeO.none _
   | refine LeO.ite ?_ ?_
   | refine LeO.bind ?_ (fun _=>?_)
set_option maxHeartbeats 8000000 in
set_option maxRecDepth 100000 in
theorem flagstoneref1_Same.calls (k : Nat) (A0 : Option Addr) (c0 : Nat) (l0 : List ByteArray) (A1 : Option Addr) (c1 : Nat) (l1 : List ByteArray) (r : Bool) (w : World) (hr0 : Kd.C Kd.string w A0 l0.length l0) (hc0 : l0.length ≤ c0) (hr1 : Kd.C Kd.string w A1 l1.length l1) (hc1 : l1.length ≤ c1) (h : flagstoneref1_Same.f k l0 l1 = some r) :
  Calls Tryz.prog 40 #[.slice A0 l0.length c0,.slice A1 l1.length c1] w fun e w'=>e = .returned (.bool r) ∧ Drawn0 w w' := by
 have HR0 := Aside0.mk hr0; have HC0 := Aside0.mk hc0; clear hr0 hc0; have HR1 := Aside0.mk hr1; have HC1 := Aside0.mk hc1; clear hr1 hc1
 have H : (if (l0.length : Int) = (l1.length : Int) then (flagstoneref1_Same.l0 k l0 l1 0) else (some false)) = some r := h
 clear h
 by_cases c3 : (l0.length : Int) = (l1.length : Int)
 ·rw [if_pos c3] at H
  have c3b0 : ((l0.length : Int) == (l1.length : Int)) = true := beq_iff_eq.mpr c3
  have c3b1 : ((l0.length : Int) != (l1.length : Int)) = false := bne_eq_false_iff_eq.mpr c3
  have c3b2 : (l0.length == l1.length) = true := by first|simpa using c3|(simp at c3 ⊢; omega)
  clear c3; have H' := Aside0.mk H; clear H
  go_enter Tryz.func40,Tryz.ntmps40
  go_wp2
  repeat (go_quiet (fail); try go_wp2)
  go_loopg [5] k (fun kq v5 w'=>∃ (x5_1 : Int),v5 = .int .i64 x5_1 ∧ Aside0 (flagstoneref1_Same.l0 kq l0 l1 x5_1 = some r) ∧ Aside0 (kq ≤ k) ∧ Drawn0 w w')
  case atStart=>exact ⟨(0),(by first|rfl|(simp; done)|(simp [*]; done)),H',⟨Nat.le_refl _⟩,by repeat (first|exact Drawn0.refl _|apply Drawn0.step)⟩
  case round =>
   clear H';(try clear c1);(try clear p2);(try clear c3);(try clear c3b0);(try clear c3b1);(try clear c3b2)
   obtain ⟨x5_1,rfl,HA,HK1,⟨m1,rfl⟩⟩ := hrel
   cases gk with
   | zero=>exact absurd HA.out (by simp [flagstoneref1_Same.l0])
   | succ k1 =>
    have H := HA.out; clear HA
    simp only [flagstoneref1_Same.l0] at H
    by_cases c4 : x5_1 < (l0.length : Int)
    ·rw [if_pos c4] at H
     have c4b0 : decide (x5_1 < (l0.length : Int)) = true := decide_eq_true c4
     clear c4
     by_cases c5 : 0 ≤ x5_1
     ·rw [if_pos c5] at H
      have c5b0 : decide (0 ≤ x5_1) = true := decide_eq_true c5
      clear c5
      by_cases c6 : x5_1 < (l1.length : Int)
      ·rw [if_pos c6] at H
       have c6b0 : decide (x5_1 < (l1.length : Int)) = true := decide_eq_true c6
       clear c6
       by_cases c7 : (rdOf ByteArray.empty l0 x5_1).toList = (rdOf ByteArray.empty l1 x5_1).toList
       ·rw [if_pos c7] at H
        have c7b0 : ((rdOf ByteArray.empty l0 x5_1).toList == (rdOf ByteArray.empty l1 x5_1).toList) = true := beq_iff_eq.mpr c7
        have c7b1 : ((rdOf ByteArray.empty l0 x5_1).toList != (rdOf ByteArray.empty l1 x5_1).toList) = false := bne_eq_false_iff_eq.mpr c7
        clear c7; have H' := Aside0.mk H; clear H
        have p253 : 0 ≤ (x5_1 : Int) := of_decide_eq_true (by first|(with_reducible assumption)|assumption)
        have q253 : x5_1 < (l0.length : Int) := of_decide_eq_true (by first|(with_reducible assumption)|assumption)
        obtain ⟨ad253,e253,hx253_0⟩ := Kd.at_string HR0.out x5_1 p253 q253
        cases e253
        replace p253 := eq_true p253
        replace q253 := eq_true q253
        have p254 : 0 ≤ (x5_1 : Int) := of_decide_eq_true (by first|(with_reducible assumption)|assumption)
        have q254 : x5_1 < (l1.length : Int) := of_decide_eq_true (by first|(with_reducible assumption)|assumption)
        obtain ⟨ad254,e254,hx254_0⟩ := Kd.at_string HR1.out x5_1 p254 q254
        cases e254
        replace p254 := eq_true p254
        replace q254 := eq_true q254
        go_wp2
        repeat (go_quiet (fail); try go_wp2)
        go_roundg k1
        case measure=>have := HK1.out; omega
        case rel=>exact ⟨(wrap64 (x5_1 + 1)),(by first|rfl|(simp; done)|(simp [*]; done)),H',⟨by have := HK1.out; omega⟩,by repeat (first|exact Drawn0.refl _|apply Drawn0.step)⟩
       ·rw [if_neg c7] at H
        have c7b0 : ((rdOf ByteArray.empty l0 x5_1).toList == (rdOf ByteArray.empty l1 x5_1).toList) = false := beq_eq_false_iff_ne.mpr c7
        have c7b1 : ((rdOf ByteArray.empty l0 x5_1).toList != (rdOf ByteArray.empty l1 x5_1).toList) = true := bne_iff_ne.mpr c7
        obtain rfl := Option.some.inj H
        have p253 : 0 ≤ (x5_1 : Int) := of_decide_eq_true (by first|(with_reducible assumption)|assumption)
        have q253 : x5_1 < (l0.length : Int) := of_decide_eq_true (by first|(with_reducible assumption)|assumption)
        obtain ⟨ad253,e253,hx253_0⟩ := Kd.at_string HR0.out x5_1 p253 q253
        cases e253
        replace p253 := eq_true p253
        replace q253 := eq_true q253
        have p254 : 0 ≤ (x5_1 : Int) := of_decide_eq_true (by first|(with_reducible assumption)|assumption)
        have q254 : x5_1 < (l1.length : Int) := of_decide_eq_true (by first|(with_reducible assumption)|assumption)
        obtain ⟨ad254,e254,hx254_0⟩ := Kd.at_string HR1.out x5_1 p254 q254
        cases e254
        replace p254 := eq_true p254
        replace q254 := eq_true q254
        go_wp2
        repeat (go_quiet (fail); try go_wp2)
        go_ret
        exact ⟨by first|rfl|(simp; done)|(simp [*]; done),by repeat (first|exact Drawn0.refl _|apply Drawn0.step)⟩
      ·rw [if_neg c6] at H
       exact absurd H (by simp)
     ·rw [if_neg c5] at H
      exact absurd H (by simp)
    ·rw [if_neg c4] at H
     have c4b0 : decide (x5_1 < (l0.length : Int)) = false := decide_eq_false c4
     clear c4
     obtain rfl := Option.some.inj H
     go_wp2
     repeat (go_quiet (fail); try go_wp2)
     go_ret
     exact ⟨by first|rfl|(simp; done)|(simp [*]; done),by repeat (first|exact Drawn0.refl _|apply Drawn0.step)⟩
 ·rw [if_neg c3] at H
  have c3b0 : ((l0.length : Int) == (l1.length : Int)) = false := beq_eq_false_iff_ne.mpr c3
  have c3b1 : ((l0.length : Int) != (l1.length : Int)) = true := bne_iff_ne.mpr c3
  have c3b2 : (l0.length == l1.length) = false := by first|simpa using c3|(simp at c3 ⊢; omega)
  obtain rfl := Option.some.inj H
  go_enter Tryz.func40,Tryz.ntmps40
  go_wp2
  repeat (go_quiet (fail); try go_wp2)
  go_ret
  exact ⟨by first|rfl|(simp; done)|(simp [*]; done),by repeat (first|exact Drawn0.refl _|apply Drawn0.step)⟩

/-! ### flagstoneref3_Equal: function 19 -/
def flagstoneref3_Equal.f (k : Nat) (a0_0 : Int) (a0_1 : Int) (a0_2 : ByteArray) (l0_3 : List ByteArray) (a1_0 : Int) (a1_1 : Int) (a1_2 : ByteArray) (l1_3 : List ByteArray) : Option (Bool) := if a0_0 = a1_0 then (if a0_1 = a1_1 then (if a0_2.toList = a1_2.toList then ((flagstoneref1_Same.f k l0_3 l1_3).bind fun t257 => (some t257)) else (some false)) else (some false)) else (some false)
theorem flagstoneref3_Equal.mono : ∀ a0 a1 a2 a3 a4 a5 a6 a7 k, LeO (flagstoneref3_Equal.f k a0 a1 a2 a3 a4 a5 a6 a7) (flagstoneref3_Equal.f (k + 1) a0 a1 a2 a3 a4 a5 a6 a7) := by
 intro a0 a1 a2 a3 a4 a5 a6 a7 k
 unfold flagstoneref3_Equal.f
 repeat' first
   | (with_reducible exact flagstoneref1_Same.mono _ _ _)
   | (with_reducible exact LeO.refl _)
   | (with_reducible exact LeO.none _)
   | (with_reducible refine LeO.ite ?_ ?_)
   | (with_reducible refine LeO.bind ?_ (fun _=>?_))
   | exact flagstoneref1_Same.mono _ _ _
   | exact LeO.none _
   | refine LeO.ite ?_ ?_
   | refine LeO.bind ?_ (fun _=>?_)
set_option maxHeartbeats 8000000 in
set_option maxRecDepth 100000 in
theorem flagstoneref3_Equal.calls (k : Nat) (a0_0 : Int) (a0_1 : Int) (a0_2 : ByteArray) (A0_3 : Option Addr) (c0_3 : Nat) (l0_3 : List ByteArray) (a1_0 : Int) (a1_1 : Int) (a1_2 : ByteArray) (A1_3 : Option Addr) (c1_3 : Nat) (l1_3 : List ByteArray) (r : Bool) (w : World) (hr0_3 : Kd.C Kd.string w A0_3 l0_3.length l0_3) (hc0_3 : l0_3.length ≤ c0_3) (hr1_3 : Kd.C Kd.string w A1_3 l1_3.length l1_3) (hc1_3 : l1_3.length ≤ c1_3) (h : flagstoneref3_Equal.f k a0_0 a0_1 a0_2 l0_3 a1_0 a1_1 a1_2 l1_3 = some r) :
  Calls Tryz.prog 19 #[.agg #[.int .i64 a0_0,.int .i64 a0_1,.string a0_2,.slice A0_3 l0_3.length c0_3],.agg #[.int .i64 a1_0,.int .i64 a1_1,.string a1_2,.slice A1_3 l1_3.length c1_3]] w fun e w'=>e = .returned (.bool r) ∧ Below w.heap.size w w' := by
 have hu24 := Tryz.underlying24; have HR0_3 := Aside0.mk hr0_3; have HC0_3 := Aside0.mk hc0_3; clear hr0_3 hc0_3; have HR1_3 := Aside0.mk hr1_3; have HC1_3 := Aside0.mk hc1_3; clear hr1_3 hc1_3
 have HB := Aside0.mk (Below.refl w.heap.size w)
 have H : (if a0_0 = a1_0 then (if a0_1 = a1_1 then (if a0_2.toList = a1_2.toList then ((flagstoneref1_Same.f k l0_3 l1_3).bind fun t257=>(some t257)) else (some false)) else (some false)) else (some false)) = some r := h
 clear h
 by_cases c3 : a0_0 = a1_0
 ·rw [if_pos c3] at H
  have c3b0 : (a0_0 == a1_0) = true := beq_iff_eq.mpr c3
  have c3b1 : (a0_0 != a1_0) = false := bne_eq_false_iff_eq.mpr c3
  clear c3
  by_cases c4 : a0_1 = a1_1
  ·rw [if_pos c4] at H
   have c4b0 : (a0_1 == a1_1) = true := beq_iff_eq.mpr c4
   have c4b1 : (a0_1 != a1_1) = false := bne_eq_false_iff_eq.mpr c4
   clear c4
   by_cases c5 : a0_2.toList = a1_2.toList
   ·rw [if_pos c5] at H
    have c5b0 : (a0_2.toList == a1_2.toList) = true := beq_iff_eq.mpr c5
    have c5b1 : (a0_2.toList != a1_2.toList) = false := bne_eq_false_iff_eq.mpr c5
    clear c5; replace H := Option.bind_eq_some_iff.mp H; obtain ⟨t257,A60,H⟩ := H
    replace H : (some t257) = some r := H
    have A6 := Aside0.mk A60; clear A60
    obtain rfl := Option.some.inj H
    go_enter Tryz.func19,Tryz.ntmps19
    go_wp2_with (first|((with_reducible refine gate_dst (N := 2) rfl ?_); refine box_event ?hg (N := 2) ?hd (cs := #[.int .i64 a0_0,.int .i64 a0_1,.string a0_2,.slice A0_3 l0_3.length c0_3]) (t := 24) ?hr ?_;(case hd=>rfl);(case hg=>rfl);(case hr=>first|(go_simp; done)|(go_simp; rfl)); intro gb255 hg w7 hbox hb; have n0_ := Aside0.mk (below_step (by repeat (first|(with_reducible first|exact HB.out|apply zE|apply zB|apply zC)|exact HB.out)) hb); have n1_ := Aside0.mk (hbox); have n2_ := Aside0.mk ((by rw [hg]; exact (below_size (by repeat (first|(with_reducible first|exact HB.out|apply zE|apply zB|apply zC)|exact HB.out))) : w.heap.size ≤ gb255)); have n3_ := Aside0.mk ((by rw [hg]; exact (below_size (by repeat (first|(with_reducible first|exact HB.out|apply zE|apply zB|apply zC)|exact HB.out))) : w.heap.size ≤ gb255)); clear HB; have HB := n0_; have BK255 := n1_; have GW255 := n2_; have GE255 := n3_; clear n0_ n1_ n2_ n3_ hb hbox hg)|((with_reducible refine gate_dst (N := 3) rfl ?_); refine box_event ?hg (N := 3) ?hd (cs := #[.int .i64 a1_0,.int .i64 a1_1,.string a1_2,.slice A1_3 l1_3.length c1_3]) (t := 24) ?hr ?_;(case hd=>rfl);(case hg=>rfl);(case hr=>first|(go_simp; done)|(go_simp; rfl)); intro gb256 hg w8 hbox hb; have n0_ := Aside0.mk (blk_below (g := gb255) (o := .cells #[.int .i64 a0_0,.int .i64 a0_1,.string a0_2,.slice A0_3 l0_3.length c0_3] 24 (0,0)) (by (with_reducible repeat (first|refine zN ?_ _|refine zD ?_|refine zA ?_ _)); exact BK255.out) hb); have n1_ := Aside0.mk (below_step (by repeat (first|(with_reducible first|exact HB.out|apply zE|apply zB|apply zC|refine zJ ?_ GE255.out)|exact HB.out)) hb); have n2_ := Aside0.mk (hbox); have n3_ := Aside0.mk ((by rw [hg]; exact (below_size (by repeat (first|(with_reducible first|exact HB.out|apply zE|apply zB|apply zC|refine zJ ?_ GE255.out)|exact HB.out))) : w.heap.size ≤ gb256)); have n4_ := Aside0.mk ((by rw [hg]; exact (below_size (by repeat (first|(with_reducible first|exact HB.out|apply zE|apply zB|apply zC|refine zJ ?_ GE255.out)|exact HB.out))) : w.heap.size ≤ gb256)); have n5_ := Aside0.mk ((by rw [hg]; exact Nat.ne_of_lt (blk_lt (g := gb255) (o := .cells #[.int .i64 a0_0,.int .i64 a0_1,.string a0_2,.slice A0_3 l0_3.length c0_3] 24 (0,0)) (by (with_reducible repeat (first|refine zN ?_ _|refine zD ?_|refine zA ?_ _)); exact BK255.out)) : gb255 ≠ gb256)); have n6_ := Aside0.mk ((by rw [hg]; exact Nat.ne_of_gt (blk_lt (g := gb255) (o := .cells #[.int .i64 a0_0,.int .i64 a0_1,.string a0_2,.slice A0_3 l0_3.length c0_3] 24 (0,0)) (by (with_reducible repeat (first|refine zN ?_ _|refine zD ?_|refine zA ?_ _)); exact BK255.out)) : gb256 ≠ gb255)); clear BK255 HB; have BK255 := n0_; have HB := n1_; have BK256 := n2_; have GW256 := n3_; have GE256 := n4_; have NB255_256 := n5_; have NB256_255 := n6_; clear n0_ n1_ n2_ n3_ n4_ n5_ n6_ hb hbox hg; have hnb9 := NB255_256.out; have hnc9 := NB256_255.out; have hcz10_0 : w8.cell? ⟨gb255,0,none⟩ = some (.int .i64 a0_0):=(blk_cell BK255.out 0).trans rfl; have hcz10_1 : w8.cell? ⟨gb255,1,none⟩ = some (.int .i64 a0_1):=(blk_cell BK255.out 1).trans rfl; have hcz10_2 : w8.cell? ⟨gb255,2,none⟩ = some (.string a0_2):=(blk_cell BK255.out 2).trans rfl; have hcz10_3 : w8.cell? ⟨gb255,3,none⟩ = some (.slice A0_3 l0_3.length c0_3):=(blk_cell BK255.out 3).trans rfl; have hfz10_0 := blk_frozen BK255.out 0; have hfz10_1 := blk_frozen BK255.out 1; have hfz10_2 := blk_frozen BK255.out 2; have hfz10_3 := blk_frozen BK255.out 3; have hcz11_0 : w8.cell? ⟨gb256,0,none⟩ = some (.int .i64 a1_0):=(blk_cell BK256.out 0).trans rfl; have hcz11_1 : w8.cell? ⟨gb256,1,none⟩ = some (.int .i64 a1_1):=(blk_cell BK256.out 1).trans rfl; have hcz11_2 : w8.cell? ⟨gb256,2,none⟩ = some (.string a1_2):=(blk_cell BK256.out 2).trans rfl; have hcz11_3 : w8.cell? ⟨gb256,3,none⟩ = some (.slice A1_3 l1_3.length c1_3):=(blk_cell BK256.out 3).trans rfl; have hfz11_0 := blk_frozen BK256.out 0; have hfz11_1 := blk_frozen BK256.out 1; have hfz11_2 := blk_frozen BK256.out 2; have hfz11_3 := blk_frozen BK256.out 3)|(go_at_call 40;(with_reducible refine (flagstoneref1_Same.calls k _ _ l0_3 _ _ l1_3 t257 _ ?side1 ?side2 ?side3 ?side4 A6.out).mono ?_);(case side1=>repeat (first|exact (Kd.C_below HR0_3.out HB.out)|(with_reducible refine Kd.C_alloc ?_ _)|(with_reducible refine Kd.C_drewN ?_ _)|(with_reducible refine Kd.C_drew ?_)));(case side2=>exact HC0_3.out);(case side3=>repeat (first|exact (Kd.C_below HR1_3.out HB.out)|(with_reducible refine Kd.C_alloc ?_ _)|(with_reducible refine Kd.C_drewN ?_ _)|(with_reducible refine Kd.C_drew ?_)));(case side4=>exact HC1_3.out); rintro e w' ⟨rfl,⟨nd,rfl⟩⟩))
    go_ret
    exact ⟨by first|rfl|(simp [errW_none,errW_some]<;>rfl)|(simp [*,errW_none,errW_some]<;>rfl),by repeat (first|(with_reducible first|exact HB.out|apply zE|apply zB|apply zC|refine zJ ?_ GE255.out|refine zJ ?_ GE256.out)|exact HB.out)⟩
   ·rw [if_neg c5] at H
    have c5b0 : (a0_2.toList == a1_2.toList) = false := beq_eq_false_iff_ne.mpr c5
    have c5b1 : (a0_2.toList != a1_2.toList) = true := bne_iff_ne.mpr c5
    obtain rfl := Option.some.inj H
    go_enter Tryz.func19,Tryz.ntmps19
    go_wp2_with (first|((with_reducible refine gate_dst (N := 2) rfl ?_); refine box_event ?hg (N := 2) ?hd (cs := #[.int .i64 a0_0,.int .i64 a0_1,.string a0_2,.slice A0_3 l0_3.length c0_3]) (t := 24) ?hr ?_;(case hd=>rfl);(case hg=>rfl);(case hr=>first|(go_simp; done)|(go_simp; rfl)); intro gb255 hg w12 hbox hb; have n0_ := Aside0.mk (below_step (by repeat (first|(with_reducible first|exact HB.out|apply zE|apply zB|apply zC)|exact HB.out)) hb); have n1_ := Aside0.mk (hbox); have n2_ := Aside0.mk ((by rw [hg]; exact (below_size (by repeat (first|(with_reducible first|exact HB.out|apply zE|apply zB|apply zC)|exact HB.out))) : w.heap.size ≤ gb255)); have n3_ := Aside0.mk ((by rw [hg]; exact (below_size (by repeat (first|(with_reducible first|exact HB.out|apply zE|apply zB|apply zC)|exact HB.out))) : w.heap.size ≤ gb255)); clear HB; have HB := n0_; have BK255 := n1_; have GW255 := n2_; have GE255 := n3_; clear n0_ n1_ n2_ n3_ hb hbox hg)|((with_reducible refine gate_dst (N := 3) rfl ?_); refine box_event ?hg (N := 3) ?hd (cs := #[.int .i64 a1_0,.int .i64 a1_1,.string a1_2,.slice A1_3 l1_3.length c1_3]) (t := 24) ?hr ?_;(case hd=>rfl);(case hg=>rfl);(case hr=>first|(go_simp; done)|(go_simp; rfl)); intro gb256 hg w13 hbox hb; have n0_ := Aside0.mk (blk_below (g := gb255) (o := .cells #[.int .i64 a0_0,.int .i64 a0_1,.string a0_2,.slice A0_3 l0_3.length c0_3] 24 (0,0)) (by (with_reducible repeat (first|refine zN ?_ _|refine zD ?_|refine zA ?_ _)); exact BK255.out) hb); have n1_ := Aside0.mk (below_step (by repeat (first|(with_reducible first|exact HB.out|apply zE|apply zB|apply zC|refine zJ ?_ GE255.out)|exact HB.out)) hb); have n2_ := Aside0.mk (hbox); have n3_ := Aside0.mk ((by rw [hg]; exact (below_size (by repeat (first|(with_reducible first|exact HB.out|apply zE|apply zB|apply zC|refine zJ ?_ GE255.out)|exact HB.out))) : w.heap.size ≤ gb256)); have n4_ := Aside0.mk ((by rw [hg]; exact (below_size (by repeat (first|(with_reducible first|exact HB.out|apply zE|apply zB|apply zC|refine zJ ?_ GE255.out)|exact HB.out))) : w.heap.size ≤ gb256)); have n5_ := Aside0.mk ((by rw [hg]; exact Nat.ne_of_lt (blk_lt (g := gb255) (o := .cells #[.int .i64 a0_0,.int .i64 a0_1,.string a0_2,.slice A0_3 l0_3.length c0_3] 24 (0,0)) (by (with_reducible repeat (first|refine zN ?_ _|refine zD ?_|refine zA ?_ _)); exact BK255.out)) : gb255 ≠ gb256)); have n6_ := Aside0.mk ((by rw [hg]; exact Nat.ne_of_gt (blk_lt (g := gb255) (o := .cells #[.int .i64 a0_0,.int .i64 a0_1,.string a0_2,.slice A0_3 l0_3.length c0_3] 24 (0,0)) (by (with_reducible repeat (first|refine zN ?_ _|refine zD ?_|refine zA ?_ _)); exact BK255.out)) : gb256 ≠ gb255)); clear BK255 HB; have BK255 := n0_; have HB := n1_; have BK256 := n2_; have GW256 := n3_; have GE256 := n4_; have NB255_256 := n5_; have NB256_255 := n6_; clear n0_ n1_ n2_ n3_ n4_ n5_ n6_ hb hbox hg; have hnb14 := NB255_256.out; have hnc14 := NB256_255.out; have hcz15_0 : w13.cell? ⟨gb255,0,none⟩ = some (.int .i64 a0_0):=(blk_cell BK255.out 0).trans rfl; have hcz15_1 : w13.cell? ⟨gb255,1,none⟩ = some (.int .i64 a0_1):=(blk_cell BK255.out 1).trans rfl; have hcz15_2 : w13.cell? ⟨gb255,2,none⟩ = some (.string a0_2):=(blk_cell BK255.out 2).trans rfl; have hcz15_3 : w13.cell? ⟨gb255,3,none⟩ = some (.slice A0_3 l0_3.length c0_3):=(blk_cell BK255.out 3).trans rfl; have hfz15_0 := blk_frozen BK255.out 0; have hfz15_1 := blk_frozen BK255.out 1; have hfz15_2 := blk_frozen BK255.out 2; have hfz15_3 := blk_frozen BK255.out 3; have hcz16_0 : w13.cell? ⟨gb256,0,none⟩ = some (.int .i64 a1_0):=(blk_cell BK256.out 0).trans rfl; have hcz16_1 : w13.cell? ⟨gb256,1,none⟩ = some (.int .i64 a1_1):=(blk_cell BK256.out 1).trans rfl; have hcz16_2 : w13.cell? ⟨gb256,2,none⟩ = some (.string a1_2):=(blk_cell BK256.out 2).trans rfl; have hcz16_3 : w13.cell? ⟨gb256,3,none⟩ = some (.slice A1_3 l1_3.length c1_3):=(blk_cell BK256.out 3).trans rfl; have hfz16_0 := blk_frozen BK256.out 0; have hfz16_1 := blk_frozen BK256.out 1; have hfz16_2 := blk_frozen BK256.out 2; have hfz16_3 := blk_frozen BK256.out 3))
    go_ret
    exact ⟨by first|rfl|(simp [errW_none,errW_some]<;>rfl)|(simp [*,errW_none,errW_some]<;>rfl),by repeat (first|(with_reducible first|exact HB.out|apply zE|apply zB|apply zC|refine zJ ?_ GE255.out|refine zJ ?_ GE256.out)|exact HB.out)⟩
  ·rw [if_neg c4] at H
   have c4b0 : (a0_1 == a1_1) = false := beq_eq_false_iff_ne.mpr c4
   have c4b1 : (a0_1 != a1_1) = true := bne_iff_ne.mpr c4
   obtain rfl := Option.some.inj H
   go_enter Tryz.func19,Tryz.ntmps19
   go_wp2_with (first|((with_reducible refine gate_dst (N := 2) rfl ?_); refine box_event ?hg (N := 2) ?hd (cs := #[.int .i64 a0_0,.int .i64 a0_1,.string a0_2,.slice A0_3 l0_3.length c0_3]) (t := 24) ?hr ?_;(case hd=>rfl);(case hg=>rfl);(case hr=>first|(go_simp; done)|(go_simp; rfl)); intro gb255 hg w17 hbox hb; have n0_ := Aside0.mk (below_step (by repeat (first|(with_reducible first|exact HB.out|apply zE|apply zB|apply zC)|exact HB.out)) hb); have n1_ := Aside0.mk (hbox); have n2_ := Aside0.mk ((by rw [hg]; exact (below_size (by repeat (first|(with_reducible first|exact HB.out|apply zE|apply zB|apply zC)|exact HB.out))) : w.heap.size ≤ gb255)); have n3_ := Aside0.mk ((by rw [hg]; exact (below_size (by repeat (first|(with_reducible first|exact HB.out|apply zE|apply zB|apply zC)|exact HB.out))) : w.heap.size ≤ gb255)); clear HB; have HB := n0_; have BK255 := n1_; have GW255 := n2_; have GE255 := n3_; clear n0_ n1_ n2_ n3_ hb hbox hg)|((with_reducible refine gate_dst (N := 3) rfl ?_); refine box_event ?hg (N := 3) ?hd (cs := #[.int .i64 a1_0,.int .i64 a1_1,.string a1_2,.slice A1_3 l1_3.length c1_3]) (t := 24) ?hr ?_;(case hd=>rfl);(case hg=>rfl);(case hr=>first|(go_simp; done)|(go_simp; rfl)); intro gb256 hg w18 hbox hb; have n0_ := Aside0.mk (blk_below (g := gb255) (o := .cells #[.int .i64 a0_0,.int .i64 a0_1,.string a0_2,.slice A0_3 l0_3.length c0_3] 24 (0,0)) (by (with_reducible repeat (first|refine zN ?_ _|refine zD ?_|refine zA ?_ _)); exact BK255.out) hb); have n1_ := Aside0.mk (below_step (by repeat (first|(with_reducible first|exact HB.out|apply zE|apply zB|apply zC|refine zJ ?_ GE255.out)|exact HB.out)) hb); have n2_ := Aside0.mk (hbox); have n3_ := Aside0.mk ((by rw [hg]; exact (below_size (by repeat (first|(with_reducible first|exact HB.out|apply zE|apply zB|apply zC|refine zJ ?_ GE255.out)|exact HB.out))) : w.heap.size ≤ gb256)); have n4_ := Aside0.mk ((by rw [hg]; exact (below_size (by repeat (first|(with_reducible first|exact HB.out|apply zE|apply zB|apply zC|refine zJ ?_ GE255.out)|exact HB.out))) : w.heap.size ≤ gb256)); have n5_ := Aside0.mk ((by rw [hg]; exact Nat.ne_of_lt (blk_lt (g := gb255) (o := .cells #[.int .i64 a0_0,.int .i64 a0_1,.string a0_2,.slice A0_3 l0_3.length c0_3] 24 (0,0)) (by (with_reducible repeat (first|refine zN ?_ _|refine zD ?_|refine zA ?_ _)); exact BK255.out)) : gb255 ≠ gb256)); have n6_ := Aside0.mk ((by rw [hg]; exact Nat.ne_of_gt (blk_lt (g := gb255) (o := .cells #[.int .i64 a0_0,.int .i64 a0_1,.string a0_2,.slice A0_3 l0_3.length c0_3] 24 (0,0)) (by (with_reducible repeat (first|refine zN ?_ _|refine zD ?_|refine zA ?_ _)); exact BK255.out)) : gb256 ≠ gb255)); clear BK255 HB; have BK255 := n0_; have HB := n1_; have BK256 := n2_; have GW256 := n3_; have GE256 := n4_; have NB255_256 := n5_; have NB256_255 := n6_; clear n0_ n1_ n2_ n3_ n4_ n5_ n6_ hb hbox hg; have hnb19 := NB255_256.out; have hnc19 := NB256_255.out; have hcz20_0 : w18.cell? ⟨gb255,0,none⟩ = some (.int .i64 a0_0):=(blk_cell BK255.out 0).trans rfl; have hcz20_1 : w18.cell? ⟨gb255,1,none⟩ = some (.int .i64 a0_1):=(blk_cell BK255.out 1).trans rfl; have hcz20_2 : w18.cell? ⟨gb255,2,none⟩ = some (.string a0_2):=(blk_cell BK255.out 2).trans rfl; have hcz20_3 : w18.cell? ⟨gb255,3,none⟩ = some (.slice A0_3 l0_3.length c0_3):=(blk_cell BK255.out 3).trans rfl; have hfz20_0 := blk_frozen BK255.out 0; have hfz20_1 := blk_frozen BK255.out 1; have hfz20_2 := blk_frozen BK255.out 2; have hfz20_3 := blk_frozen BK255.out 3; have hcz21_0 : w18.cell? ⟨gb256,0,none⟩ = some (.int .i64 a1_0):=(blk_cell BK256.out 0).trans rfl; have hcz21_1 : w18.cell? ⟨gb256,1,none⟩ = some (.int .i64 a1_1):=(blk_cell BK256.out 1).trans rfl; have hcz21_2 : w18.cell? ⟨gb256,2,none⟩ = some (.string a1_2):=(blk_cell BK256.out 2).trans rfl; have hcz21_3 : w18.cell? ⟨gb256,3,none⟩ = some (.slice A1_3 l1_3.length c1_3):=(blk_cell BK256.out 3).trans rfl; have hfz21_0 := blk_frozen BK256.out 0; have hfz21_1 := blk_frozen BK256.out 1; have hfz21_2 := blk_frozen BK256.out 2; have hfz21_3 := blk_frozen BK256.out 3))
   go_ret
   exact ⟨by first|rfl|(simp [errW_none,errW_some]<;>rfl)|(simp [*,errW_none,errW_some]<;>rfl),by repeat (first|(with_reducible first|exact HB.out|apply zE|apply zB|apply zC|refine zJ ?_ GE255.out|refine zJ ?_ GE256.out)|exact HB.out)⟩
 ·rw [if_neg c3] at H
  have c3b0 : (a0_0 == a1_0) = false := beq_eq_false_iff_ne.mpr c3
  have c3b1 : (a0_0 != a1_0) = true := bne_iff_ne.mpr c3
  obtain rfl := Option.some.inj H
  go_enter Tryz.func19,Tryz.ntmps19
  go_wp2_with (first|((with_reducible refine gate_dst (N := 2) rfl ?_); refine box_event ?hg (N := 2) ?hd (cs := #[.int .i64 a0_0,.int .i64 a0_1,.string a0_2,.slice A0_3 l0_3.length c0_3]) (t := 24) ?hr ?_;(case hd=>rfl);(case hg=>rfl);(case hr=>first|(go_simp; done)|(go_simp; rfl)); intro gb255 hg w22 hbox hb; have n0_ := Aside0.mk (below_step (by repeat (first|(with_reducible first|exact HB.out|apply zE|apply zB|apply zC)|exact HB.out)) hb); have n1_ := Aside0.mk (hbox); have n2_ := Aside0.mk ((by rw [hg]; exact (below_size (by repeat (first|(with_reducible first|exact HB.out|apply zE|apply zB|apply zC)|exact HB.out))) : w.heap.size ≤ gb255)); have n3_ := Aside0.mk ((by rw [hg]; exact (below_size (by repeat (first|(with_reducible first|exact HB.out|apply zE|apply zB|apply zC)|exact HB.out))) : w.heap.size ≤ gb255)); clear HB; have HB := n0_; have BK255 := n1_; have GW255 := n2_; have GE255 := n3_; clear n0_ n1_ n2_ n3_ hb hbox hg)|((with_reducible refine gate_dst (N := 3) rfl ?_); refine box_event ?hg (N := 3) ?hd (cs := #[.int .i64 a1_0,.int .i64 a1_1,.string a1_2,.slice A1_3 l1_3.length c1_3]) (t := 24) ?hr ?_;(case hd=>rfl);(case hg=>rfl);(case hr=>first|(go_simp; done)|(go_simp; rfl)); intro gb256 hg w23 hbox hb; have n0_ := Aside0.mk (blk_below (g := gb255) (o := .cells #[.int .i64 a0_0,.int .i64 a0_1,.string a0_2,.slice A0_3 l0_3.length c0_3] 24 (0,0)) (by (with_reducible repeat (first|refine zN ?_ _|refine zD ?_|refine zA ?_ _)); exact BK255.out) hb); have n1_ := Aside0.mk (below_step (by repeat (first|(with_reducible first|exact HB.out|apply zE|apply zB|apply zC|refine zJ ?_ GE255.out)|exact HB.out)) hb); have n2_ := Aside0.mk (hbox); have n3_ := Aside0.mk ((by rw [hg]; exact (below_size (by repeat (first|(with_reducible first|exact HB.out|apply zE|apply zB|apply zC|refine zJ ?_ GE255.out)|exact HB.out))) : w.heap.size ≤ gb256)); have n4_ := Aside0.mk ((by rw [hg]; exact (below_size (by repeat (first|(with_reducible first|exact HB.out|apply zE|apply zB|apply zC|refine zJ ?_ GE255.out)|exact HB.out))) : w.heap.size ≤ gb256)); have n5_ := Aside0.mk ((by rw [hg]; exact Nat.ne_of_lt (blk_lt (g := gb255) (o := .cells #[.int .i64 a0_0,.int .i64 a0_1,.string a0_2,.slice A0_3 l0_3.length c0_3] 24 (0,0)) (by (with_reducible repeat (first|refine zN ?_ _|refine zD ?_|refine zA ?_ _)); exact BK255.out)) : gb255 ≠ gb256)); have n6_ := Aside0.mk ((by rw [hg]; exact Nat.ne_of_gt (blk_lt (g := gb255) (o := .cells #[.int .i64 a0_0,.int .i64 a0_1,.string a0_2,.slice A0_3 l0_3.length c0_3] 24 (0,0)) (by (with_reducible repeat (first|refine zN ?_ _|refine zD ?_|refine zA ?_ _)); exact BK255.out)) : gb256 ≠ gb255)); clear BK255 HB; have BK255 := n0_; have HB := n1_; have BK256 := n2_; have GW256 := n3_; have GE256 := n4_; have NB255_256 := n5_; have NB256_255 := n6_; clear n0_ n1_ n2_ n3_ n4_ n5_ n6_ hb hbox hg; have hnb24 := NB255_256.out; have hnc24 := NB256_255.out; have hcz25_0 : w23.cell? ⟨gb255,0,none⟩ = some (.int .i64 a0_0):=(blk_cell BK255.out 0).trans rfl; have hcz25_1 : w23.cell? ⟨gb255,1,none⟩ = some (.int .i64 a0_1):=(blk_cell BK255.out 1).trans rfl; have hcz25_2 : w23.cell? ⟨gb255,2,none⟩ = some (.string a0_2):=(blk_cell BK255.out 2).trans rfl; have hcz25_3 : w23.cell? ⟨gb255,3,none⟩ = some (.slice A0_3 l0_3.length c0_3):=(blk_cell BK255.out 3).trans rfl; have hfz25_0 := blk_frozen BK255.out 0; have hfz25_1 := blk_frozen BK255.out 1; have hfz25_2 := blk_frozen BK255.out 2; have hfz25_3 := blk_frozen BK255.out 3; have hcz26_0 : w23.cell? ⟨gb256,0,none⟩ = some (.int .i64 a1_0):=(blk_cell BK256.out 0).trans rfl; have hcz26_1 : w23.cell? ⟨gb256,1,none⟩ = some (.int .i64 a1_1):=(blk_cell BK256.out 1).trans rfl; have hcz26_2 : w23.cell? ⟨gb256,2,none⟩ = some (.string a1_2):=(blk_cell BK256.out 2).trans rfl; have hcz26_3 : w23.cell? ⟨gb256,3,none⟩ = some (.slice A1_3 l1_3.length c1_3):=(blk_cell BK256.out 3).trans rfl; have hfz26_0 := blk_frozen BK256.out 0; have hfz26_1 := blk_frozen BK256.out 1; have hfz26_2 := blk_frozen BK256.out 2; have hfz26_3 := blk_frozen BK256.out 3))
  go_ret
  exact ⟨by first|rfl|(simp [errW_none,errW_some]<;>rfl)|(simp [*,errW_none,errW_some]<;>rfl),by repeat (first|(with_reducible first|exact HB.out|apply zE|apply zB|apply zC|refine zJ ?_ GE255.out|refine zJ ?_ GE256.out)|exact HB.out)⟩

end Go.Proofs.YtannjakcnnefhaaGreatDoor.V
