import Derived.Test.YtannjakcnnefhaaGreatDoorKV0
import Derived.Test.YtannjakcnnefhaaGreatDoorKV3
import Derived.Test.YtannjakcnnefhaaGreatDoorKV4
import Derived.Test.YtannjakcnnefhaaGreatDoorKV5
import Derived.Test.YtannjakcnnefhaaGreatDoorKV8
-- printed by wip/hp.py (the session's driver of the print, with hand-proved contracts)
namespace Go.Proofs.YtannjakcnnefhaaGreatDoor.V
open Go.RowKit Go.Proofs.YtannjakcnnefhaaGreatDoorW.PrintWords Go.Proofs.YtannjakcnnefhaaGreatDoorW.PrintLast Go.Proofs.YtannjakcnnefhaaGreatDoorW.PrintMore
attribute [local go_sem] max2_int min2_int max_two min_two max_three min_three max_four min_four   -- for this text's walks alone
set_option linter.unusedVariables false
set_option linter.unusedSimpArgs false

/-! ### flagstonelaw3_ValueFormats: function 4 -/
mutual
def flagstonelaw3_ValueFormats.l0 : Nat → List (S24) → Int → Option (Bool)
 | 0,_,_=>none
 | k + 1,x5,x6=>if x6 < (x5.length : Int) then (if 0 ≤ x6 then ((value_Format.f k ((rd_T24 x5 x6).f0) ((rd_T24 x5 x6).f1) ((rd_T24 x5 x6).f2) ((rd_T24 x5 x6).f3)).bind fun bt275=>((flagstoneref3_Format.f k ((rd_T24 x5 x6).f0) ((rd_T24 x5 x6).f1) ((rd_T24 x5 x6).f2) ((rd_T24 x5 x6).f3)).bind fun bt278=>(if bt275.1.toList = bt278.1.toList then (flagstonelaw3_ValueFormats.j1 k x5 x6 bt275.1 bt275.2 (bt275.2 != bt278.2)) else (flagstonelaw3_ValueFormats.j1 k x5 x6 bt275.1 bt275.2 true)))) else (none)) else (some true)
def flagstonelaw3_ValueFormats.j1 : Nat → List (S24) → Int → ByteArray → Int → Bool → Option (Bool)
 | 0,_,_,_,_,_=>none
 | k + 1,x5,x6,x7,x8,x52=>if x52 = true then (some false) else (if x8 = 0 then ((value_Parse.f k x7).bind fun bt280=>(if bt280.2.2.2.2 = 0 then (if 0 ≤ x6 then (if x6 < (x5.length : Int) then ((flagstoneref3_Equal.f k bt280.1 bt280.2.1 bt280.2.2.1 bt280.2.2.2.1 ((rd_T24 x5 x6).f0) ((rd_T24 x5 x6).f1) ((rd_T24 x5 x6).f2) ((rd_T24 x5 x6).f3)).bind fun t289=>(if t289 = true then (flagstonelaw3_ValueFormats.l0 k x5 (wrap64 (x6 + 1))) else (some false))) else (none)) else (none)) else (some false))) else (flagstonelaw3_ValueFormats.l0 k x5 (wrap64 (x6 + 1))))
end
def flagstonelaw3_ValueFormats.f (k : Nat) (a0_0 : Int) (a0_1 : Int) (a0_2 : ByteArray) (l0_3 : List ByteArray) (l1 : List Int) : Option (Bool) := (flagstonelaw3_awake.f k).bind fun t259 => (if t259 = true then ((flagstonelaw3_small.f k a0_0 a0_1 a0_2 l0_3).bind fun t260 => (if t260 = true then ((flagstonedraw_New.f l1 10).bind fun bt261 => ((flagstonedraw_Codes_Any.f bt261.1 bt261.2).bind fun bt264 => (flagstonelaw3_ValueFormats.l0 k (([(⟨a0_0, a0_1, a0_2, l0_3⟩ : S24), (⟨bt264.1, bt264.2.1, bt264.2.2.1, bt264.2.2.2.1⟩ : S24)] : List (S24))) 0))) else (some true))) else (some false))
theorem flagstonelaw3_ValueFormats.mono_l : ∀ k, (∀ y0 y1, LeO (flagstonelaw3_ValueFormats.l0 k y0 y1) (flagstonelaw3_ValueFormats.l0 (k + 1) y0 y1)) ∧ (∀ y0 y1 y2 y3 y4, LeO (flagstonelaw3_ValueFormats.j1 k y0 y1 y2 y3 y4) (flagstonelaw3_ValueFormats.j1 (k + 1) y0 y1 y2 y3 y4))
 | 0=>⟨fun _ _ r h=>by simp [flagstonelaw3_ValueFormats.l0] at h,fun _ _ _ _ _ r h=>by simp [flagstonelaw3_ValueFormats.j1] at h⟩
 | k + 1=>by
  obtain ⟨ih0,ih1⟩ := flagstonelaw3_ValueFormats.mono_l k
  refine ⟨?_,?_⟩
  ·intro y0 y1
   unfold flagstonelaw3_ValueFormats.l0
   repeat' first
   | (with_reducible exact ih0 _ _)
   | (with_reducible exact ih1 _ _ _ _ _)
   | (with_reducible exact flagstonelaw3_awake.mono _)
   | (with_reducible exact flagstonelaw3_small.mono _ _ _ _ _)
   | (with_reducible exact flagstoneref3_Equal.mono _ _ _ _ _ _ _ _ _)
   | (with_reducible exact flagstoneref3_Format.mono _ _ _ _ _)
   | (with_reducible exact value_Format.mono _ _ _ _ _)
   | (with_reducible exact value_Parse.mono _ _)
   | (with_reducible exact LeO.refl _)
   | (with_reducible exact LeO.none _)
   | (with_reducible refine LeO.ite ?_ ?_)
   | (with_reducible refine LeO.bind ?_ (fun _=>?_))
   | exact ih0 _ _
   | exact ih1 _ _ _ _ _
   | exact flagstonelaw3_awake.mono _
   | exact flagstonelaw3_small.mono _ _ _ _ _
   | exact flagstoneref3_Equal.mono _ _ _ _ _ _ _ _ _
   | exact flagstoneref3_Format.mono _ _ _ _ _
   | exact value_Format.mono _ _ _ _ _
   | exact value_Parse.mono _ _
   | exact LeO.none _
   | refine LeO.ite ?_ ?_
   | refine LeO.bind ?_ (fun _=>?_)
  ·intro y0 y1 y2 y3 y4
   unfold flagstonelaw3_ValueFormats.j1
   repeat' first
   | (with_reducible exact ih0 _ _)
   | (with_reducible exact ih1 _ _ _ _ _)
   | (with_reducible exact flagstonelaw3_awake.mono _)
   | (with_reducible exact flagstonelaw3_small.mono _ _ _ _ _)
   | (with_reducible exact flagstoneref3_Equal.mono _ _ _ _ _ _ _ _ _)
   | (with_reducible exact flagstoneref3_Format.mono _ _ _ _ _)
   | (with_reducible exact value_Format.mono _ _ _ _ _)
   | (with_reducible exact value_Parse.mono _ _)
   | (with_reducible exact LeO.refl _)
   | (with_reducible exact LeO.none _)
   | (with_reducible refine LeO.ite ?_ ?_)
   | (with_reducible refine LeO.bind ?_ (fun _=>?_))
   | exact ih0 _ _
   | exact ih1 _ _ _ _ _
   | exact flagstonelaw3_awake.mono _
   | exact flagstonelaw3_small.mono _ _ _ _ _
   | exact flagstoneref3_Equal.mono _ _ _ _ _ _ _ _ _
   | exact flagstoneref3_Format.mono _ _ _ _ _
   | exact value_Format.mono _ _ _ _ _
   | exact value_Parse.mono _ _
   | exact LeO.none _
   | refine LeO.ite ?_ ?_
   | refine LeO.bind ?_ (fun _=>?_)
theorem flagstonelaw3_ValueFormats.mono : ∀ a0 a1 a2 a3 a4 k, LeO (flagstonelaw3_ValueFormats.f k a0 a1 a2 a3 a4) (flagstonelaw3_ValueFormats.f (k + 1) a0 a1 a2 a3 a4) := by
 intro a0 a1 a2 a3 a4 k
 obtain ⟨ih0,ih1⟩ := flagstonelaw3_ValueFormats.mono_l k
 unfold flagstonelaw3_ValueFormats.f
 repeat' first
   | (with_reducible exact ih0 _ _)
   | (with_reducible exact ih1 _ _ _ _ _)
   | (with_reducible exact flagstonelaw3_awake.mono _)
   | (with_reducible exact flagstonelaw3_small.mono _ _ _ _ _)
   | (with_reducible exact flagstoneref3_Equal.mono _ _ _ _ _ _ _ _ _)
   | (with_reducible exact flagstoneref3_Format.mono _ _ _ _ _)
   | (with_reducible exact value_Format.mono _ _ _ _ _)
   | (with_reducible exact value_Parse.mono _ _)
   | (with_reducible exact LeO.refl _)
   | (with_reducible exact LeO.none _)
   | (with_reducible refine LeO.ite ?_ ?_)
   | (with_reducible refine LeO.bind ?_ (fun _=>?_))
   | exact ih0 _ _
   | exact ih1 _ _ _ _ _
   | exact flagstonelaw3_awake.mono _
   | exact flagstonelaw3_small.mono _ _ _ _ _
   | exact flagstoneref3_Equal.mono _ _ _ _ _ _ _ _ _
   | exact flagstoneref3_Format.mono _ _ _ _ _
   | exact value_Format.mono _ _ _ _ _
   | exact value_Parse.mono _ _
   | exact LeO.none _
   | refine LeO.ite ?_ ?_
   | refine LeO.bind ?_ (fun _=>?_)
def flagstonelaw3_ValueFormats.T15 : Bool × List (List Nat × List Nat) := (true, [([], []), ([0], [0]), ([1], [1]), ([2], [2]), ([2], [2]), ([2], [2]), ([4, 5, 2], [2, 4, 5]), ([6, 2], [2, 6]), ([3, 7, 2, 2], [2, 3, 7]), ([8, 2], [2, 8]), ([2, 9], [2, 9])])
def flagstonelaw3_ValueFormats.B15 : List Nat := [0, 1, 3, 7, 7, 7, 55, 119, 255, 511, 1023]
theorem flagstonelaw3_ValueFormats.tab15 : rtab .any (opsOf Tryz.f4 15) = flagstonelaw3_ValueFormats.T15 := by kernel_rfl
theorem flagstonelaw3_ValueFormats.bits15 : waitsOk flagstonelaw3_ValueFormats.T15.2 flagstonelaw3_ValueFormats.B15 = true := by kernel_rfl
set_option maxHeartbeats 8000000 in
set_option maxRecDepth 100000 in
theorem flagstonelaw3_ValueFormats.calls (k : Nat) (a0_0 : Int) (a0_1 : Int) (a0_2 : ByteArray) (P0_3_ : Nat → Prop) (A0_3 : Option Addr) (c0_3 : Nat) (l0_3 : List ByteArray) (A1 : Option Addr) (c1 : Nat) (l1 : List Int) (r : Bool) (w : World) (hs0_3 : Kd.V Kd.string 9 w w.heap.size (fun k_ => P0_3_ k_) (.slice A0_3 l0_3.length c0_3) l0_3) (hr1 : Kd.C (Kd.int .u8) w A1 l1.length l1) (hc1 : l1.length ≤ c1) (hGL : GL w) (h : flagstonelaw3_ValueFormats.f k a0_0 a0_1 a0_2 l0_3 l1 = some r) :
  Calls Tryz.prog 4 #[.agg #[.int .i64 a0_0,.int .i64 a0_1,.string a0_2,.slice A0_3 l0_3.length c0_3],.slice A1 l1.length c1] w fun e w'=>e = .returned (.bool r) ∧ Below w.heap.size w w' := by
 have hu24 := Tryz.underlying24
 have HO0_3 := Aside0.mk (show Kd.V Kd.string 9 w w.heap.size (fun k_=>(P0_3_ k_ ∨ w.heap.size ≤ k_)) (.slice A0_3 l0_3.length c0_3) l0_3 from Kd.V_mono hs0_3 (fun k_ hk=>.inl hk))
 have HR1 := Aside0.mk hr1; have HC1 := Aside0.mk hc1; clear hr1 hc1; have HGL := Aside0.mk hGL; clear hGL
 have HB := Aside0.mk (Below.refl w.heap.size w)
 have H : ((flagstonelaw3_awake.f k).bind fun t259=>(if t259 = true then ((flagstonelaw3_small.f k a0_0 a0_1 a0_2 l0_3).bind fun t260=>(if t260 = true then ((flagstonedraw_New.f l1 10).bind fun bt261=>((flagstonedraw_Codes_Any.f bt261.1 bt261.2).bind fun bt264=>(flagstonelaw3_ValueFormats.l0 k (([(⟨a0_0,a0_1,a0_2,l0_3⟩ : S24),(⟨bt264.1,bt264.2.1,bt264.2.2.1,bt264.2.2.2.1⟩ : S24)] : List (S24))) 0))) else (some true))) else (some false))) = some r := h
 clear h; replace H := Option.bind_eq_some_iff.mp H; obtain ⟨t259,A30,H⟩ := H
 replace H : (if t259 = true then ((flagstonelaw3_small.f k a0_0 a0_1 a0_2 l0_3).bind fun t260=>(if t260 = true then ((flagstonedraw_New.f l1 10).bind fun bt261=>((flagstonedraw_Codes_Any.f bt261.1 bt261.2).bind fun bt264=>(flagstonelaw3_ValueFormats.l0 k (([(⟨a0_0,a0_1,a0_2,l0_3⟩ : S24),(⟨bt264.1,bt264.2.1,bt264.2.2.1,bt264.2.2.2.1⟩ : S24)] : List (S24))) 0))) else (some true))) else (some false)) = some r := H
 have A3 := Aside0.mk A30; clear A30
 by_cases c4 : t259 = true
 ·subst c4
  have H1 : ((flagstonelaw3_small.f k a0_0 a0_1 a0_2 l0_3).bind fun t260=>(if t260 = true then ((flagstonedraw_New.f l1 10).bind fun bt261=>((flagstonedraw_Codes_Any.f bt261.1 bt261.2).bind fun bt264=>(flagstonelaw3_ValueFormats.l0 k (([(⟨a0_0,a0_1,a0_2,l0_3⟩ : S24),(⟨bt264.1,bt264.2.1,bt264.2.2.1,bt264.2.2.2.1⟩ : S24)] : List (S24))) 0))) else (some true))) = some r := by rw [if_pos rfl] at H; exact H
  clear H; have H := H1; clear H1; replace H := Option.bind_eq_some_iff.mp H; obtain ⟨t260,A50,H⟩ := H
  replace H : (if t260 = true then ((flagstonedraw_New.f l1 10).bind fun bt261=>((flagstonedraw_Codes_Any.f bt261.1 bt261.2).bind fun bt264=>(flagstonelaw3_ValueFormats.l0 k (([(⟨a0_0,a0_1,a0_2,l0_3⟩ : S24),(⟨bt264.1,bt264.2.1,bt264.2.2.1,bt264.2.2.2.1⟩ : S24)] : List (S24))) 0))) else (some true)) = some r := H
  have A5 := Aside0.mk A50; clear A50
  by_cases c6 : t260 = true
  ·subst c6
   have H1 : ((flagstonedraw_New.f l1 10).bind fun bt261=>((flagstonedraw_Codes_Any.f bt261.1 bt261.2).bind fun bt264=>(flagstonelaw3_ValueFormats.l0 k (([(⟨a0_0,a0_1,a0_2,l0_3⟩ : S24),(⟨bt264.1,bt264.2.1,bt264.2.2.1,bt264.2.2.2.1⟩ : S24)] : List (S24))) 0))) = some r := by rw [if_pos rfl] at H; exact H
   clear H; have H := H1; clear H1; replace H := Option.bind_eq_some_iff.mp H
   obtain ⟨⟨t261,t262⟩,A70,H⟩ := H
   replace H : ((flagstonedraw_Codes_Any.f t261 t262).bind fun bt264=>(flagstonelaw3_ValueFormats.l0 k (([(⟨a0_0,a0_1,a0_2,l0_3⟩ : S24),(⟨bt264.1,bt264.2.1,bt264.2.2.1,bt264.2.2.2.1⟩ : S24)] : List (S24))) 0)) = some r := H
   have A7 := Aside0.mk A70; clear A70; replace H := Option.bind_eq_some_iff.mp H
   obtain ⟨⟨t264,t265,t266,t267,t270⟩,A80,H⟩ := H
   replace H : (flagstonelaw3_ValueFormats.l0 k (([(⟨a0_0,a0_1,a0_2,l0_3⟩ : S24),(⟨t264,t265,t266,t267⟩ : S24)] : List (S24))) 0) = some r := H
   have A8 := Aside0.mk A80; clear A80
   obtain ⟨y271,hy271⟩ : ∃ y_ : List (S24),y_ = (([(⟨a0_0,a0_1,a0_2,l0_3⟩ : S24),(⟨t264,t265,t266,t267⟩ : S24)] : List (S24))):=⟨_,rfl⟩
   replace H : (flagstonelaw3_ValueFormats.l0 k y271 0) = some r := by first|(rw [hy271]; with_reducible exact H)|(have H2_:=(Option.bind_some _ _).symm.trans H; rw [hy271]; with_reducible exact H2_)|(have H2_:=(Option.bind_some _ _).symm.trans H; with_reducible exact H2_)|with_reducible exact H|(rw [hy271]; exact H)|exact H
   have Ny271 := Aside0.mk hy271; clear hy271; have H' := Aside0.mk H; clear H
   go_enter Tryz.func4,Tryz.ntmps4
   try go_wp2_with (first|((with_reducible refine gate_dst (N := 2) rfl ?_); refine box_event ?hg (N := 2) ?hd (cs := #[.int .i64 a0_0,.int .i64 a0_1,.string a0_2,.slice A0_3 l0_3.length c0_3]) (t := 24) ?hr ?_;(case hd=>rfl);(case hg=>rfl);(case hr=>first|(go_simp; done)|(go_simp; rfl)); intro gb258 hg w9 hbox hb; have n0_ := Aside0.mk (Kd.V_below (Kd.V_elderB (by (with_reducible repeat (first|apply Kd.V_alloc|apply Kd.V_drewN|apply Kd.V_drew)); exact HO0_3.out) gb258 (Nat.le_of_eq hg.symm)) hb); have n1_ := Aside0.mk (below_step (by repeat (first|(with_reducible first|exact HB.out|apply zE|apply zB|apply zC)|exact HB.out)) hb); have n2_ := Aside0.mk (hbox); have n3_ := Aside0.mk ((by rw [hg]; exact (below_size (by repeat (first|(with_reducible first|exact HB.out|apply zE|apply zB|apply zC)|exact HB.out))) : w.heap.size ≤ gb258)); have n4_ := Aside0.mk ((by rw [hg]; exact (below_size (by repeat (first|(with_reducible first|exact HB.out|apply zE|apply zB|apply zC)|exact HB.out))) : w.heap.size ≤ gb258)); clear HO0_3 HB; have HO0_3 := n0_; have HB := n1_; have BK258 := n2_; have GW258 := n3_; have GE258 := n4_; clear n0_ n1_ n2_ n3_ n4_ hb hbox hg)|((with_reducible refine gate_callee (f := 7) rfl ?_); refine goesL_ (some 13) rfl rfl Tryz.func7 (by kernel_rfl) rfl #[] rfl (by (try simp only [List.map_toArray,List.map_cons,List.map_nil]); first|done|rfl|(simp only [List.length_drop,List.length_take]; rfl)) ?_;(with_reducible refine (flagstonelaw3_awake.calls k  true _ ?side1 A3.out).mono ?_);(case side1=>exact GL.below HGL.out (by repeat (first|(with_reducible first|exact HB.out|apply zE|apply zB|apply zC|refine zJ ?_ GE258.out)|exact HB.out))); rintro e w10 ⟨rfl,hb⟩; refine ⟨_,rfl,?_⟩; have n0_ := Aside0.mk (Kd.V_below (by (with_reducible repeat (first|apply Kd.V_alloc|apply Kd.V_drewN|apply Kd.V_drew)); exact HO0_3.out) hb); have n1_ := Aside0.mk (blk_below (g := gb258) (o := .cells #[.int .i64 a0_0,.int .i64 a0_1,.string a0_2,.slice A0_3 l0_3.length c0_3] 24 (0,0)) (by (with_reducible repeat (first|refine zN ?_ _|refine zD ?_|refine zA ?_ _)); exact BK258.out) hb); have n2_ := Aside0.mk (below_step (by repeat (first|(with_reducible first|exact HB.out|apply zE|apply zB|apply zC|refine zJ ?_ GE258.out)|exact HB.out)) hb); clear HO0_3 BK258 HB; have HO0_3 := n0_; have BK258 := n1_; have HB := n2_; clear n0_ n1_ n2_;(try clear hb);(try clear hb2);(try clear hk);(try clear hi);(try clear hge); have hcz11_0 : w10.cell? ⟨gb258,0,none⟩ = some (.int .i64 a0_0):=(blk_cell BK258.out 0).trans rfl; have hcz11_1 : w10.cell? ⟨gb258,1,none⟩ = some (.int .i64 a0_1):=(blk_cell BK258.out 1).trans rfl; have hcz11_2 : w10.cell? ⟨gb258,2,none⟩ = some (.string a0_2):=(blk_cell BK258.out 2).trans rfl; have hcz11_3 : w10.cell? ⟨gb258,3,none⟩ = some (.slice A0_3 l0_3.length c0_3):=(blk_cell BK258.out 3).trans rfl; have hfz11_0 := blk_frozen BK258.out 0; have hfz11_1 := blk_frozen BK258.out 1; have hfz11_2 := blk_frozen BK258.out 2; have hfz11_3 := blk_frozen BK258.out 3)|((with_reducible refine gate_callee (f := 8) rfl ?_); refine goesL_ (some 16) rfl rfl Tryz.func8 (by kernel_rfl) rfl #[.agg #[.int .i64 a0_0,.int .i64 a0_1,.string a0_2,.slice A0_3 l0_3.length c0_3]] rfl (by (try simp only [List.map_toArray,List.map_cons,List.map_nil]); first|done|rfl|(simp only [List.length_drop,List.length_take]; rfl)) ?_;(with_reducible refine (flagstonelaw3_small.calls k a0_0 a0_1 a0_2 _ _ l0_3 true _ ?side1 ?side2 A5.out).mono ?_);(case side1=>repeat (first|exact (Kd.V_reads' HO0_3.out).2.2|(with_reducible refine Kd.C_alloc ?_ _)|(with_reducible refine Kd.C_drewN ?_ _)|(with_reducible refine Kd.C_drew ?_)));(case side2=>exact (Kd.V_reads' HO0_3.out).2.1); rintro e w12 ⟨rfl,hb⟩; refine ⟨_,rfl,?_⟩; have n0_ := Aside0.mk (Kd.V_below (by (with_reducible repeat (first|apply Kd.V_alloc|apply Kd.V_drewN|apply Kd.V_drew)); exact HO0_3.out) hb); have n1_ := Aside0.mk (blk_below (g := gb258) (o := .cells #[.int .i64 a0_0,.int .i64 a0_1,.string a0_2,.slice A0_3 l0_3.length c0_3] 24 (0,0)) (by (with_reducible repeat (first|refine zN ?_ _|refine zD ?_|refine zA ?_ _)); exact BK258.out) hb); have n2_ := Aside0.mk (below_step (by repeat (first|(with_reducible first|exact HB.out|apply zE|apply zB|apply zC|refine zJ ?_ GE258.out)|exact HB.out)) hb); clear HO0_3 BK258 HB; have HO0_3 := n0_; have BK258 := n1_; have HB := n2_; clear n0_ n1_ n2_;(try clear hb);(try clear hb2);(try clear hk);(try clear hi);(try clear hge)))
   have n0_ := Aside0.mk (Kd.V_drew HO0_3.out)
   have n1_ := Aside0.mk (zD BK258.out)
   have n2_ := Aside0.mk (zC HB.out)
   clear HO0_3 BK258 HB; have HO0_3 := n0_; have BK258 := n1_; have HB := n2_; clear n0_ n1_ n2_
   refine start_ (n := 6) (S := fun w'=>w'.cell? ⟨gb258,0,none⟩ = some (.int .i64 a0_0) ∧ w'.cell? ⟨gb258,1,none⟩ = some (.int .i64 a0_1) ∧ w'.cell? ⟨gb258,2,none⟩ = some (.string a0_2) ∧ w'.cell? ⟨gb258,3,none⟩ = some (.slice A0_3 l0_3.length c0_3)) (ds := []) #[false,false,false,false,false,false] (by kernel_rfl) rfl rfl ⟨(blk_cell BK258.out 0).trans rfl,(blk_cell BK258.out 1).trans rfl,(blk_cell BK258.out 2).trans rfl,(blk_cell BK258.out 3).trans rfl⟩ (fun hHeld=>?_)
   generalize w12.drew = w13 at HO0_3 BK258 HB hHeld ⊢
   refine pure_ (i := 1) (N := some 19) (v := ?_) (a' := ?_) #[false,true,false,false,false,false] rfl rfl (by kernel_rfl) (fun _ _ _ h=>h) (Or.inl ⟨by rfl,?_⟩) ?_ ?_
   rotate_left
   ·intro w'
    go_simp
    with_reducible rfl
   rotate_left
   ·simp only [Act.put,List.setIfInBounds_toArray,List.set_cons_zero,List.set_cons_succ,i64_w,i32_w]
    rfl
   refine take_ (i := 0) (N := some 18) (v := ?_) (a' := ?_) #[true,true,false,false,false,false] rfl rfl (by kernel_rfl) (fun _ _ _ h=>h) (Or.inl ⟨by rfl,?_⟩) hHeld ?_ ?_
   rotate_left
   ·rintro w' ⟨s0,s1,s2,s3⟩
    go_simp
    with_reducible rfl
   rotate_left
   ·simp only [Act.put,List.setIfInBounds_toArray,List.set_cons_zero,List.set_cons_succ,i64_w,i32_w]
    rfl
   refine one_ (i := 2) (N := some 20) #[true,true,true,false,false,false] rfl rfl (by kernel_rfl) (by decide) (fun K hK=>?_)
   refine goes_ Tryz.func9 (by kernel_rfl) rfl #[.slice A1 l1.length c1,.int .i64 10] (by rfl) rfl rfl (by (try simp only [List.map_toArray,List.map_cons,List.map_nil]); first|done|rfl|(simp only [List.length_drop,List.length_take]; rfl)) ?_
   with_reducible refine (flagstonedraw_New.calls _ _ l1 10 t261 t262 w _ ?side1 ?side2 ?side3 A7.out).mono ?_
   (case side1=>repeat (first|(with_reducible first|exact HB.out|apply zE|apply zB|apply zC|refine zJ ?_ GE258.out)|exact HB.out))
   (case side2=>exact HR1.out)
   (case side3=>exact HC1.out)
   rintro e w14 ⟨g263,rfl,hi,hb,hb2,hge⟩
   refine ⟨_,rfl,?_⟩
   have n0_ := Aside0.mk (Kd.V_below (Kd.V_elderB (by (with_reducible repeat (first|apply Kd.V_alloc|apply Kd.V_drewN|apply Kd.V_drew)); exact HO0_3.out) g263 hge) hb2)
   have n1_ := Aside0.mk (blk_below (g := gb258) (o := .cells #[.int .i64 a0_0,.int .i64 a0_1,.string a0_2,.slice A0_3 l0_3.length c0_3] 24 (0,0)) (by (with_reducible repeat (first|refine zN ?_ _|refine zD ?_|refine zA ?_ _)); exact BK258.out) hb2)
   have n2_ := Aside0.mk (hb)
   have n3_ := Aside0.mk (hi)
   have n4_ := Aside0.mk (IsS50.ne_blk hi (blk_below (g := gb258) (o := .cells #[.int .i64 a0_0,.int .i64 a0_1,.string a0_2,.slice A0_3 l0_3.length c0_3] 24 (0,0)) (by (with_reducible repeat (first|refine zN ?_ _|refine zD ?_|refine zA ?_ _)); exact BK258.out) hb2) (by decide))
   have n5_ := Aside0.mk (Ne.symm (IsS50.ne_blk hi (blk_below (g := gb258) (o := .cells #[.int .i64 a0_0,.int .i64 a0_1,.string a0_2,.slice A0_3 l0_3.length c0_3] 24 (0,0)) (by (with_reducible repeat (first|refine zN ?_ _|refine zD ?_|refine zA ?_ _)); exact BK258.out) hb2) (by decide)))
   clear HO0_3 BK258 HB; have HO0_3 := n0_; have BK258 := n1_; have HB := n2_; have HI263 := n3_; have NB263_258 := n4_; have NB258_263 := n5_; clear n0_ n1_ n2_ n3_ n4_ n5_
   (try clear hb)
   (try clear hb2)
   (try clear hk)
   (try clear hi)
   (try clear hge)
   refine hK.out _ _ ⟨(blk_cell BK258.out 0).trans rfl,(blk_cell BK258.out 1).trans rfl,(blk_cell BK258.out 2).trans rfl,(blk_cell BK258.out 3).trans rfl⟩ (fun hHeld=>?_)
   clear hK K
   refine norm_ (a' := ?_) ?_ ?_
   rotate_left
   ·show Act.put _ (some 20) _ = _
    simp only [Act.put,List.setIfInBounds_toArray,List.set_cons_zero,List.set_cons_succ,i64_w,i32_w]
    rfl
   refine one_ (i := 3) (N := some 21) #[true,true,true,true,false,false] rfl rfl (by kernel_rfl) (by decide) (fun K hK=>?_)
   refine goes_ Tryz.func10 (by kernel_rfl) rfl #[.pointer (some ⟨g263,0,none⟩)] (by rfl) rfl rfl (by (try simp only [List.map_toArray,List.map_cons,List.map_nil]); first|done|rfl|(simp only [List.length_drop,List.length_take]; rfl)) ?_
   with_reducible refine (flagstonedraw_Codes_Any.calls g263 t261 t262 t264 t265 t266 t267 t270 w _ ?side1 ?side2 ?side3 A8.out).mono ?_
   (case side1=>repeat (first|(with_reducible first|exact HI263.out|apply IsS50.alloc|apply IsS50.drewN|apply IsS50.drew|apply IsS50.set_1|refine IsS50.far ?_ NB263_258.out _)|exact HI263.out))
   (case side2=>repeat (first|(with_reducible first|exact HB.out|apply zE|apply zB|apply zC|refine zJ ?_ (IsS50.ge HI263.out)|refine zJ ?_ GE258.out)|exact HB.out))
   (case side3=>exact HGL.out)
   rintro e w15 ⟨v268,rfl,ho0,hi,hb,hk⟩
   refine ⟨_,rfl,?_⟩
   have n0_ := Aside0.mk (Kd.V_mono (Kd.V_told (Kd.V_oldK (Kd.V_mono (ok := fun k_=>((((P0_3_ k_ ∨ w.heap.size ≤ k_)) ∧ k_ ≠ gb258) ∧ k_ ≠ g263)) (by (with_reducible repeat (first|apply Kd.V_alloc|apply Kd.V_drewN|apply Kd.V_drew)); exact HO0_3.out) (fun k_ hk_=>(⟨hk_,hk_.2⟩ : _ ∧ k_ ≠ g263))) hk) (Kd.R_base ho0)) (fun _ h_=>h_.1))
   have n1_ := Aside0.mk (KeepBut.blk hk (g' := gb258) (o := .cells #[.int .i64 a0_0,.int .i64 a0_1,.string a0_2,.slice A0_3 l0_3.length c0_3] 24 (0,0)) (by (with_reducible repeat (first|refine zN ?_ _|refine zD ?_|refine zA ?_ _)); exact BK258.out) NB258_263.out (by simp))
   have n2_ := Aside0.mk (Kd.R_lower (Kd.R_newM (M := fun k_=>(w.heap.size ≤ k_)) ho0 (below_size (by repeat (first|(with_reducible first|exact HB.out|apply zE|apply zB|apply zC|refine zJ ?_ (IsS50.ge HI263.out)|refine zJ ?_ GE258.out)|exact HB.out))) (fun k_ h_=>h_)) (below_size (by repeat (first|(with_reducible first|exact HB.out|apply zE|apply zB|apply zC|refine zJ ?_ (IsS50.ge HI263.out)|refine zJ ?_ GE258.out)|exact HB.out))))
   have n3_ := Aside0.mk (hb)
   have n4_ := Aside0.mk (hi)
   clear HO0_3 BK258 HB HI263; have HO0_3 := n0_; have BK258 := n1_; have HO269 := n2_; have HB := n3_; have HI263 := n4_; clear n0_ n1_ n2_ n3_ n4_
   (try clear hb)
   (try clear hb2)
   (try clear hk)
   (try clear hi)
   (try clear hge)
   (try clear ho0)
   obtain ⟨Ao16,co16,eo16⟩ := Kd.R_slice HO269.out
   (first|subst eo16|(injection eo16 with f1_ f2_ f3_; have f4_ := f1_.symm; have f5_ := f3_.symm; clear f1_ f2_ f3_; subst f4_; subst f5_))
   refine hK.out _ _ ⟨(blk_cell BK258.out 0).trans rfl,(blk_cell BK258.out 1).trans rfl,(blk_cell BK258.out 2).trans rfl,(blk_cell BK258.out 3).trans rfl⟩ (fun hHeld=>?_)
   clear hK K
   refine norm_ (a' := ?_) ?_ ?_
   rotate_left
   ·show Act.put _ (some 21) _ = _
    simp only [Act.put,List.setIfInBounds_toArray,List.set_cons_zero,List.set_cons_succ,i64_w,i32_w]
    rfl
   refine one_ (i := 4) (N := some 22) #[true,true,true,true,true,false] rfl rfl (by kernel_rfl) (by decide) (fun K hK=>?_)
   refine Kd.N_lit_step k24 _ 24 ?hg (N' := 22) ?hd (xs:=([(⟨a0_0,a0_1,a0_2,l0_3⟩ : S24),(⟨t264,t265,t266,t267⟩ : S24)] : List (S24))) (inner := [.int .i64 a0_0,.int .i64 a0_1,.string a0_2,.slice A0_3 l0_3.length c0_3,.int .i64 t264,.int .i64 t265,.string t266,.slice Ao16 t267.length co16]) (ok:=(fun k_=>(P0_3_ k_ ∨ w.heap.size ≤ k_) ∧ k_ ≠ gb258 ∧ k_ ≠ g263)) (okp:=(fun k_=>(P0_3_ k_ ∨ w.heap.size ≤ k_) ∧ k_ ≠ gb258 ∧ k_ ≠ g263)) ?hr ?hp (fun _ hk=>hk) ((show ∀ k_,w15.heap.size ≤ k_ → (fun k_=>(P0_3_ k_ ∨ w.heap.size ≤ k_) ∧ k_ ≠ gb258 ∧ k_ ≠ g263) k_ from fun k_ hk=>⟨(.inr (Nat.le_trans (below_size (by repeat (first|(with_reducible first|exact HB.out|apply zE|apply zB|apply zC|refine zJ ?_ (IsS50.ge HI263.out)|refine zJ ?_ GE258.out)|exact HB.out))) hk)),Kd.freshB (g := gb258) (o := .cells #[.int .i64 a0_0,.int .i64 a0_1,.string a0_2,.slice A0_3 l0_3.length c0_3] 24 (0,0)) (by (with_reducible repeat (first|refine zN ?_ _|refine zD ?_|refine zA ?_ _)); exact BK258.out) k_ hk,IsS50.fresh (by repeat (first|(with_reducible first|exact HI263.out|apply IsS50.alloc|apply IsS50.drewN|apply IsS50.drew|apply IsS50.set_1|refine IsS50.far ?_ NB263_258.out _)|exact HI263.out)) k_ hk⟩) _ (Nat.le_refl _)) (Below.refl _ _) (Nat.le_refl _) (by simp) ?_;(case hd=>rfl);(case hg=>rfl);(case hr=>first|(go_simp; done)|(go_simp; rfl));(case hp=>exact (Reps.c4 (show Kd.FK k24 _ _ (⟨a0_0,a0_1,a0_2,l0_3⟩ : S24) [.int .i64 a0_0,.int .i64 a0_1,.string a0_2,.slice A0_3 l0_3.length c0_3] from (k24_mkF _ _ (⟨a0_0,a0_1,a0_2,l0_3⟩ : S24) (Kd.V_reads' (Kd.V_mono (ok':=(fun k_=>(P0_3_ k_ ∨ w.heap.size ≤ k_) ∧ k_ ≠ gb258 ∧ k_ ≠ g263)) (HO0_3.out) (fun k_ hk=>⟨hk.1.1.1,⟨hk.1.1.2,hk.1.2⟩⟩))).2.1 (Kd.V_F (Kd.V_mono (ok':=(fun k_=>(P0_3_ k_ ∨ w.heap.size ≤ k_) ∧ k_ ≠ gb258 ∧ k_ ≠ g263)) (HO0_3.out) (fun k_ hk=>⟨hk.1.1.1,⟨hk.1.1.2,hk.1.2⟩⟩))))) (Reps.c4 (show Kd.FK k24 _ _ (⟨t264,t265,t266,t267⟩ : S24) [.int .i64 t264,.int .i64 t265,.string t266,.slice Ao16 t267.length co16] from (k24_mkF _ _ (⟨t264,t265,t266,t267⟩ : S24) (Kd.R_reads' (Kd.R_mono (ok':=(fun k_=>(P0_3_ k_ ∨ w.heap.size ≤ k_) ∧ k_ ≠ gb258 ∧ k_ ≠ g263)) (IsS50.apart HI263.out (Kd.R_types (HO269.out) BK258.out (by decide)) (by decide)) (fun k_ hk=>⟨(.inr (hk.1.1.1)),⟨hk.1.2,hk.2⟩⟩))).2.1 (Kd.R_F (Kd.R_mono (ok':=(fun k_=>(P0_3_ k_ ∨ w.heap.size ≤ k_) ∧ k_ ≠ gb258 ∧ k_ ≠ g263)) (IsS50.apart HI263.out (Kd.R_types (HO269.out) BK258.out (by decide)) (by decide)) (fun k_ hk=>⟨(.inr (hk.1.1.1)),⟨hk.1.2,hk.2⟩⟩))))) (Reps.none _ _))))
   intro v272 w17 ho18 hb hg_ hnew_
   clear hg_ hnew_
   (first|rw [← Ny271.out] at ho18|(simp only [Int.reduceToNat] at ho18; rw [← Ny271.out] at ho18))
   have n0_ := Aside0.mk (Kd.V_elder' (by (with_reducible repeat (first|apply Kd.V_alloc|apply Kd.V_drewN|apply Kd.V_drew)); exact HO0_3.out) (Kd.N_base ho18) hb)
   have n1_ := Aside0.mk (Kd.N_lower ho18 (below_size (by repeat (first|(with_reducible first|exact HB.out|apply zE|apply zB|apply zC|refine zJ ?_ (IsS50.ge HI263.out)|refine zJ ?_ GE258.out)|exact HB.out))))
   have n2_ := Aside0.mk (blk_below (g := gb258) (o := .cells #[.int .i64 a0_0,.int .i64 a0_1,.string a0_2,.slice A0_3 l0_3.length c0_3] 24 (0,0)) (by (with_reducible repeat (first|refine zN ?_ _|refine zD ?_|refine zA ?_ _)); exact BK258.out) hb)
   have n3_ := Aside0.mk (IsS50.below (by repeat (first|(with_reducible first|exact HI263.out|apply IsS50.alloc|apply IsS50.drewN|apply IsS50.drew|apply IsS50.set_1|refine IsS50.far ?_ NB263_258.out _)|exact HI263.out)) hb)
   have n4_ := Aside0.mk (below_step (by repeat (first|(with_reducible first|exact HB.out|apply zE|apply zB|apply zC|refine zJ ?_ (IsS50.ge HI263.out)|refine zJ ?_ GE258.out)|exact HB.out)) hb)
   clear HO0_3 BK258 HI263 HB HO269; have HO0_3 := n0_; have HO273 := n1_; have BK258 := n2_; have HI263 := n3_; have HB := n4_; clear n0_ n1_ n2_ n3_ n4_ hb ho18
   refine hK.out _ _ ⟨(blk_cell BK258.out 0).trans rfl,(blk_cell BK258.out 1).trans rfl,(blk_cell BK258.out 2).trans rfl,(blk_cell BK258.out 3).trans rfl⟩ (fun hHeld=>?_)
   clear hK K
   refine norm_ (a' := ?_) ?_ ?_
   rotate_left
   ·show Act.put _ (some 22) _ = _
    simp only [Act.put,List.setIfInBounds_toArray,List.set_cons_zero,List.set_cons_succ,i64_w,i32_w]
    rfl
   refine pure_ (i := 5) (N := some 5) (v := ?_) (a' := ?_) #[true,true,true,true,true,true] rfl rfl (by kernel_rfl) (fun _ _ _ h=>h) (Or.inl ⟨by rfl,?_⟩) ?_ ?_
   rotate_left
   ·intro w'
    go_simp
    with_reducible rfl
   rotate_left
   ·simp only [Act.put,List.setIfInBounds_toArray,List.set_cons_zero,List.set_cons_succ,i64_w,i32_w]
    rfl
   refine done_ (by kernel_rfl) ?_
   try go_wp2
   go_loopg [6] k (fun kq v6 w'=>∃ (x6_1 : Int),v6 = .int .i64 x6_1 ∧ Aside0 (flagstonelaw3_ValueFormats.l0 kq y271 x6_1 = some r) ∧ Aside0 (kq ≤ k) ∧ Aside0 (Kd.N k24 24 w' w.heap.size (fun k_=>(P0_3_ k_ ∨ w.heap.size ≤ k_) ∧ k_ ≠ gb258) v272 y271) ∧ Aside0 (Kd.V Kd.string 9 w' w.heap.size (fun k_=>(P0_3_ k_ ∨ w.heap.size ≤ k_) ∧ some k_ ≠ (v272 : Value).ownBlock ∧ k_ ≠ gb258) (.slice A0_3 l0_3.length c0_3) l0_3) ∧ Aside0 (w'.heap[gb258]? = some (.cells #[.int .i64 a0_0,.int .i64 a0_1,.string a0_2,(.slice A0_3 l0_3.length c0_3)] 24 (0,0))) ∧ Aside0 (Below w.heap.size w w'))
   case atStart=>exact ⟨(0),(by first|rfl|(simp; done)|(simp [*]; done)),H',⟨Nat.le_refl _⟩,⟨by (with_reducible repeat (first|apply Kd.N_alloc|apply Kd.N_drewN|apply Kd.N_drew)); exact Kd.N_mono HO273.out (fun _ hk=>⟨hk.1,hk.2.1⟩)⟩,⟨by (with_reducible repeat (first|apply Kd.V_alloc|apply Kd.V_drewN|apply Kd.V_drew)); exact Kd.V_mono HO0_3.out (fun _ hk=>⟨hk.1.1.1.1,⟨hk.2,hk.1.1.1.2⟩⟩)⟩,⟨by (with_reducible repeat (first|refine zN ?_ _|refine zD ?_|refine zA ?_ _)); exact BK258.out⟩,⟨by repeat (first|(with_reducible first|exact HB.out|apply zE|apply zB|apply zC|refine zJ ?_ (IsS50.ge HI263.out)|refine zJ ?_ GE258.out)|exact HB.out)⟩⟩
   case round =>
    clear H';(try clear c1);(try clear p2);(try clear c4);(try clear c6);(try clear c7);(try clear c8);(try clear c9);(try clear c10);(try clear hcz11_0);(try clear hcz11_1);(try clear hcz11_2);(try clear hcz11_3);(try clear hfz11_0);(try clear hfz11_1);(try clear hfz11_2);(try clear hfz11_3)
    obtain ⟨x6_1,rfl,HA,HK1,HO_5,HO_259003,BK258,HB⟩ := hrel
    cases gk with
    | zero=>exact absurd HA.out (by simp [flagstonelaw3_ValueFormats.l0])
    | succ k1 =>
     have H := HA.out; clear HA
     simp only [flagstonelaw3_ValueFormats.l0] at H
     by_cases c19 : x6_1 < (y271.length : Int)
     ·rw [if_pos c19] at H
      have c19b0 : decide (x6_1 < (y271.length : Int)) = true := decide_eq_true c19
      clear c19
      by_cases c20 : 0 ≤ x6_1
      ·rw [if_pos c20] at H
       have c20b0 : decide (0 ≤ x6_1) = true := decide_eq_true c20
       clear c20; replace H := Option.bind_eq_some_iff.mp H
       obtain ⟨⟨t275,t276⟩,A210,H⟩ := H
       replace H : ((flagstoneref3_Format.f k1 ((rd_T24 y271 x6_1).f0) ((rd_T24 y271 x6_1).f1) ((rd_T24 y271 x6_1).f2) ((rd_T24 y271 x6_1).f3)).bind fun bt278=>(if t275.toList = bt278.1.toList then (flagstonelaw3_ValueFormats.j1 k1 y271 x6_1 t275 t276 (t276 != bt278.2)) else (flagstonelaw3_ValueFormats.j1 k1 y271 x6_1 t275 t276 true))) = some r := H
       have A21 := Aside0.mk A210; clear A210; replace H := Option.bind_eq_some_iff.mp H
       obtain ⟨⟨t278,t279⟩,A220,H⟩ := H
       replace H : (if t275.toList = t278.toList then (flagstonelaw3_ValueFormats.j1 k1 y271 x6_1 t275 t276 (t276 != t279)) else (flagstonelaw3_ValueFormats.j1 k1 y271 x6_1 t275 t276 true)) = some r := H
       have A22 := Aside0.mk A220; clear A220; have HC23 := Aside0.mk H; clear H
       obtain ⟨Ao24,co24,eo24⟩ := Kd.N_slice HO_5.out
       subst eo24
       have p274 : 0 ≤ (x6_1 : Int) := of_decide_eq_true (by first|(with_reducible assumption)|assumption)
       have q274 : x6_1 < (y271.length : Int) := of_decide_eq_true (by first|(with_reducible assumption)|assumption)
       obtain ⟨ad274,A274_3,c274_3,e274,hx274_0,hx274_1,hx274_2,hx274_3,hl274_3,hi274_3⟩ := at_T24 (Kd.N_reads' HO_5.out).2.2 x6_1 p274 q274
       cases e274
       obtain ⟨ce274,hce274,hMe274,hcc274⟩ := Kd.N_get HO_5.out z24 x6_1 p274 (by first|exact q274|exact of_decide_eq_true (by first|(with_reducible assumption)|assumption)|(have e_:=(Kd.N_reads' HO_5.out).1; omega))
       obtain ⟨ua274_3,uc274_3,rfl,ul274_3,ge274_3⟩ := k24_openF hMe274
       have hv274_3 := hcc274 3 _ rfl
       rw [add_field _ _ 3 (by omega)] at hv274_3
       replace hv274_3 := Option.some.inj (hv274_3.symm.trans hx274_3)
       injection hv274_3 with hva_ hvn_ hvc_
       rw [hva_] at ge274_3
       rw [hvc_] at ul274_3
       have HL274_3 := Aside0.mk (show Kd.V Kd.string 9 _ w.heap.size _ _ ((rd_T24 y271 x6_1).f3) from Kd.V_mk ul274_3 ge274_3)
       clear hva_ hvn_ hvc_ ge274_3 ul274_3 hcc274 hce274; have HR274_3 := Aside0.mk hi274_3; have HC274_3 := Aside0.mk hl274_3; clear hi274_3 hl274_3
       replace p274 := eq_true p274
       replace q274 := eq_true q274
       go_upto_region 11 with (first|((with_reducible refine gate_callee (f := 16) rfl ?_); refine goesL_ (some 34) rfl rfl Tryz.func16 (by kernel_rfl) rfl #[.agg #[.int .i64 ((rd_T24 y271 x6_1).f0),.int .i64 ((rd_T24 y271 x6_1).f1),.string ((rd_T24 y271 x6_1).f2),.slice A274_3 ((rd_T24 y271 x6_1).f3).length c274_3]] rfl (by (try simp only [List.map_toArray,List.map_cons,List.map_nil]); first|done|rfl|(simp only [List.length_drop,List.length_take]; rfl)) ?_;(with_reducible refine (value_Format.calls k1 ((rd_T24 y271 x6_1).f0) ((rd_T24 y271 x6_1).f1) ((rd_T24 y271 x6_1).f2) _ _ ((rd_T24 y271 x6_1).f3) t275 t276 _ ?side1 ?side2 ?side3 A21.out).mono ?_);(case side1=>repeat (first|exact (by repeat (first|(with_reducible exact HR274_3.out)|(with_reducible refine Kd.C_alloc ?_ _)|(with_reducible refine Kd.C_drewN ?_ _)|(with_reducible refine Kd.C_drew ?_)|exact HR274_3.out))|(with_reducible refine Kd.C_alloc ?_ _)|(with_reducible refine Kd.C_drewN ?_ _)|(with_reducible refine Kd.C_drew ?_)));(case side2=>exact HC274_3.out);(case side3=>exact GL.below HGL.out (by repeat (first|(with_reducible first|exact HB.out|apply zE|apply zB|apply zC|refine zJ ?_ GE258.out)|exact HB.out))); rintro e w25 ⟨rfl,hb⟩; refine ⟨_,rfl,?_⟩; have n0_ := Aside0.mk (Kd.N_below (by (with_reducible repeat (first|apply Kd.N_alloc|apply Kd.N_drewN|apply Kd.N_drew)); exact HO_5.out) hb); have n1_ := Aside0.mk (Kd.V_below (by (with_reducible repeat (first|apply Kd.V_alloc|apply Kd.V_drewN|apply Kd.V_drew)); exact HO_259003.out) hb); have n2_ := Aside0.mk (Kd.V_below (by (with_reducible repeat (first|apply Kd.V_alloc|apply Kd.V_drewN|apply Kd.V_drew)); exact HL274_3.out) hb); have n3_ := Aside0.mk (blk_below (g := gb258) (o := .cells #[.int .i64 a0_0,.int .i64 a0_1,.string a0_2,.slice A0_3 l0_3.length c0_3] 24 (0,0)) (by (with_reducible repeat (first|refine zN ?_ _|refine zD ?_|refine zA ?_ _)); exact BK258.out) hb); have n4_ := Aside0.mk (Kd.C_below (by repeat (first|(with_reducible exact HR274_3.out)|(with_reducible refine Kd.C_alloc ?_ _)|(with_reducible refine Kd.C_drewN ?_ _)|(with_reducible refine Kd.C_drew ?_)|exact HR274_3.out)) hb); have n5_ := Aside0.mk (below_step (by repeat (first|(with_reducible first|exact HB.out|apply zE|apply zB|apply zC|refine zJ ?_ GE258.out)|exact HB.out)) hb); clear HO_5 HO_259003 HL274_3 BK258 HR274_3 HB; have HO_5 := n0_; have HO_259003 := n1_; have HL274_3 := n2_; have BK258 := n3_; have HR274_3 := n4_; have HB := n5_; clear n0_ n1_ n2_ n3_ n4_ n5_;(try clear hb);(try clear hb2);(try clear hk);(try clear hi);(try clear hge); have p277 : 0 ≤ (x6_1 : Int) := of_decide_eq_true (by first|(with_reducible assumption)|assumption); have q277 : x6_1 < (y271.length : Int) := of_decide_eq_true (by first|(with_reducible assumption)|assumption); obtain ⟨ad277,A277_3,c277_3,e277,hx277_0,hx277_1,hx277_2,hx277_3,hl277_3,hi277_3⟩ := at_T24 (Kd.N_reads' HO_5.out).2.2 x6_1 p277 q277; obtain rfl : ad274 = ad277:=(by injection e277); obtain ⟨ce277,hce277,hMe277,hcc277⟩ := Kd.N_get HO_5.out z24 x6_1 p277 (by first|exact q277|exact of_decide_eq_true (by first|(with_reducible assumption)|assumption)|(have e_:=(Kd.N_reads' HO_5.out).1; omega)); obtain ⟨ua277_3,uc277_3,rfl,ul277_3,ge277_3⟩ := k24_openF hMe277; have hv277_3 := hcc277 3 _ rfl; rw [add_field _ _ 3 (by omega)] at hv277_3; replace hv277_3 := Option.some.inj (hv277_3.symm.trans hx277_3); injection hv277_3 with hva_ hvn_ hvc_; rw [hva_] at ge277_3; rw [hvc_] at ul277_3; have HL277_3 := Aside0.mk (show Kd.V Kd.string 9 _ w.heap.size _ _ ((rd_T24 y271 x6_1).f3) from Kd.V_mk ul277_3 ge277_3); clear hva_ hvn_ hvc_ ge277_3 ul277_3 hcc277 hce277; have HR277_3 := Aside0.mk hi277_3; have HC277_3 := Aside0.mk hl277_3; clear hi277_3 hl277_3; replace p277 := eq_true p277; replace q277 := eq_true q277)|((with_reducible refine gate_callee (f := 17) rfl ?_); refine goesL_ (some 42) rfl rfl Tryz.func17 (by kernel_rfl) rfl #[.agg #[.int .i64 ((rd_T24 y271 x6_1).f0),.int .i64 ((rd_T24 y271 x6_1).f1),.string ((rd_T24 y271 x6_1).f2),.slice A277_3 ((rd_T24 y271 x6_1).f3).length c277_3]] rfl (by (try simp only [List.map_toArray,List.map_cons,List.map_nil]); first|done|rfl|(simp only [List.length_drop,List.length_take]; rfl)) ?_;(with_reducible refine (flagstoneref3_Format.calls k1 ((rd_T24 y271 x6_1).f0) ((rd_T24 y271 x6_1).f1) ((rd_T24 y271 x6_1).f2) _ _ ((rd_T24 y271 x6_1).f3) t278 t279 _ ?side1 ?side2 ?side3 A22.out).mono ?_);(case side1=>repeat (first|exact (by repeat (first|(with_reducible exact HR277_3.out)|(with_reducible refine Kd.C_alloc ?_ _)|(with_reducible refine Kd.C_drewN ?_ _)|(with_reducible refine Kd.C_drew ?_)|exact HR277_3.out))|(with_reducible refine Kd.C_alloc ?_ _)|(with_reducible refine Kd.C_drewN ?_ _)|(with_reducible refine Kd.C_drew ?_)));(case side2=>exact HC277_3.out);(case side3=>exact GL.below HGL.out (by repeat (first|(with_reducible first|exact HB.out|apply zE|apply zB|apply zC|refine zJ ?_ GE258.out)|exact HB.out))); rintro e w26 ⟨rfl,hb⟩; refine ⟨_,rfl,?_⟩; have n0_ := Aside0.mk (Kd.N_below (by (with_reducible repeat (first|apply Kd.N_alloc|apply Kd.N_drewN|apply Kd.N_drew)); exact HO_5.out) hb); have n1_ := Aside0.mk (Kd.V_below (by (with_reducible repeat (first|apply Kd.V_alloc|apply Kd.V_drewN|apply Kd.V_drew)); exact HO_259003.out) hb); have n2_ := Aside0.mk (Kd.V_below (by (with_reducible repeat (first|apply Kd.V_alloc|apply Kd.V_drewN|apply Kd.V_drew)); exact HL274_3.out) hb); have n3_ := Aside0.mk (Kd.V_below (by (with_reducible repeat (first|apply Kd.V_alloc|apply Kd.V_drewN|apply Kd.V_drew)); exact HL277_3.out) hb); have n4_ := Aside0.mk (blk_below (g := gb258) (o := .cells #[.int .i64 a0_0,.int .i64 a0_1,.string a0_2,.slice A0_3 l0_3.length c0_3] 24 (0,0)) (by (with_reducible repeat (first|refine zN ?_ _|refine zD ?_|refine zA ?_ _)); exact BK258.out) hb); have n5_ := Aside0.mk (Kd.C_below (by repeat (first|(with_reducible exact HR274_3.out)|(with_reducible refine Kd.C_alloc ?_ _)|(with_reducible refine Kd.C_drewN ?_ _)|(with_reducible refine Kd.C_drew ?_)|exact HR274_3.out)) hb); have n6_ := Aside0.mk (Kd.C_below (by repeat (first|(with_reducible exact HR277_3.out)|(with_reducible refine Kd.C_alloc ?_ _)|(with_reducible refine Kd.C_drewN ?_ _)|(with_reducible refine Kd.C_drew ?_)|exact HR277_3.out)) hb); have n7_ := Aside0.mk (below_step (by repeat (first|(with_reducible first|exact HB.out|apply zE|apply zB|apply zC|refine zJ ?_ GE258.out)|exact HB.out)) hb); clear HO_5 HO_259003 HL274_3 HL277_3 BK258 HR274_3 HR277_3 HB; have HO_5 := n0_; have HO_259003 := n1_; have HL274_3 := n2_; have HL277_3 := n3_; have BK258 := n4_; have HR274_3 := n5_; have HR277_3 := n6_; have HB := n7_; clear n0_ n1_ n2_ n3_ n4_ n5_ n6_ n7_;(try clear hb);(try clear hb2);(try clear hk);(try clear hi);(try clear hge)))
       (try simp only [Act.put,List.setIfInBounds_toArray,List.set_cons_zero,List.set_cons_succ])
       go_cut [52] (fun v52 wc=>∃ (kq : Nat) (x52_22 : Bool),v52 = .bool x52_22 ∧ Aside0 (flagstonelaw3_ValueFormats.j1 kq y271 x6_1 t275 t276 x52_22 = some r) ∧ Aside0 (kq ≤ k1) ∧ Aside0 (Kd.N k24 24 wc w.heap.size (fun k_=>(P0_3_ k_ ∨ w.heap.size ≤ k_) ∧ k_ ≠ gb258) (.slice (some ad274) y271.length co24) y271) ∧ Aside0 (Kd.V Kd.string 9 wc w.heap.size (fun k_=>(P0_3_ k_ ∨ w.heap.size ≤ k_) ∧ some k_ ≠ ((.slice (some ad274) y271.length co24) : Value).ownBlock ∧ k_ ≠ gb258) (.slice A0_3 l0_3.length c0_3) l0_3) ∧ Aside0 (wc.heap[gb258]? = some (.cells #[.int .i64 a0_0,.int .i64 a0_1,.string a0_2,(.slice A0_3 l0_3.length c0_3)] 24 (0,0))) ∧ Aside0 (Kd.C Kd.string wc A274_3 ((rd_T24 y271 x6_1).f3).length ((rd_T24 y271 x6_1).f3)) ∧ Aside0 (Kd.C Kd.string wc A277_3 ((rd_T24 y271 x6_1).f3).length ((rd_T24 y271 x6_1).f3)) ∧ Aside0 (Below w.heap.size w wc))
       case first =>
        have H := HC23.out; clear HC23
        by_cases c27 : t275.toList = t278.toList
        ·rw [if_pos c27] at H
         have c27b0 : (t275.toList == t278.toList) = true := beq_iff_eq.mpr c27
         have c27b1 : (t275.toList != t278.toList) = false := bne_eq_false_iff_eq.mpr c27
         clear c27
         (first|rw [c27b0]|(simp only [i64_w,i32_w]; rw [c27b0])|skip)
         have H' := Aside0.mk H; clear H
         go_wp2
         go_meet
         case rel=>exact ⟨_,((t276 != t279)),(by first|rfl|(simp; done)|(simp [*]; done)),H',⟨by have := HK1.out; first|omega|exact Nat.le_refl _⟩,⟨by (with_reducible repeat (first|apply Kd.N_alloc|apply Kd.N_drewN|apply Kd.N_drew)); exact HO_5.out⟩,⟨by (with_reducible repeat (first|apply Kd.V_alloc|apply Kd.V_drewN|apply Kd.V_drew)); exact HO_259003.out⟩,⟨by (with_reducible repeat (first|refine zN ?_ _|refine zD ?_|refine zA ?_ _)); exact BK258.out⟩,⟨by repeat (first|(with_reducible exact HR274_3.out)|(with_reducible refine Kd.C_alloc ?_ _)|(with_reducible refine Kd.C_drewN ?_ _)|(with_reducible refine Kd.C_drew ?_)|exact HR274_3.out)⟩,⟨by repeat (first|(with_reducible exact HR277_3.out)|(with_reducible refine Kd.C_alloc ?_ _)|(with_reducible refine Kd.C_drewN ?_ _)|(with_reducible refine Kd.C_drew ?_)|exact HR277_3.out)⟩,⟨by repeat (first|(with_reducible first|exact HB.out|apply zE|apply zB|apply zC|refine zJ ?_ GE258.out)|exact HB.out)⟩⟩
        ·rw [if_neg c27] at H
         have c27b0 : (t275.toList == t278.toList) = false := beq_eq_false_iff_ne.mpr c27
         have c27b1 : (t275.toList != t278.toList) = true := bne_iff_ne.mpr c27
         (first|rw [c27b0]|(simp only [i64_w,i32_w]; rw [c27b0])|skip)
         have H' := Aside0.mk H; clear H
         go_wp2
         go_meet
         case rel=>exact ⟨_,(true),(by first|rfl|(simp; done)|(simp [*]; done)),H',⟨by have := HK1.out; first|omega|exact Nat.le_refl _⟩,⟨by (with_reducible repeat (first|apply Kd.N_alloc|apply Kd.N_drewN|apply Kd.N_drew)); exact HO_5.out⟩,⟨by (with_reducible repeat (first|apply Kd.V_alloc|apply Kd.V_drewN|apply Kd.V_drew)); exact HO_259003.out⟩,⟨by (with_reducible repeat (first|refine zN ?_ _|refine zD ?_|refine zA ?_ _)); exact BK258.out⟩,⟨by repeat (first|(with_reducible exact HR274_3.out)|(with_reducible refine Kd.C_alloc ?_ _)|(with_reducible refine Kd.C_drewN ?_ _)|(with_reducible refine Kd.C_drew ?_)|exact HR274_3.out)⟩,⟨by repeat (first|(with_reducible exact HR277_3.out)|(with_reducible refine Kd.C_alloc ?_ _)|(with_reducible refine Kd.C_drewN ?_ _)|(with_reducible refine Kd.C_drew ?_)|exact HR277_3.out)⟩,⟨by repeat (first|(with_reducible first|exact HB.out|apply zE|apply zB|apply zC|refine zJ ?_ GE258.out)|exact HB.out)⟩⟩
       case rest =>
        clear HC23;(try clear c1);(try clear c2);(try clear p2);(try clear q2);(try clear hx2);(try clear c4);(try clear c6);(try clear c7);(try clear c8);(try clear c9);(try clear c10);(try clear c16);(try clear c17);(try clear c19);(try clear c19b0);(try clear c20);(try clear c20b0);(try clear c27);(try clear c27b0);(try clear c27b1);(try clear p27);(try clear q27);(try clear hx27);(try clear hcz11_0);(try clear hcz11_1);(try clear hcz11_2);(try clear hcz11_3);(try clear hfz11_0);(try clear hfz11_1);(try clear hfz11_2);(try clear hfz11_3);(try clear hx274_0);(try clear hx274_1);(try clear hx274_2);(try clear hx274_3);(try clear hx277_0);(try clear hx277_1);(try clear hx277_2);(try clear hx277_3);(try clear p2);(try clear p274);(try clear p277);(try clear q274);(try clear q277)
        obtain ⟨kq,x52_22,rfl,HA,HJ22,HO_5,HO_259003,BK258,HR274_3,HR277_3,HB⟩ := hcut
        cases kq with
        | zero=>exact absurd HA.out (by simp [flagstonelaw3_ValueFormats.j1])
        | succ kj22 =>
         have H := HA.out; clear HA
         simp only [flagstonelaw3_ValueFormats.j1] at H
         by_cases c28 : x52_22 = true
         ·subst c28
          have H1 : (some false) = some r := by rw [if_pos rfl] at H; exact H
          clear H; have H := H1; clear H1
          obtain rfl := Option.some.inj H
          go_wp2
          go_ret
          exact ⟨by first|rfl|(simp [errW_none,errW_some]<;>rfl)|(simp [*,errW_none,errW_some]<;>rfl),by repeat (first|(with_reducible first|exact HB.out|apply zE|apply zB|apply zC|refine zJ ?_ GE258.out)|exact HB.out)⟩
         ·replace c28 := Bool.eq_false_iff.mpr c28
          subst c28
          have H1 : (if t276 = 0 then ((value_Parse.f kj22 t275).bind fun bt280=>(if bt280.2.2.2.2 = 0 then (if 0 ≤ x6_1 then (if x6_1 < (y271.length : Int) then ((flagstoneref3_Equal.f kj22 bt280.1 bt280.2.1 bt280.2.2.1 bt280.2.2.2.1 ((rd_T24 y271 x6_1).f0) ((rd_T24 y271 x6_1).f1) ((rd_T24 y271 x6_1).f2) ((rd_T24 y271 x6_1).f3)).bind fun t289=>(if t289 = true then (flagstonelaw3_ValueFormats.l0 kj22 y271 (wrap64 (x6_1 + 1))) else (some false))) else (none)) else (none)) else (some false))) else (flagstonelaw3_ValueFormats.l0 kj22 y271 (wrap64 (x6_1 + 1)))) = some r := by rw [if_neg (show ¬ (false = true) by decide)] at H; exact H
          clear H; have H := H1; clear H1
          by_cases c29 : t276 = 0
          ·rw [if_pos c29] at H
           have c29b0 : (t276 == 0) = true := beq_iff_eq.mpr c29
           have c29b1 : (t276 != 0) = false := bne_eq_false_iff_eq.mpr c29
           clear c29; replace H := Option.bind_eq_some_iff.mp H
           obtain ⟨⟨t280,t281,t282,t283,t286⟩,A300,H⟩ := H
           replace H : (if t286 = 0 then (if 0 ≤ x6_1 then (if x6_1 < (y271.length : Int) then ((flagstoneref3_Equal.f kj22 t280 t281 t282 t283 ((rd_T24 y271 x6_1).f0) ((rd_T24 y271 x6_1).f1) ((rd_T24 y271 x6_1).f2) ((rd_T24 y271 x6_1).f3)).bind fun t289=>(if t289 = true then (flagstonelaw3_ValueFormats.l0 kj22 y271 (wrap64 (x6_1 + 1))) else (some false))) else (none)) else (none)) else (some false)) = some r := H
           have A30 := Aside0.mk A300; clear A300
           by_cases c31 : t286 = 0
           ·rw [if_pos c31] at H
            have c31b0 : (t286 == 0) = true := beq_iff_eq.mpr c31
            have c31b1 : (t286 != 0) = false := bne_eq_false_iff_eq.mpr c31
            clear c31
            by_cases c32 : 0 ≤ x6_1
            ·rw [if_pos c32] at H
             have c32b0 : decide (0 ≤ x6_1) = true := decide_eq_true c32
             clear c32
             by_cases c33 : x6_1 < (y271.length : Int)
             ·rw [if_pos c33] at H
              have c33b0 : decide (x6_1 < (y271.length : Int)) = true := decide_eq_true c33
              clear c33; replace H := Option.bind_eq_some_iff.mp H; obtain ⟨t289,A340,H⟩ := H
              replace H : (if t289 = true then (flagstonelaw3_ValueFormats.l0 kj22 y271 (wrap64 (x6_1 + 1))) else (some false)) = some r := H
              have A34 := Aside0.mk A340; clear A340
              by_cases c35 : t289 = true
              ·subst c35
               have H1 : (flagstonelaw3_ValueFormats.l0 kj22 y271 (wrap64 (x6_1 + 1))) = some r := by rw [if_pos rfl] at H; exact H
               clear H; have H := H1; clear H1; have H' := Aside0.mk H; clear H
               try go_wp2_with (first|((with_reducible refine gate_callee (f := 18) rfl ?_); refine goesL_ (some 57) rfl rfl Tryz.func18 (by kernel_rfl) rfl #[.string t275] rfl (by (try simp only [List.map_toArray,List.map_cons,List.map_nil]); first|done|rfl|(simp only [List.length_drop,List.length_take]; rfl)) ?_;(with_reducible refine (value_Parse.calls kj22 t275 t280 t281 t282 t283 t286 _ ?side1 A30.out).mono ?_);(case side1=>exact GL.below HGL.out (by repeat (first|(with_reducible first|exact HB.out|apply zE|apply zB|apply zC|refine zJ ?_ GE258.out)|exact HB.out))); rintro e w36 ⟨v284,rfl,ho0,hb⟩; refine ⟨_,rfl,?_⟩; have n0_ := Aside0.mk (Kd.N_elder' (by (with_reducible repeat (first|apply Kd.N_alloc|apply Kd.N_drewN|apply Kd.N_drew)); exact HO_5.out) (Kd.R_base ho0) hb); have n1_ := Aside0.mk (Kd.V_elder' (by (with_reducible repeat (first|apply Kd.V_alloc|apply Kd.V_drewN|apply Kd.V_drew)); exact HO_259003.out) (Kd.R_base ho0) hb); have n2_ := Aside0.mk (Kd.R_lower (Kd.R_newM (M := fun k_=>(w.heap.size ≤ k_)) ho0 (below_size (by repeat (first|(with_reducible first|exact HB.out|apply zE|apply zB|apply zC|refine zJ ?_ GE258.out)|exact HB.out))) (fun k_ h_=>h_)) (below_size (by repeat (first|(with_reducible first|exact HB.out|apply zE|apply zB|apply zC|refine zJ ?_ GE258.out)|exact HB.out)))); have n3_ := Aside0.mk (blk_below (g := gb258) (o := .cells #[.int .i64 a0_0,.int .i64 a0_1,.string a0_2,.slice A0_3 l0_3.length c0_3] 24 (0,0)) (by (with_reducible repeat (first|refine zN ?_ _|refine zD ?_|refine zA ?_ _)); exact BK258.out) hb); have n4_ := Aside0.mk (Kd.C_below (by repeat (first|(with_reducible exact HR274_3.out)|(with_reducible refine Kd.C_alloc ?_ _)|(with_reducible refine Kd.C_drewN ?_ _)|(with_reducible refine Kd.C_drew ?_)|exact HR274_3.out)) hb); have n5_ := Aside0.mk (Kd.C_below (by repeat (first|(with_reducible exact HR277_3.out)|(with_reducible refine Kd.C_alloc ?_ _)|(with_reducible refine Kd.C_drewN ?_ _)|(with_reducible refine Kd.C_drew ?_)|exact HR277_3.out)) hb); have n6_ := Aside0.mk (below_step (by repeat (first|(with_reducible first|exact HB.out|apply zE|apply zB|apply zC|refine zJ ?_ GE258.out)|exact HB.out)) hb); clear HO_5 HO_259003 BK258 HR274_3 HR277_3 HB; have HO_5 := n0_; have HO_259003 := n1_; have HO285 := n2_; have BK258 := n3_; have HR274_3 := n4_; have HR277_3 := n5_; have HB := n6_; clear n0_ n1_ n2_ n3_ n4_ n5_ n6_;(try clear hb);(try clear hb2);(try clear hk);(try clear hi);(try clear hge);(try clear ho0))|((with_reducible refine gate_dst (N := 11) rfl ?_); refine box_event ?hg (N := 11) ?hd (cs := #[.int .i64 0,.int .i64 0,.string (⟨#[]⟩ : ByteArray),.slice none 0 0]) (t := 24) ?hr ?_;(case hd=>rfl);(case hg=>rfl);(case hr=>first|(go_simp; done)|(go_simp; rfl)); intro gb287 hg w37 hbox hb; have n0_ := Aside0.mk (Kd.N_below (Kd.N_elderB (by (with_reducible repeat (first|apply Kd.N_alloc|apply Kd.N_drewN|apply Kd.N_drew)); exact HO_5.out) gb287 (Nat.le_of_eq hg.symm)) hb); have n1_ := Aside0.mk (Kd.V_below (Kd.V_elderB (by (with_reducible repeat (first|apply Kd.V_alloc|apply Kd.V_drewN|apply Kd.V_drew)); exact HO_259003.out) gb287 (Nat.le_of_eq hg.symm)) hb); have n2_ := Aside0.mk (Kd.R_below (by (with_reducible repeat (first|apply Kd.R_alloc|apply Kd.R_drewN|apply Kd.R_drew)); exact HO285.out) hb); have n3_ := Aside0.mk (blk_below (g := gb258) (o := .cells #[.int .i64 a0_0,.int .i64 a0_1,.string a0_2,.slice A0_3 l0_3.length c0_3] 24 (0,0)) (by (with_reducible repeat (first|refine zN ?_ _|refine zD ?_|refine zA ?_ _)); exact BK258.out) hb); have n4_ := Aside0.mk (Kd.C_below (by repeat (first|(with_reducible exact HR274_3.out)|(with_reducible refine Kd.C_alloc ?_ _)|(with_reducible refine Kd.C_drewN ?_ _)|(with_reducible refine Kd.C_drew ?_)|exact HR274_3.out)) hb); have n5_ := Aside0.mk (Kd.C_below (by repeat (first|(with_reducible exact HR277_3.out)|(with_reducible refine Kd.C_alloc ?_ _)|(with_reducible refine Kd.C_drewN ?_ _)|(with_reducible refine Kd.C_drew ?_)|exact HR277_3.out)) hb); have n6_ := Aside0.mk (below_step (by repeat (first|(with_reducible first|exact HB.out|apply zE|apply zB|apply zC|refine zJ ?_ GE258.out)|exact HB.out)) hb); have n7_ := Aside0.mk (hbox); have n8_ := Aside0.mk ((by rw [hg]; exact (below_size (by repeat (first|(with_reducible first|exact HB.out|apply zE|apply zB|apply zC|refine zJ ?_ GE258.out)|exact HB.out))) : w.heap.size ≤ gb287)); have n9_ := Aside0.mk ((by rw [hg]; exact (below_size (by repeat (first|(with_reducible first|exact HB.out|apply zE|apply zB|apply zC|refine zJ ?_ GE258.out)|exact HB.out))) : w.heap.size ≤ gb287)); have n10_ := Aside0.mk ((by rw [hg]; exact Nat.ne_of_lt (blk_lt (g := gb258) (o := .cells #[.int .i64 a0_0,.int .i64 a0_1,.string a0_2,.slice A0_3 l0_3.length c0_3] 24 (0,0)) (by (with_reducible repeat (first|refine zN ?_ _|refine zD ?_|refine zA ?_ _)); exact BK258.out)) : gb258 ≠ gb287)); have n11_ := Aside0.mk ((by rw [hg]; exact Nat.ne_of_gt (blk_lt (g := gb258) (o := .cells #[.int .i64 a0_0,.int .i64 a0_1,.string a0_2,.slice A0_3 l0_3.length c0_3] 24 (0,0)) (by (with_reducible repeat (first|refine zN ?_ _|refine zD ?_|refine zA ?_ _)); exact BK258.out)) : gb287 ≠ gb258)); clear HO_5 HO_259003 HO285 BK258 HR274_3 HR277_3 HB; have HO_5 := n0_; have HO_259003 := n1_; have HO285 := n2_; have BK258 := n3_; have HR274_3 := n4_; have HR277_3 := n5_; have HB := n6_; have BK287 := n7_; have GW287 := n8_; have GE287 := n9_; have NB258_287 := n10_; have NB287_258 := n11_; clear n0_ n1_ n2_ n3_ n4_ n5_ n6_ n7_ n8_ n9_ n10_ n11_ hb hbox hg; have hnb38 := NB287_258.out; have hnc38 := NB258_287.out; have hcz39_0 : w37.cell? ⟨gb287,0,none⟩ = some (.int .i64 0):=(blk_cell BK287.out 0).trans rfl; have hcz39_1 : w37.cell? ⟨gb287,1,none⟩ = some (.int .i64 0):=(blk_cell BK287.out 1).trans rfl; have hcz39_2 : w37.cell? ⟨gb287,2,none⟩ = some (.string (⟨#[]⟩ : ByteArray)):=(blk_cell BK287.out 2).trans rfl; have hcz39_3 : w37.cell? ⟨gb287,3,none⟩ = some (.slice none 0 0):=(blk_cell BK287.out 3).trans rfl; have hfz39_0 := blk_frozen BK287.out 0; have hfz39_1 := blk_frozen BK287.out 1; have hfz39_2 := blk_frozen BK287.out 2; have hfz39_3 := blk_frozen BK287.out 3; obtain ⟨Ao40,co40,eo40⟩ := Kd.R_slice HO285.out; subst eo40))
               have n0_ : Aside0 (Kd.N k24 24 ((((w37.setCell ⟨gb287,0,none⟩ (.int .i64 t280)).setCell ⟨gb287,1,none⟩ (.int .i64 t281)).setCell ⟨gb287,2,none⟩ (.string t282)).setCell ⟨gb287,3,none⟩ (.slice Ao40 t283.length co40)) w.heap.size (fun k_=>(P0_3_ k_ ∨ w.heap.size ≤ k_) ∧ some k_ ≠ (.slice Ao40 t283.length co40 : Value).ownBlock ∧ k_ ≠ gb258 ∧ k_ ≠ gb287) (.slice (some ad274) y271.length co24) y271):=⟨by (with_reducible repeat (first|apply Kd.N_alloc|apply Kd.N_drewN|apply Kd.N_drew)); exact Kd.N_mono (Kd.N_far (p:=⟨gb287,3,none⟩) (Kd.N_far (p:=⟨gb287,2,none⟩) (Kd.N_far (p:=⟨gb287,1,none⟩) (Kd.N_far (p:=⟨gb287,0,none⟩) (Kd.N_mono HO_5.out (fun k_ hk=>(⟨hk,hk.2⟩ : _ ∧ k_ ≠ gb287))) (fun _ hk=>hk.2) (.int .i64 t280)) (fun _ hk=>hk.2) (.int .i64 t281)) (fun _ hk=>hk.2) (.string t282)) (fun _ hk=>hk.2) (.slice Ao40 t283.length co40)) (fun _ hk=>⟨hk.1.1.1.1,⟨hk.1.1.2,⟨hk.1.1.1.2,hk.1.2⟩⟩⟩)⟩
               have n1_ : Aside0 (Kd.V Kd.string 9 ((((w37.setCell ⟨gb287,0,none⟩ (.int .i64 t280)).setCell ⟨gb287,1,none⟩ (.int .i64 t281)).setCell ⟨gb287,2,none⟩ (.string t282)).setCell ⟨gb287,3,none⟩ (.slice Ao40 t283.length co40)) w.heap.size (fun k_=>(P0_3_ k_ ∨ w.heap.size ≤ k_) ∧ some k_ ≠ (.slice (some ad274) y271.length co24 : Value).ownBlock ∧ some k_ ≠ (.slice Ao40 t283.length co40 : Value).ownBlock ∧ k_ ≠ gb258 ∧ k_ ≠ gb287) (.slice A0_3 l0_3.length c0_3) l0_3):=⟨by (with_reducible repeat (first|apply Kd.V_alloc|apply Kd.V_drewN|apply Kd.V_drew)); exact Kd.V_mono (Kd.V_far (p:=⟨gb287,3,none⟩) (Kd.V_far (p:=⟨gb287,2,none⟩) (Kd.V_far (p:=⟨gb287,1,none⟩) (Kd.V_far (p:=⟨gb287,0,none⟩) (Kd.V_mono HO_259003.out (fun k_ hk=>(⟨hk,hk.2⟩ : _ ∧ k_ ≠ gb287))) (fun _ hk=>hk.2) (.int .i64 t280)) (fun _ hk=>hk.2) (.int .i64 t281)) (fun _ hk=>hk.2) (.string t282)) (fun _ hk=>hk.2) (.slice Ao40 t283.length co40)) (fun _ hk=>⟨hk.1.1.1.1,⟨hk.1.1.1.2.1,⟨hk.1.1.2,⟨hk.1.1.1.2.2,hk.1.2⟩⟩⟩⟩)⟩
               have n2_ : Aside0 (Kd.R Kd.string 9 ((((w37.setCell ⟨gb287,0,none⟩ (.int .i64 t280)).setCell ⟨gb287,1,none⟩ (.int .i64 t281)).setCell ⟨gb287,2,none⟩ (.string t282)).setCell ⟨gb287,3,none⟩ (.slice Ao40 t283.length co40)) w.heap.size (fun k_=>(w.heap.size ≤ k_)) (.slice Ao40 t283.length co40) t283):=⟨by (with_reducible repeat (first|apply Kd.R_alloc|apply Kd.R_drewN|apply Kd.R_drew)); exact Kd.R_mono (Kd.R_far (p:=⟨gb287,3,none⟩) (Kd.R_far (p:=⟨gb287,2,none⟩) (Kd.R_far (p:=⟨gb287,1,none⟩) (Kd.R_far (p:=⟨gb287,0,none⟩) (Kd.R_types HO285.out BK287.out (by decide)) (fun _ hk=>hk.2) (.int .i64 t280)) (fun _ hk=>hk.2) (.int .i64 t281)) (fun _ hk=>hk.2) (.string t282)) (fun _ hk=>hk.2) (.slice Ao40 t283.length co40)) (fun _ hk=>hk.1.1)⟩
               have n3_ : Aside0 (((((w37.setCell ⟨gb287,0,none⟩ (.int .i64 t280)).setCell ⟨gb287,1,none⟩ (.int .i64 t281)).setCell ⟨gb287,2,none⟩ (.string t282)).setCell ⟨gb287,3,none⟩ (.slice Ao40 t283.length co40)).heap[gb258]? = some (.cells #[.int .i64 a0_0,.int .i64 a0_1,.string a0_2,.slice A0_3 l0_3.length c0_3] 24 (0,0))):=⟨by (with_reducible repeat (first|refine zN ?_ _|refine zD ?_|refine zA ?_ _)); refine blk_far ?_ NB258_287.out _;(with_reducible repeat (first|refine zN ?_ _|refine zD ?_|refine zA ?_ _)); refine blk_far ?_ NB258_287.out _;(with_reducible repeat (first|refine zN ?_ _|refine zD ?_|refine zA ?_ _)); refine blk_far ?_ NB258_287.out _;(with_reducible repeat (first|refine zN ?_ _|refine zD ?_|refine zA ?_ _)); refine blk_far ?_ NB258_287.out _;(with_reducible repeat (first|refine zN ?_ _|refine zD ?_|refine zA ?_ _)); exact BK258.out⟩
               have n4_ : Aside0 (((((w37.setCell ⟨gb287,0,none⟩ (.int .i64 t280)).setCell ⟨gb287,1,none⟩ (.int .i64 t281)).setCell ⟨gb287,2,none⟩ (.string t282)).setCell ⟨gb287,3,none⟩ (.slice Ao40 t283.length co40)).heap[gb287]? = some (.cells #[.int .i64 t280,.int .i64 t281,.string t282,.slice Ao40 t283.length co40] 24 (0,0))):=⟨by (with_reducible repeat (first|refine zN ?_ _|refine zD ?_|refine zA ?_ _)); refine blk_put (cs := #[.int .i64 t280,.int .i64 t281,.string t282,.slice none 0 0]) ?_ 3 _ rfl;(with_reducible repeat (first|refine zN ?_ _|refine zD ?_|refine zA ?_ _)); refine blk_put (cs := #[.int .i64 t280,.int .i64 t281,.string (⟨#[]⟩ : ByteArray),.slice none 0 0]) ?_ 2 _ rfl;(with_reducible repeat (first|refine zN ?_ _|refine zD ?_|refine zA ?_ _)); refine blk_put (cs := #[.int .i64 t280,.int .i64 0,.string (⟨#[]⟩ : ByteArray),.slice none 0 0]) ?_ 1 _ rfl;(with_reducible repeat (first|refine zN ?_ _|refine zD ?_|refine zA ?_ _)); refine blk_put (cs := #[.int .i64 0,.int .i64 0,.string (⟨#[]⟩ : ByteArray),.slice none 0 0]) ?_ 0 _ rfl;(with_reducible repeat (first|refine zN ?_ _|refine zD ?_|refine zA ?_ _)); exact BK287.out⟩
               have n5_ : Aside0 (Below w.heap.size w ((((w37.setCell ⟨gb287,0,none⟩ (.int .i64 t280)).setCell ⟨gb287,1,none⟩ (.int .i64 t281)).setCell ⟨gb287,2,none⟩ (.string t282)).setCell ⟨gb287,3,none⟩ (.slice Ao40 t283.length co40))):=⟨by repeat (first|(with_reducible first|exact HB.out|apply zE|apply zB|apply zC|refine zJ ?_ GE258.out|refine zJ ?_ GE287.out)|exact HB.out)⟩
               (try clear HO_5)
               (try clear HO_259003)
               (try clear HO285)
               (try clear BK258)
               (try clear BK287)
               (try clear HB)
               generalize ((((w37.setCell ⟨gb287,0,none⟩ (.int .i64 t280)).setCell ⟨gb287,1,none⟩ (.int .i64 t281)).setCell ⟨gb287,2,none⟩ (.string t282)).setCell ⟨gb287,3,none⟩ (.slice Ao40 t283.length co40)) = w41 at n0_ n1_ n2_ n3_ n4_ n5_ ⊢
               have HO_5 := n0_; have HO_259003 := n1_; have HO285 := n2_; have BK258 := n3_; have BK287 := n4_; have HB := n5_; clear n0_ n1_ n2_ n3_ n4_ n5_
               have n0_ := Aside0.mk (Kd.N_drew HO_5.out)
               have n1_ := Aside0.mk (Kd.V_drew HO_259003.out)
               have n2_ := Aside0.mk (Kd.R_drew HO285.out)
               have n3_ := Aside0.mk (zD BK258.out)
               have n4_ := Aside0.mk (zD BK287.out)
               have n5_ := Aside0.mk (zC HB.out)
               clear HO_5 HO_259003 HO285 BK258 BK287 HB; have HO_5 := n0_; have HO_259003 := n1_; have HO285 := n2_; have BK258 := n3_; have BK287 := n4_; have HB := n5_; clear n0_ n1_ n2_ n3_ n4_ n5_
               have p288 : 0 ≤ (x6_1 : Int) := of_decide_eq_true (by first|(with_reducible assumption)|assumption)
               have q288 : x6_1 < (y271.length : Int) := of_decide_eq_true (by first|(with_reducible assumption)|assumption)
               obtain ⟨ad288,A288_3,c288_3,e288,hx288_0,hx288_1,hx288_2,hx288_3,hl288_3,hi288_3⟩ := at_T24 (Kd.N_reads' HO_5.out).2.2 x6_1 p288 q288
               obtain rfl : ad274 = ad288:=(by injection e288)
               obtain ⟨ce288,hce288,hMe288,hcc288⟩ := Kd.N_get HO_5.out z24 x6_1 p288 (by first|exact q288|exact of_decide_eq_true (by first|(with_reducible assumption)|assumption)|(have e_:=(Kd.N_reads' HO_5.out).1; omega))
               obtain ⟨ua288_3,uc288_3,rfl,ul288_3,ge288_3⟩ := k24_openF hMe288
               have hv288_3 := hcc288 3 _ rfl
               rw [add_field _ _ 3 (by omega)] at hv288_3
               replace hv288_3 := Option.some.inj (hv288_3.symm.trans hx288_3)
               injection hv288_3 with hva_ hvn_ hvc_
               rw [hva_] at ge288_3
               rw [hvc_] at ul288_3
               have HL288_3 := Aside0.mk (show Kd.V Kd.string 9 _ w.heap.size _ _ ((rd_T24 y271 x6_1).f3) from Kd.V_mk ul288_3 ge288_3)
               clear hva_ hvn_ hvc_ ge288_3 ul288_3 hcc288 hce288; have HR288_3 := Aside0.mk hi288_3; have HC288_3 := Aside0.mk hl288_3; clear hi288_3 hl288_3
               replace p288 := eq_true p288
               replace q288 := eq_true q288
               refine start_ (n := 11) (S := fun w'=>w'.cell? ⟨gb287,0,none⟩ = some (.int .i64 t280) ∧ w'.cell? ⟨gb287,1,none⟩ = some (.int .i64 t281) ∧ w'.cell? ⟨gb287,2,none⟩ = some (.string t282) ∧ w'.cell? ⟨gb287,3,none⟩ = some (.slice Ao40 t283.length co40) ∧ w'.cell? (ad274.add ((x6_1).toNat * 4)) = some (.int .i64 ((rd_T24 y271 x6_1).f0)) ∧ w'.cell? ⟨(ad274.add ((x6_1).toNat * 4)).block,(ad274.add ((x6_1).toNat * 4)).off + 1,none⟩ = some (.int .i64 ((rd_T24 y271 x6_1).f1)) ∧ w'.cell? ⟨(ad274.add ((x6_1).toNat * 4)).block,(ad274.add ((x6_1).toNat * 4)).off + 2,none⟩ = some (.string ((rd_T24 y271 x6_1).f2)) ∧ w'.cell? ⟨(ad274.add ((x6_1).toNat * 4)).block,(ad274.add ((x6_1).toNat * 4)).off + 3,none⟩ = some (.slice A288_3 ((rd_T24 y271 x6_1).f3).length c288_3)) (ds := []) #[false,false,false,false,false,false,false,false,false,false,false] (by kernel_rfl) rfl rfl ⟨(blk_cell BK287.out 0).trans rfl,(blk_cell BK287.out 1).trans rfl,(blk_cell BK287.out 2).trans rfl,(blk_cell BK287.out 3).trans rfl,hx288_0,hx288_1,hx288_2,hx288_3⟩ (fun hHeld=>?_); refine with_tabW flagstonelaw3_ValueFormats.tab15 flagstonelaw3_ValueFormats.bits15 (fun HT_ HW_=>?_)
               generalize w41.drew = w42 at HO_5 HO_259003 HO285 BK258 BK287 HB HL288_3 HR288_3 hx288_0 hx288_1 hx288_2 hx288_3 hHeld ⊢
               refine pure_ (i := 0) (N := some 60) (v := ?_) (a' := ?_) #[true,false,false,false,false,false,false,false,false,false,false] rfl rfl (any_of HT_.out (by kernel_rfl)) (fun _ _ _ h=>h) (Or.inl ⟨by rfl,?_⟩) ?_ ?_
               rotate_left
               ·intro w'
                go_simp
                with_reducible rfl
               rotate_left
               ·simp only [Act.put,List.setIfInBounds_toArray,List.set_cons_zero,List.set_cons_succ,i64_w,i32_w]
                rfl
               refine pure_ (i := 1) (N := some 61) (v := ?_) (a' := ?_) #[true,true,false,false,false,false,false,false,false,false,false] rfl rfl (any_of HT_.out (by kernel_rfl)) (fun _ _ _ h=>h) (Or.inl ⟨by rfl,?_⟩) ?_ ?_
               rotate_left
               ·intro w'
                go_simp
                with_reducible rfl
               rotate_left
               ·simp only [Act.put,List.setIfInBounds_toArray,List.set_cons_zero,List.set_cons_succ,i64_w,i32_w]
                rfl
               refine pure_ (i := 2) (N := some 62) (v := ?_) (a' := ?_) #[true,true,true,false,false,false,false,false,false,false,false] rfl rfl (any_of HT_.out (by kernel_rfl)) (fun _ _ _ h=>h) (Or.inl ⟨by rfl,?_⟩) ?_ ?_
               rotate_left
               ·intro w'
                go_simp
                with_reducible rfl
               rotate_left
               ·simp only [Act.put,List.setIfInBounds_toArray,List.set_cons_zero,List.set_cons_succ,i64_w,i32_w]
                rfl
               refine pure_ (i := 4) (N := some 64) (v := ?_) (a' := ?_) #[true,true,true,false,true,false,false,false,false,false,false] rfl rfl (any_of HT_.out (by kernel_rfl)) (fun _ _ _ h=>h) (Or.inl ⟨by rfl,?_⟩) ?_ ?_
               rotate_left
               ·intro w'
                go_simp
                with_reducible rfl
               rotate_left
               ·simp only [Act.put,List.setIfInBounds_toArray,List.set_cons_zero,List.set_cons_succ,i64_w,i32_w]
                rfl
               refine pure_ (i := 5) (N := some 65) (v := ?_) (a' := ?_) #[true,true,true,false,true,true,false,false,false,false,false] rfl rfl (any_of HT_.out (by kernel_rfl)) (fun _ _ _ h=>h) (Or.inl ⟨by rfl,?_⟩) ?_ ?_
               rotate_left
               ·intro w'
                go_simp
                with_reducible rfl
               rotate_left
               ·simp only [Act.put,List.setIfInBounds_toArray,List.set_cons_zero,List.set_cons_succ,i64_w,i32_w]
                rfl
               refine pure_ (i := 6) (N := some 66) (v := ?_) (a' := ?_) #[true,true,true,false,true,true,true,false,false,false,false] rfl rfl (any_of HT_.out (by kernel_rfl)) (fun _ _ _ h=>h) (Or.inl ⟨by rfl,?_⟩) ?_ ?_
               rotate_left
               ·intro w'
                go_simp
                with_reducible rfl
               rotate_left
               ·simp only [Act.put,List.setIfInBounds_toArray,List.set_cons_zero,List.set_cons_succ,i64_w,i32_w]
                rfl
               refine take_ (i := 3) (N := some 63) (v := ?_) (a' := ?_) #[true,true,true,true,true,true,true,false,false,false,false] rfl rfl (take_ofW HT_.out HW_.out (by kernel_rfl)) (fun _ _ _ h=>h) (Or.inl ⟨by rfl,?_⟩) hHeld ?_ ?_
               rotate_left
               ·rintro w' ⟨s0,s1,s2,s3,s4,s5,s6,s7⟩
                go_simp
                with_reducible rfl
               rotate_left
               ·simp only [Act.put,List.setIfInBounds_toArray,List.set_cons_zero,List.set_cons_succ,i64_w,i32_w]
                rfl
               refine take_ (i := 7) (N := some 67) (v := ?_) (a' := ?_) #[true,true,true,true,true,true,true,true,false,false,false] rfl rfl (take_ofW HT_.out HW_.out (by kernel_rfl)) (fun _ _ _ h=>h) (Or.inl ⟨by rfl,?_⟩) hHeld ?_ ?_
               rotate_left
               ·rintro w' ⟨s0,s1,s2,s3,s4,s5,s6,s7⟩
                go_simp
                with_reducible rfl
               rotate_left
               ·simp only [Act.put,List.setIfInBounds_toArray,List.set_cons_zero,List.set_cons_succ,i64_w,i32_w]
                rfl
               refine one_ (i := 8) (N := some 68) #[true,true,true,true,true,true,true,true,true,false,false] rfl rfl (one_of HT_.out (by kernel_rfl)) (by decide) (fun K hK=>?_)
               refine goes_ Tryz.func19 (by kernel_rfl) rfl #[.agg #[.int .i64 t280,.int .i64 t281,.string t282,.slice Ao40 t283.length co40],.agg #[.int .i64 ((rd_T24 y271 x6_1).f0),.int .i64 ((rd_T24 y271 x6_1).f1),.string ((rd_T24 y271 x6_1).f2),.slice A288_3 ((rd_T24 y271 x6_1).f3).length c288_3]] (by rfl) rfl rfl (by (try simp only [List.map_toArray,List.map_cons,List.map_nil]); first|done|rfl|(simp only [List.length_drop,List.length_take]; rfl)) ?_
               with_reducible refine (flagstoneref3_Equal.calls kj22 t280 t281 t282 _ _ t283 ((rd_T24 y271 x6_1).f0) ((rd_T24 y271 x6_1).f1) ((rd_T24 y271 x6_1).f2) _ _ ((rd_T24 y271 x6_1).f3) true _ ?side1 ?side2 ?side3 ?side4 A34.out).mono ?_
               (case side1=>repeat (first|exact (Kd.R_reads' HO285.out).2.2|(with_reducible refine Kd.C_alloc ?_ _)|(with_reducible refine Kd.C_drewN ?_ _)|(with_reducible refine Kd.C_drew ?_)))
               (case side2=>exact (Kd.R_reads' HO285.out).2.1)
               (case side3=>repeat (first|exact (by repeat (first|(with_reducible exact HR288_3.out)|(with_reducible refine Kd.C_alloc ?_ _)|(with_reducible refine Kd.C_drewN ?_ _)|(with_reducible refine Kd.C_drew ?_)|exact HR288_3.out))|(with_reducible refine Kd.C_alloc ?_ _)|(with_reducible refine Kd.C_drewN ?_ _)|(with_reducible refine Kd.C_drew ?_)))
               (case side4=>exact HC288_3.out)
               rintro e w43 ⟨rfl,hb⟩
               have HS4_:=(hb.cell (World.block_lt_of_cell? _ _ (hHeld.2.2.2.2.1))).trans (hHeld.2.2.2.2.1)
               have HS5_:=(hb.cell (World.block_lt_of_cell? _ _ (hHeld.2.2.2.2.2.1))).trans (hHeld.2.2.2.2.2.1)
               have HS6_:=(hb.cell (World.block_lt_of_cell? _ _ (hHeld.2.2.2.2.2.2.1))).trans (hHeld.2.2.2.2.2.2.1)
               have HS7_:=(hb.cell (World.block_lt_of_cell? _ _ (hHeld.2.2.2.2.2.2.2))).trans (hHeld.2.2.2.2.2.2.2)
               refine ⟨_,rfl,?_⟩
               have n0_ := Aside0.mk (Kd.N_below (by (with_reducible repeat (first|apply Kd.N_alloc|apply Kd.N_drewN|apply Kd.N_drew)); exact HO_5.out) hb)
               have n1_ := Aside0.mk (Kd.V_below (by (with_reducible repeat (first|apply Kd.V_alloc|apply Kd.V_drewN|apply Kd.V_drew)); exact HO_259003.out) hb)
               have n2_ := Aside0.mk (Kd.R_below (by (with_reducible repeat (first|apply Kd.R_alloc|apply Kd.R_drewN|apply Kd.R_drew)); exact HO285.out) hb)
               have n3_ := Aside0.mk (Kd.V_below (by (with_reducible repeat (first|apply Kd.V_alloc|apply Kd.V_drewN|apply Kd.V_drew)); exact HL288_3.out) hb)
               have n4_ := Aside0.mk (blk_below (g := gb258) (o := .cells #[.int .i64 a0_0,.int .i64 a0_1,.string a0_2,.slice A0_3 l0_3.length c0_3] 24 (0,0)) (by (with_reducible repeat (first|refine zN ?_ _|refine zD ?_|refine zA ?_ _)); exact BK258.out) hb)
               have n5_ := Aside0.mk (blk_below (g := gb287) (o := .cells #[.int .i64 t280,.int .i64 t281,.string t282,.slice Ao40 t283.length co40] 24 (0,0)) (by (with_reducible repeat (first|refine zN ?_ _|refine zD ?_|refine zA ?_ _)); exact BK287.out) hb)
               have n6_ := Aside0.mk (Kd.C_below (by repeat (first|(with_reducible exact HR288_3.out)|(with_reducible refine Kd.C_alloc ?_ _)|(with_reducible refine Kd.C_drewN ?_ _)|(with_reducible refine Kd.C_drew ?_)|exact HR288_3.out)) hb)
               have n7_ := Aside0.mk (below_step (by repeat (first|(with_reducible first|exact HB.out|apply zE|apply zB|apply zC|refine zJ ?_ GE258.out|refine zJ ?_ GE287.out)|exact HB.out)) hb)
               clear HO_5 HO_259003 HO285 HL288_3 BK258 BK287 HR288_3 HB; have HO_5 := n0_; have HO_259003 := n1_; have HO285 := n2_; have HL288_3 := n3_; have BK258 := n4_; have BK287 := n5_; have HR288_3 := n6_; have HB := n7_; clear n0_ n1_ n2_ n3_ n4_ n5_ n6_ n7_
               (try clear hb)
               (try clear hb2)
               (try clear hk)
               (try clear hi)
               (try clear hge)
               refine hK.out _ _ ⟨(blk_cell BK287.out 0).trans rfl,(blk_cell BK287.out 1).trans rfl,(blk_cell BK287.out 2).trans rfl,(blk_cell BK287.out 3).trans rfl,HS4_,HS5_,HS6_,HS7_⟩ (fun hHeld=>?_)
               clear hK K
               refine norm_ (a' := ?_) ?_ ?_
               rotate_left
               ·show Act.put _ (some 68) _ = _
                simp only [Act.put,List.setIfInBounds_toArray,List.set_cons_zero,List.set_cons_succ,i64_w,i32_w]
                rfl
               refine pure_ (i := 9) (N := some 69) (v := ?_) (a' := ?_) #[true,true,true,true,true,true,true,true,true,true,false] rfl rfl (any_of HT_.out (by kernel_rfl)) (fun _ _ _ h=>h) (Or.inl ⟨by rfl,?_⟩) ?_ ?_
               rotate_left
               ·intro w'
                go_simp
                with_reducible rfl
               rotate_left
               ·simp only [Act.put,List.setIfInBounds_toArray,List.set_cons_zero,List.set_cons_succ,i64_w,i32_w]
                rfl
               refine pure_ (i := 10) (N := some 70) (v := ?_) (a' := ?_) #[true,true,true,true,true,true,true,true,true,true,true] rfl rfl (any_of HT_.out (by kernel_rfl)) (fun _ _ _ h=>h) (Or.inl ⟨by rfl,?_⟩) ?_ ?_
               rotate_left
               ·intro w'
                go_simp
                with_reducible rfl
               rotate_left
               ·simp only [Act.put,List.setIfInBounds_toArray,List.set_cons_zero,List.set_cons_succ,i64_w,i32_w]
                rfl
               refine done_ (done_of HT_.out (by kernel_rfl)) ?_
               try go_wp2
               go_roundg kj22
               case measure=>have := HK1.out; have := HJ22.out; omega
               case rel=>exact ⟨(wrap64 (x6_1 + 1)),(by first|rfl|(simp; done)|(simp [*]; done)),H',⟨by have := HK1.out; have := HJ22.out; omega⟩,⟨by (with_reducible repeat (first|apply Kd.N_alloc|apply Kd.N_drewN|apply Kd.N_drew)); exact Kd.N_mono HO_5.out (fun _ hk=>⟨hk.1,hk.2.2.1⟩)⟩,⟨by (with_reducible repeat (first|apply Kd.V_alloc|apply Kd.V_drewN|apply Kd.V_drew)); exact Kd.V_mono HO_259003.out (fun _ hk=>⟨hk.1,⟨hk.2.1,hk.2.2.2.1⟩⟩)⟩,⟨by (with_reducible repeat (first|refine zN ?_ _|refine zD ?_|refine zA ?_ _)); exact BK258.out⟩,⟨by repeat (first|(with_reducible first|exact HB.out|apply zE|apply zB|apply zC|refine zJ ?_ GE258.out|refine zJ ?_ GE287.out)|exact HB.out)⟩⟩
              ·replace c35 := Bool.eq_false_iff.mpr c35
               subst c35
               have H1 : (some false) = some r := by rw [if_neg (show ¬ (false = true) by decide)] at H; exact H
               clear H; have H := H1; clear H1
               obtain rfl := Option.some.inj H
               try go_wp2_with (first|((with_reducible refine gate_callee (f := 18) rfl ?_); refine goesL_ (some 57) rfl rfl Tryz.func18 (by kernel_rfl) rfl #[.string t275] rfl (by (try simp only [List.map_toArray,List.map_cons,List.map_nil]); first|done|rfl|(simp only [List.length_drop,List.length_take]; rfl)) ?_;(with_reducible refine (value_Parse.calls kj22 t275 t280 t281 t282 t283 t286 _ ?side1 A30.out).mono ?_);(case side1=>exact GL.below HGL.out (by repeat (first|(with_reducible first|exact HB.out|apply zE|apply zB|apply zC|refine zJ ?_ GE258.out)|exact HB.out))); rintro e w44 ⟨v284,rfl,ho0,hb⟩; refine ⟨_,rfl,?_⟩; have n0_ := Aside0.mk (Kd.N_elder' (by (with_reducible repeat (first|apply Kd.N_alloc|apply Kd.N_drewN|apply Kd.N_drew)); exact HO_5.out) (Kd.R_base ho0) hb); have n1_ := Aside0.mk (Kd.V_elder' (by (with_reducible repeat (first|apply Kd.V_alloc|apply Kd.V_drewN|apply Kd.V_drew)); exact HO_259003.out) (Kd.R_base ho0) hb); have n2_ := Aside0.mk (Kd.R_lower (Kd.R_newM (M := fun k_=>(w.heap.size ≤ k_)) ho0 (below_size (by repeat (first|(with_reducible first|exact HB.out|apply zE|apply zB|apply zC|refine zJ ?_ GE258.out)|exact HB.out))) (fun k_ h_=>h_)) (below_size (by repeat (first|(with_reducible first|exact HB.out|apply zE|apply zB|apply zC|refine zJ ?_ GE258.out)|exact HB.out)))); have n3_ := Aside0.mk (blk_below (g := gb258) (o := .cells #[.int .i64 a0_0,.int .i64 a0_1,.string a0_2,.slice A0_3 l0_3.length c0_3] 24 (0,0)) (by (with_reducible repeat (first|refine zN ?_ _|refine zD ?_|refine zA ?_ _)); exact BK258.out) hb); have n4_ := Aside0.mk (Kd.C_below (by repeat (first|(with_reducible exact HR274_3.out)|(with_reducible refine Kd.C_alloc ?_ _)|(with_reducible refine Kd.C_drewN ?_ _)|(with_reducible refine Kd.C_drew ?_)|exact HR274_3.out)) hb); have n5_ := Aside0.mk (Kd.C_below (by repeat (first|(with_reducible exact HR277_3.out)|(with_reducible refine Kd.C_alloc ?_ _)|(with_reducible refine Kd.C_drewN ?_ _)|(with_reducible refine Kd.C_drew ?_)|exact HR277_3.out)) hb); have n6_ := Aside0.mk (below_step (by repeat (first|(with_reducible first|exact HB.out|apply zE|apply zB|apply zC|refine zJ ?_ GE258.out)|exact HB.out)) hb); clear HO_5 HO_259003 BK258 HR274_3 HR277_3 HB; have HO_5 := n0_; have HO_259003 := n1_; have HO285 := n2_; have BK258 := n3_; have HR274_3 := n4_; have HR277_3 := n5_; have HB := n6_; clear n0_ n1_ n2_ n3_ n4_ n5_ n6_;(try clear hb);(try clear hb2);(try clear hk);(try clear hi);(try clear hge);(try clear ho0))|((with_reducible refine gate_dst (N := 11) rfl ?_); refine box_event ?hg (N := 11) ?hd (cs := #[.int .i64 0,.int .i64 0,.string (⟨#[]⟩ : ByteArray),.slice none 0 0]) (t := 24) ?hr ?_;(case hd=>rfl);(case hg=>rfl);(case hr=>first|(go_simp; done)|(go_simp; rfl)); intro gb287 hg w45 hbox hb; have n0_ := Aside0.mk (Kd.N_below (Kd.N_elderB (by (with_reducible repeat (first|apply Kd.N_alloc|apply Kd.N_drewN|apply Kd.N_drew)); exact HO_5.out) gb287 (Nat.le_of_eq hg.symm)) hb); have n1_ := Aside0.mk (Kd.V_below (Kd.V_elderB (by (with_reducible repeat (first|apply Kd.V_alloc|apply Kd.V_drewN|apply Kd.V_drew)); exact HO_259003.out) gb287 (Nat.le_of_eq hg.symm)) hb); have n2_ := Aside0.mk (Kd.R_below (by (with_reducible repeat (first|apply Kd.R_alloc|apply Kd.R_drewN|apply Kd.R_drew)); exact HO285.out) hb); have n3_ := Aside0.mk (blk_below (g := gb258) (o := .cells #[.int .i64 a0_0,.int .i64 a0_1,.string a0_2,.slice A0_3 l0_3.length c0_3] 24 (0,0)) (by (with_reducible repeat (first|refine zN ?_ _|refine zD ?_|refine zA ?_ _)); exact BK258.out) hb); have n4_ := Aside0.mk (Kd.C_below (by repeat (first|(with_reducible exact HR274_3.out)|(with_reducible refine Kd.C_alloc ?_ _)|(with_reducible refine Kd.C_drewN ?_ _)|(with_reducible refine Kd.C_drew ?_)|exact HR274_3.out)) hb); have n5_ := Aside0.mk (Kd.C_below (by repeat (first|(with_reducible exact HR277_3.out)|(with_reducible refine Kd.C_alloc ?_ _)|(with_reducible refine Kd.C_drewN ?_ _)|(with_reducible refine Kd.C_drew ?_)|exact HR277_3.out)) hb); have n6_ := Aside0.mk (below_step (by repeat (first|(with_reducible first|exact HB.out|apply zE|apply zB|apply zC|refine zJ ?_ GE258.out)|exact HB.out)) hb); have n7_ := Aside0.mk (hbox); have n8_ := Aside0.mk ((by rw [hg]; exact (below_size (by repeat (first|(with_reducible first|exact HB.out|apply zE|apply zB|apply zC|refine zJ ?_ GE258.out)|exact HB.out))) : w.heap.size ≤ gb287)); have n9_ := Aside0.mk ((by rw [hg]; exact (below_size (by repeat (first|(with_reducible first|exact HB.out|apply zE|apply zB|apply zC|refine zJ ?_ GE258.out)|exact HB.out))) : w.heap.size ≤ gb287)); have n10_ := Aside0.mk ((by rw [hg]; exact Nat.ne_of_lt (blk_lt (g := gb258) (o := .cells #[.int .i64 a0_0,.int .i64 a0_1,.string a0_2,.slice A0_3 l0_3.length c0_3] 24 (0,0)) (by (with_reducible repeat (first|refine zN ?_ _|refine zD ?_|refine zA ?_ _)); exact BK258.out)) : gb258 ≠ gb287)); have n11_ := Aside0.mk ((by rw [hg]; exact Nat.ne_of_gt (blk_lt (g := gb258) (o := .cells #[.int .i64 a0_0,.int .i64 a0_1,.string a0_2,.slice A0_3 l0_3.length c0_3] 24 (0,0)) (by (with_reducible repeat (first|refine zN ?_ _|refine zD ?_|refine zA ?_ _)); exact BK258.out)) : gb287 ≠ gb258)); clear HO_5 HO_259003 HO285 BK258 HR274_3 HR277_3 HB; have HO_5 := n0_; have HO_259003 := n1_; have HO285 := n2_; have BK258 := n3_; have HR274_3 := n4_; have HR277_3 := n5_; have HB := n6_; have BK287 := n7_; have GW287 := n8_; have GE287 := n9_; have NB258_287 := n10_; have NB287_258 := n11_; clear n0_ n1_ n2_ n3_ n4_ n5_ n6_ n7_ n8_ n9_ n10_ n11_ hb hbox hg; have hnb46 := NB287_258.out; have hnc46 := NB258_287.out; have hcz47_0 : w45.cell? ⟨gb287,0,none⟩ = some (.int .i64 0):=(blk_cell BK287.out 0).trans rfl; have hcz47_1 : w45.cell? ⟨gb287,1,none⟩ = some (.int .i64 0):=(blk_cell BK287.out 1).trans rfl; have hcz47_2 : w45.cell? ⟨gb287,2,none⟩ = some (.string (⟨#[]⟩ : ByteArray)):=(blk_cell BK287.out 2).trans rfl; have hcz47_3 : w45.cell? ⟨gb287,3,none⟩ = some (.slice none 0 0):=(blk_cell BK287.out 3).trans rfl; have hfz47_0 := blk_frozen BK287.out 0; have hfz47_1 := blk_frozen BK287.out 1; have hfz47_2 := blk_frozen BK287.out 2; have hfz47_3 := blk_frozen BK287.out 3; obtain ⟨Ao48,co48,eo48⟩ := Kd.R_slice HO285.out; subst eo48))
               have n0_ : Aside0 (Kd.N k24 24 ((((w45.setCell ⟨gb287,0,none⟩ (.int .i64 t280)).setCell ⟨gb287,1,none⟩ (.int .i64 t281)).setCell ⟨gb287,2,none⟩ (.string t282)).setCell ⟨gb287,3,none⟩ (.slice Ao48 t283.length co48)) w.heap.size (fun k_=>(P0_3_ k_ ∨ w.heap.size ≤ k_) ∧ some k_ ≠ (.slice Ao48 t283.length co48 : Value).ownBlock ∧ k_ ≠ gb258 ∧ k_ ≠ gb287) (.slice (some ad274) y271.length co24) y271):=⟨by (with_reducible repeat (first|apply Kd.N_alloc|apply Kd.N_drewN|apply Kd.N_drew)); exact Kd.N_mono (Kd.N_far (p:=⟨gb287,3,none⟩) (Kd.N_far (p:=⟨gb287,2,none⟩) (Kd.N_far (p:=⟨gb287,1,none⟩) (Kd.N_far (p:=⟨gb287,0,none⟩) (Kd.N_mono HO_5.out (fun k_ hk=>(⟨hk,hk.2⟩ : _ ∧ k_ ≠ gb287))) (fun _ hk=>hk.2) (.int .i64 t280)) (fun _ hk=>hk.2) (.int .i64 t281)) (fun _ hk=>hk.2) (.string t282)) (fun _ hk=>hk.2) (.slice Ao48 t283.length co48)) (fun _ hk=>⟨hk.1.1.1.1,⟨hk.1.1.2,⟨hk.1.1.1.2,hk.1.2⟩⟩⟩)⟩
               have n1_ : Aside0 (Kd.V Kd.string 9 ((((w45.setCell ⟨gb287,0,none⟩ (.int .i64 t280)).setCell ⟨gb287,1,none⟩ (.int .i64 t281)).setCell ⟨gb287,2,none⟩ (.string t282)).setCell ⟨gb287,3,none⟩ (.slice Ao48 t283.length co48)) w.heap.size (fun k_=>(P0_3_ k_ ∨ w.heap.size ≤ k_) ∧ some k_ ≠ (.slice (some ad274) y271.length co24 : Value).ownBlock ∧ some k_ ≠ (.slice Ao48 t283.length co48 : Value).ownBlock ∧ k_ ≠ gb258 ∧ k_ ≠ gb287) (.slice A0_3 l0_3.length c0_3) l0_3):=⟨by (with_reducible repeat (first|apply Kd.V_alloc|apply Kd.V_drewN|apply Kd.V_drew)); exact Kd.V_mono (Kd.V_far (p:=⟨gb287,3,none⟩) (Kd.V_far (p:=⟨gb287,2,none⟩) (Kd.V_far (p:=⟨gb287,1,none⟩) (Kd.V_far (p:=⟨gb287,0,none⟩) (Kd.V_mono HO_259003.out (fun k_ hk=>(⟨hk,hk.2⟩ : _ ∧ k_ ≠ gb287))) (fun _ hk=>hk.2) (.int .i64 t280)) (fun _ hk=>hk.2) (.int .i64 t281)) (fun _ hk=>hk.2) (.string t282)) (fun _ hk=>hk.2) (.slice Ao48 t283.length co48)) (fun _ hk=>⟨hk.1.1.1.1,⟨hk.1.1.1.2.1,⟨hk.1.1.2,⟨hk.1.1.1.2.2,hk.1.2⟩⟩⟩⟩)⟩
               have n2_ : Aside0 (Kd.R Kd.string 9 ((((w45.setCell ⟨gb287,0,none⟩ (.int .i64 t280)).setCell ⟨gb287,1,none⟩ (.int .i64 t281)).setCell ⟨gb287,2,none⟩ (.string t282)).setCell ⟨gb287,3,none⟩ (.slice Ao48 t283.length co48)) w.heap.size (fun k_=>(w.heap.size ≤ k_)) (.slice Ao48 t283.length co48) t283):=⟨by (with_reducible repeat (first|apply Kd.R_alloc|apply Kd.R_drewN|apply Kd.R_drew)); exact Kd.R_mono (Kd.R_far (p:=⟨gb287,3,none⟩) (Kd.R_far (p:=⟨gb287,2,none⟩) (Kd.R_far (p:=⟨gb287,1,none⟩) (Kd.R_far (p:=⟨gb287,0,none⟩) (Kd.R_types HO285.out BK287.out (by decide)) (fun _ hk=>hk.2) (.int .i64 t280)) (fun _ hk=>hk.2) (.int .i64 t281)) (fun _ hk=>hk.2) (.string t282)) (fun _ hk=>hk.2) (.slice Ao48 t283.length co48)) (fun _ hk=>hk.1.1)⟩
               have n3_ : Aside0 (((((w45.setCell ⟨gb287,0,none⟩ (.int .i64 t280)).setCell ⟨gb287,1,none⟩ (.int .i64 t281)).setCell ⟨gb287,2,none⟩ (.string t282)).setCell ⟨gb287,3,none⟩ (.slice Ao48 t283.length co48)).heap[gb258]? = some (.cells #[.int .i64 a0_0,.int .i64 a0_1,.string a0_2,.slice A0_3 l0_3.length c0_3] 24 (0,0))):=⟨by (with_reducible repeat (first|refine zN ?_ _|refine zD ?_|refine zA ?_ _)); refine blk_far ?_ NB258_287.out _;(with_reducible repeat (first|refine zN ?_ _|refine zD ?_|refine zA ?_ _)); refine blk_far ?_ NB258_287.out _;(with_reducible repeat (first|refine zN ?_ _|refine zD ?_|refine zA ?_ _)); refine blk_far ?_ NB258_287.out _;(with_reducible repeat (first|refine zN ?_ _|refine zD ?_|refine zA ?_ _)); refine blk_far ?_ NB258_287.out _;(with_reducible repeat (first|refine zN ?_ _|refine zD ?_|refine zA ?_ _)); exact BK258.out⟩
               have n4_ : Aside0 (((((w45.setCell ⟨gb287,0,none⟩ (.int .i64 t280)).setCell ⟨gb287,1,none⟩ (.int .i64 t281)).setCell ⟨gb287,2,none⟩ (.string t282)).setCell ⟨gb287,3,none⟩ (.slice Ao48 t283.length co48)).heap[gb287]? = some (.cells #[.int .i64 t280,.int .i64 t281,.string t282,.slice Ao48 t283.length co48] 24 (0,0))):=⟨by (with_reducible repeat (first|refine zN ?_ _|refine zD ?_|refine zA ?_ _)); refine blk_put (cs := #[.int .i64 t280,.int .i64 t281,.string t282,.slice none 0 0]) ?_ 3 _ rfl;(with_reducible repeat (first|refine zN ?_ _|refine zD ?_|refine zA ?_ _)); refine blk_put (cs := #[.int .i64 t280,.int .i64 t281,.string (⟨#[]⟩ : ByteArray),.slice none 0 0]) ?_ 2 _ rfl;(with_reducible repeat (first|refine zN ?_ _|refine zD ?_|refine zA ?_ _)); refine blk_put (cs := #[.int .i64 t280,.int .i64 0,.string (⟨#[]⟩ : ByteArray),.slice none 0 0]) ?_ 1 _ rfl;(with_reducible repeat (first|refine zN ?_ _|refine zD ?_|refine zA ?_ _)); refine blk_put (cs := #[.int .i64 0,.int .i64 0,.string (⟨#[]⟩ : ByteArray),.slice none 0 0]) ?_ 0 _ rfl;(with_reducible repeat (first|refine zN ?_ _|refine zD ?_|refine zA ?_ _)); exact BK287.out⟩
               have n5_ : Aside0 (Below w.heap.size w ((((w45.setCell ⟨gb287,0,none⟩ (.int .i64 t280)).setCell ⟨gb287,1,none⟩ (.int .i64 t281)).setCell ⟨gb287,2,none⟩ (.string t282)).setCell ⟨gb287,3,none⟩ (.slice Ao48 t283.length co48))):=⟨by repeat (first|(with_reducible first|exact HB.out|apply zE|apply zB|apply zC|refine zJ ?_ GE258.out|refine zJ ?_ GE287.out)|exact HB.out)⟩
               (try clear HO_5)
               (try clear HO_259003)
               (try clear HO285)
               (try clear BK258)
               (try clear BK287)
               (try clear HB)
               generalize ((((w45.setCell ⟨gb287,0,none⟩ (.int .i64 t280)).setCell ⟨gb287,1,none⟩ (.int .i64 t281)).setCell ⟨gb287,2,none⟩ (.string t282)).setCell ⟨gb287,3,none⟩ (.slice Ao48 t283.length co48)) = w49 at n0_ n1_ n2_ n3_ n4_ n5_ ⊢
               have HO_5 := n0_; have HO_259003 := n1_; have HO285 := n2_; have BK258 := n3_; have BK287 := n4_; have HB := n5_; clear n0_ n1_ n2_ n3_ n4_ n5_
               have n0_ := Aside0.mk (Kd.N_drew HO_5.out)
               have n1_ := Aside0.mk (Kd.V_drew HO_259003.out)
               have n2_ := Aside0.mk (Kd.R_drew HO285.out)
               have n3_ := Aside0.mk (zD BK258.out)
               have n4_ := Aside0.mk (zD BK287.out)
               have n5_ := Aside0.mk (zC HB.out)
               clear HO_5 HO_259003 HO285 BK258 BK287 HB; have HO_5 := n0_; have HO_259003 := n1_; have HO285 := n2_; have BK258 := n3_; have BK287 := n4_; have HB := n5_; clear n0_ n1_ n2_ n3_ n4_ n5_
               have p288 : 0 ≤ (x6_1 : Int) := of_decide_eq_true (by first|(with_reducible assumption)|assumption)
               have q288 : x6_1 < (y271.length : Int) := of_decide_eq_true (by first|(with_reducible assumption)|assumption)
               obtain ⟨ad288,A288_3,c288_3,e288,hx288_0,hx288_1,hx288_2,hx288_3,hl288_3,hi288_3⟩ := at_T24 (Kd.N_reads' HO_5.out).2.2 x6_1 p288 q288
               obtain rfl : ad274 = ad288:=(by injection e288)
               obtain ⟨ce288,hce288,hMe288,hcc288⟩ := Kd.N_get HO_5.out z24 x6_1 p288 (by first|exact q288|exact of_decide_eq_true (by first|(with_reducible assumption)|assumption)|(have e_:=(Kd.N_reads' HO_5.out).1; omega))
               obtain ⟨ua288_3,uc288_3,rfl,ul288_3,ge288_3⟩ := k24_openF hMe288
               have hv288_3 := hcc288 3 _ rfl
               rw [add_field _ _ 3 (by omega)] at hv288_3
               replace hv288_3 := Option.some.inj (hv288_3.symm.trans hx288_3)
               injection hv288_3 with hva_ hvn_ hvc_
               rw [hva_] at ge288_3
               rw [hvc_] at ul288_3
               have HL288_3 := Aside0.mk (show Kd.V Kd.string 9 _ w.heap.size _ _ ((rd_T24 y271 x6_1).f3) from Kd.V_mk ul288_3 ge288_3)
               clear hva_ hvn_ hvc_ ge288_3 ul288_3 hcc288 hce288; have HR288_3 := Aside0.mk hi288_3; have HC288_3 := Aside0.mk hl288_3; clear hi288_3 hl288_3
               replace p288 := eq_true p288
               replace q288 := eq_true q288
               refine start_ (n := 11) (S := fun w'=>w'.cell? ⟨gb287,0,none⟩ = some (.int .i64 t280) ∧ w'.cell? ⟨gb287,1,none⟩ = some (.int .i64 t281) ∧ w'.cell? ⟨gb287,2,none⟩ = some (.string t282) ∧ w'.cell? ⟨gb287,3,none⟩ = some (.slice Ao48 t283.length co48) ∧ w'.cell? (ad274.add ((x6_1).toNat * 4)) = some (.int .i64 ((rd_T24 y271 x6_1).f0)) ∧ w'.cell? ⟨(ad274.add ((x6_1).toNat * 4)).block,(ad274.add ((x6_1).toNat * 4)).off + 1,none⟩ = some (.int .i64 ((rd_T24 y271 x6_1).f1)) ∧ w'.cell? ⟨(ad274.add ((x6_1).toNat * 4)).block,(ad274.add ((x6_1).toNat * 4)).off + 2,none⟩ = some (.string ((rd_T24 y271 x6_1).f2)) ∧ w'.cell? ⟨(ad274.add ((x6_1).toNat * 4)).block,(ad274.add ((x6_1).toNat * 4)).off + 3,none⟩ = some (.slice A288_3 ((rd_T24 y271 x6_1).f3).length c288_3)) (ds := []) #[false,false,false,false,false,false,false,false,false,false,false] (by kernel_rfl) rfl rfl ⟨(blk_cell BK287.out 0).trans rfl,(blk_cell BK287.out 1).trans rfl,(blk_cell BK287.out 2).trans rfl,(blk_cell BK287.out 3).trans rfl,hx288_0,hx288_1,hx288_2,hx288_3⟩ (fun hHeld=>?_); refine with_tabW flagstonelaw3_ValueFormats.tab15 flagstonelaw3_ValueFormats.bits15 (fun HT_ HW_=>?_)
               generalize w49.drew = w50 at HO_5 HO_259003 HO285 BK258 BK287 HB HL288_3 HR288_3 hx288_0 hx288_1 hx288_2 hx288_3 hHeld ⊢
               refine pure_ (i := 0) (N := some 60) (v := ?_) (a' := ?_) #[true,false,false,false,false,false,false,false,false,false,false] rfl rfl (any_of HT_.out (by kernel_rfl)) (fun _ _ _ h=>h) (Or.inl ⟨by rfl,?_⟩) ?_ ?_
               rotate_left
               ·intro w'
                go_simp
                with_reducible rfl
               rotate_left
               ·simp only [Act.put,List.setIfInBounds_toArray,List.set_cons_zero,List.set_cons_succ,i64_w,i32_w]
                rfl
               refine pure_ (i := 1) (N := some 61) (v := ?_) (a' := ?_) #[true,true,false,false,false,false,false,false,false,false,false] rfl rfl (any_of HT_.out (by kernel_rfl)) (fun _ _ _ h=>h) (Or.inl ⟨by rfl,?_⟩) ?_ ?_
               rotate_left
               ·intro w'
                go_simp
                with_reducible rfl
               rotate_left
               ·simp only [Act.put,List.setIfInBounds_toArray,List.set_cons_zero,List.set_cons_succ,i64_w,i32_w]
                rfl
               refine pure_ (i := 2) (N := some 62) (v := ?_) (a' := ?_) #[true,true,true,false,false,false,false,false,false,false,false] rfl rfl (any_of HT_.out (by kernel_rfl)) (fun _ _ _ h=>h) (Or.inl ⟨by rfl,?_⟩) ?_ ?_
               rotate_left
               ·intro w'
                go_simp
                with_reducible rfl
               rotate_left
               ·simp only [Act.put,List.setIfInBounds_toArray,List.set_cons_zero,List.set_cons_succ,i64_w,i32_w]
                rfl
               refine pure_ (i := 4) (N := some 64) (v := ?_) (a' := ?_) #[true,true,true,false,true,false,false,false,false,false,false] rfl rfl (any_of HT_.out (by kernel_rfl)) (fun _ _ _ h=>h) (Or.inl ⟨by rfl,?_⟩) ?_ ?_
               rotate_left
               ·intro w'
                go_simp
                with_reducible rfl
               rotate_left
               ·simp only [Act.put,List.setIfInBounds_toArray,List.set_cons_zero,List.set_cons_succ,i64_w,i32_w]
                rfl
               refine pure_ (i := 5) (N := some 65) (v := ?_) (a' := ?_) #[true,true,true,false,true,true,false,false,false,false,false] rfl rfl (any_of HT_.out (by kernel_rfl)) (fun _ _ _ h=>h) (Or.inl ⟨by rfl,?_⟩) ?_ ?_
               rotate_left
               ·intro w'
                go_simp
                with_reducible rfl
               rotate_left
               ·simp only [Act.put,List.setIfInBounds_toArray,List.set_cons_zero,List.set_cons_succ,i64_w,i32_w]
                rfl
               refine pure_ (i := 6) (N := some 66) (v := ?_) (a' := ?_) #[true,true,true,false,true,true,true,false,false,false,false] rfl rfl (any_of HT_.out (by kernel_rfl)) (fun _ _ _ h=>h) (Or.inl ⟨by rfl,?_⟩) ?_ ?_
               rotate_left
               ·intro w'
                go_simp
                with_reducible rfl
               rotate_left
               ·simp only [Act.put,List.setIfInBounds_toArray,List.set_cons_zero,List.set_cons_succ,i64_w,i32_w]
                rfl
               refine take_ (i := 3) (N := some 63) (v := ?_) (a' := ?_) #[true,true,true,true,true,true,true,false,false,false,false] rfl rfl (take_ofW HT_.out HW_.out (by kernel_rfl)) (fun _ _ _ h=>h) (Or.inl ⟨by rfl,?_⟩) hHeld ?_ ?_
               rotate_left
               ·rintro w' ⟨s0,s1,s2,s3,s4,s5,s6,s7⟩
                go_simp
                with_reducible rfl
               rotate_left
               ·simp only [Act.put,List.setIfInBounds_toArray,List.set_cons_zero,List.set_cons_succ,i64_w,i32_w]
                rfl
               refine take_ (i := 7) (N := some 67) (v := ?_) (a' := ?_) #[true,true,true,true,true,true,true,true,false,false,false] rfl rfl (take_ofW HT_.out HW_.out (by kernel_rfl)) (fun _ _ _ h=>h) (Or.inl ⟨by rfl,?_⟩) hHeld ?_ ?_
               rotate_left
               ·rintro w' ⟨s0,s1,s2,s3,s4,s5,s6,s7⟩
                go_simp
                with_reducible rfl
               rotate_left
               ·simp only [Act.put,List.setIfInBounds_toArray,List.set_cons_zero,List.set_cons_succ,i64_w,i32_w]
                rfl
               refine one_ (i := 8) (N := some 68) #[true,true,true,true,true,true,true,true,true,false,false] rfl rfl (one_of HT_.out (by kernel_rfl)) (by decide) (fun K hK=>?_)
               refine goes_ Tryz.func19 (by kernel_rfl) rfl #[.agg #[.int .i64 t280,.int .i64 t281,.string t282,.slice Ao48 t283.length co48],.agg #[.int .i64 ((rd_T24 y271 x6_1).f0),.int .i64 ((rd_T24 y271 x6_1).f1),.string ((rd_T24 y271 x6_1).f2),.slice A288_3 ((rd_T24 y271 x6_1).f3).length c288_3]] (by rfl) rfl rfl (by (try simp only [List.map_toArray,List.map_cons,List.map_nil]); first|done|rfl|(simp only [List.length_drop,List.length_take]; rfl)) ?_
               with_reducible refine (flagstoneref3_Equal.calls kj22 t280 t281 t282 _ _ t283 ((rd_T24 y271 x6_1).f0) ((rd_T24 y271 x6_1).f1) ((rd_T24 y271 x6_1).f2) _ _ ((rd_T24 y271 x6_1).f3) false _ ?side1 ?side2 ?side3 ?side4 A34.out).mono ?_
               (case side1=>repeat (first|exact (Kd.R_reads' HO285.out).2.2|(with_reducible refine Kd.C_alloc ?_ _)|(with_reducible refine Kd.C_drewN ?_ _)|(with_reducible refine Kd.C_drew ?_)))
               (case side2=>exact (Kd.R_reads' HO285.out).2.1)
               (case side3=>repeat (first|exact (by repeat (first|(with_reducible exact HR288_3.out)|(with_reducible refine Kd.C_alloc ?_ _)|(with_reducible refine Kd.C_drewN ?_ _)|(with_reducible refine Kd.C_drew ?_)|exact HR288_3.out))|(with_reducible refine Kd.C_alloc ?_ _)|(with_reducible refine Kd.C_drewN ?_ _)|(with_reducible refine Kd.C_drew ?_)))
               (case side4=>exact HC288_3.out)
               rintro e w51 ⟨rfl,hb⟩
               have HS4_:=(hb.cell (World.block_lt_of_cell? _ _ (hHeld.2.2.2.2.1))).trans (hHeld.2.2.2.2.1)
               have HS5_:=(hb.cell (World.block_lt_of_cell? _ _ (hHeld.2.2.2.2.2.1))).trans (hHeld.2.2.2.2.2.1)
               have HS6_:=(hb.cell (World.block_lt_of_cell? _ _ (hHeld.2.2.2.2.2.2.1))).trans (hHeld.2.2.2.2.2.2.1)
               have HS7_:=(hb.cell (World.block_lt_of_cell? _ _ (hHeld.2.2.2.2.2.2.2))).trans (hHeld.2.2.2.2.2.2.2)
               refine ⟨_,rfl,?_⟩
               have n0_ := Aside0.mk (Kd.N_below (by (with_reducible repeat (first|apply Kd.N_alloc|apply Kd.N_drewN|apply Kd.N_drew)); exact HO_5.out) hb)
               have n1_ := Aside0.mk (Kd.V_below (by (with_reducible repeat (first|apply Kd.V_alloc|apply Kd.V_drewN|apply Kd.V_drew)); exact HO_259003.out) hb)
               have n2_ := Aside0.mk (Kd.R_below (by (with_reducible repeat (first|apply Kd.R_alloc|apply Kd.R_drewN|apply Kd.R_drew)); exact HO285.out) hb)
               have n3_ := Aside0.mk (Kd.V_below (by (with_reducible repeat (first|apply Kd.V_alloc|apply Kd.V_drewN|apply Kd.V_drew)); exact HL288_3.out) hb)
               have n4_ := Aside0.mk (blk_below (g := gb258) (o := .cells #[.int .i64 a0_0,.int .i64 a0_1,.string a0_2,.slice A0_3 l0_3.length c0_3] 24 (0,0)) (by (with_reducible repeat (first|refine zN ?_ _|refine zD ?_|refine zA ?_ _)); exact BK258.out) hb)
               have n5_ := Aside0.mk (blk_below (g := gb287) (o := .cells #[.int .i64 t280,.int .i64 t281,.string t282,.slice Ao48 t283.length co48] 24 (0,0)) (by (with_reducible repeat (first|refine zN ?_ _|refine zD ?_|refine zA ?_ _)); exact BK287.out) hb)
               have n6_ := Aside0.mk (Kd.C_below (by repeat (first|(with_reducible exact HR288_3.out)|(with_reducible refine Kd.C_alloc ?_ _)|(with_reducible refine Kd.C_drewN ?_ _)|(with_reducible refine Kd.C_drew ?_)|exact HR288_3.out)) hb)
               have n7_ := Aside0.mk (below_step (by repeat (first|(with_reducible first|exact HB.out|apply zE|apply zB|apply zC|refine zJ ?_ GE258.out|refine zJ ?_ GE287.out)|exact HB.out)) hb)
               clear HO_5 HO_259003 HO285 HL288_3 BK258 BK287 HR288_3 HB; have HO_5 := n0_; have HO_259003 := n1_; have HO285 := n2_; have HL288_3 := n3_; have BK258 := n4_; have BK287 := n5_; have HR288_3 := n6_; have HB := n7_; clear n0_ n1_ n2_ n3_ n4_ n5_ n6_ n7_
               (try clear hb)
               (try clear hb2)
               (try clear hk)
               (try clear hi)
               (try clear hge)
               refine hK.out _ _ ⟨(blk_cell BK287.out 0).trans rfl,(blk_cell BK287.out 1).trans rfl,(blk_cell BK287.out 2).trans rfl,(blk_cell BK287.out 3).trans rfl,HS4_,HS5_,HS6_,HS7_⟩ (fun hHeld=>?_)
               clear hK K
               refine norm_ (a' := ?_) ?_ ?_
               rotate_left
               ·show Act.put _ (some 68) _ = _
                simp only [Act.put,List.setIfInBounds_toArray,List.set_cons_zero,List.set_cons_succ,i64_w,i32_w]
                rfl
               refine pure_ (i := 9) (N := some 69) (v := ?_) (a' := ?_) #[true,true,true,true,true,true,true,true,true,true,false] rfl rfl (any_of HT_.out (by kernel_rfl)) (fun _ _ _ h=>h) (Or.inl ⟨by rfl,?_⟩) ?_ ?_
               rotate_left
               ·intro w'
                go_simp
                with_reducible rfl
               rotate_left
               ·simp only [Act.put,List.setIfInBounds_toArray,List.set_cons_zero,List.set_cons_succ,i64_w,i32_w]
                rfl
               refine pure_ (i := 10) (N := some 70) (v := ?_) (a' := ?_) #[true,true,true,true,true,true,true,true,true,true,true] rfl rfl (any_of HT_.out (by kernel_rfl)) (fun _ _ _ h=>h) (Or.inl ⟨by rfl,?_⟩) ?_ ?_
               rotate_left
               ·intro w'
                go_simp
                with_reducible rfl
               rotate_left
               ·simp only [Act.put,List.setIfInBounds_toArray,List.set_cons_zero,List.set_cons_succ,i64_w,i32_w]
                rfl
               refine done_ (done_of HT_.out (by kernel_rfl)) ?_
               try go_wp2
               go_ret
               exact ⟨by first|rfl|(simp [errW_none,errW_some]<;>rfl)|(simp [*,errW_none,errW_some]<;>rfl),by repeat (first|(with_reducible first|exact HB.out|apply zE|apply zB|apply zC|refine zJ ?_ GE258.out|refine zJ ?_ GE287.out)|exact HB.out)⟩
             ·rw [if_neg c33] at H
              exact absurd H (by simp)
            ·rw [if_neg c32] at H
             exact absurd H (by simp)
           ·rw [if_neg c31] at H
            have c31b0 : (t286 == 0) = false := beq_eq_false_iff_ne.mpr c31
            have c31b1 : (t286 != 0) = true := bne_iff_ne.mpr c31
            obtain rfl := Option.some.inj H
            try go_wp2_with (first|((with_reducible refine gate_callee (f := 18) rfl ?_); refine goesL_ (some 57) rfl rfl Tryz.func18 (by kernel_rfl) rfl #[.string t275] rfl (by (try simp only [List.map_toArray,List.map_cons,List.map_nil]); first|done|rfl|(simp only [List.length_drop,List.length_take]; rfl)) ?_;(with_reducible refine (value_Parse.calls kj22 t275 t280 t281 t282 t283 t286 _ ?side1 A30.out).mono ?_);(case side1=>exact GL.below HGL.out (by repeat (first|(with_reducible first|exact HB.out|apply zE|apply zB|apply zC|refine zJ ?_ GE258.out)|exact HB.out))); rintro e w52 ⟨v284,rfl,ho0,hb⟩; refine ⟨_,rfl,?_⟩; have n0_ := Aside0.mk (Kd.N_elder' (by (with_reducible repeat (first|apply Kd.N_alloc|apply Kd.N_drewN|apply Kd.N_drew)); exact HO_5.out) (Kd.R_base ho0) hb); have n1_ := Aside0.mk (Kd.V_elder' (by (with_reducible repeat (first|apply Kd.V_alloc|apply Kd.V_drewN|apply Kd.V_drew)); exact HO_259003.out) (Kd.R_base ho0) hb); have n2_ := Aside0.mk (Kd.R_lower (Kd.R_newM (M := fun k_=>(w.heap.size ≤ k_)) ho0 (below_size (by repeat (first|(with_reducible first|exact HB.out|apply zE|apply zB|apply zC|refine zJ ?_ GE258.out)|exact HB.out))) (fun k_ h_=>h_)) (below_size (by repeat (first|(with_reducible first|exact HB.out|apply zE|apply zB|apply zC|refine zJ ?_ GE258.out)|exact HB.out)))); have n3_ := Aside0.mk (blk_below (g := gb258) (o := .cells #[.int .i64 a0_0,.int .i64 a0_1,.string a0_2,.slice A0_3 l0_3.length c0_3] 24 (0,0)) (by (with_reducible repeat (first|refine zN ?_ _|refine zD ?_|refine zA ?_ _)); exact BK258.out) hb); have n4_ := Aside0.mk (Kd.C_below (by repeat (first|(with_reducible exact HR274_3.out)|(with_reducible refine Kd.C_alloc ?_ _)|(with_reducible refine Kd.C_drewN ?_ _)|(with_reducible refine Kd.C_drew ?_)|exact HR274_3.out)) hb); have n5_ := Aside0.mk (Kd.C_below (by repeat (first|(with_reducible exact HR277_3.out)|(with_reducible refine Kd.C_alloc ?_ _)|(with_reducible refine Kd.C_drewN ?_ _)|(with_reducible refine Kd.C_drew ?_)|exact HR277_3.out)) hb); have n6_ := Aside0.mk (below_step (by repeat (first|(with_reducible first|exact HB.out|apply zE|apply zB|apply zC|refine zJ ?_ GE258.out)|exact HB.out)) hb); clear HO_5 HO_259003 BK258 HR274_3 HR277_3 HB; have HO_5 := n0_; have HO_259003 := n1_; have HO285 := n2_; have BK258 := n3_; have HR274_3 := n4_; have HR277_3 := n5_; have HB := n6_; clear n0_ n1_ n2_ n3_ n4_ n5_ n6_;(try clear hb);(try clear hb2);(try clear hk);(try clear hi);(try clear hge);(try clear ho0))|((with_reducible refine gate_dst (N := 11) rfl ?_); refine box_event ?hg (N := 11) ?hd (cs := #[.int .i64 0,.int .i64 0,.string (⟨#[]⟩ : ByteArray),.slice none 0 0]) (t := 24) ?hr ?_;(case hd=>rfl);(case hg=>rfl);(case hr=>first|(go_simp; done)|(go_simp; rfl)); intro gb287 hg w53 hbox hb; have n0_ := Aside0.mk (Kd.N_below (Kd.N_elderB (by (with_reducible repeat (first|apply Kd.N_alloc|apply Kd.N_drewN|apply Kd.N_drew)); exact HO_5.out) gb287 (Nat.le_of_eq hg.symm)) hb); have n1_ := Aside0.mk (Kd.V_below (Kd.V_elderB (by (with_reducible repeat (first|apply Kd.V_alloc|apply Kd.V_drewN|apply Kd.V_drew)); exact HO_259003.out) gb287 (Nat.le_of_eq hg.symm)) hb); have n2_ := Aside0.mk (Kd.R_below (by (with_reducible repeat (first|apply Kd.R_alloc|apply Kd.R_drewN|apply Kd.R_drew)); exact HO285.out) hb); have n3_ := Aside0.mk (blk_below (g := gb258) (o := .cells #[.int .i64 a0_0,.int .i64 a0_1,.string a0_2,.slice A0_3 l0_3.length c0_3] 24 (0,0)) (by (with_reducible repeat (first|refine zN ?_ _|refine zD ?_|refine zA ?_ _)); exact BK258.out) hb); have n4_ := Aside0.mk (Kd.C_below (by repeat (first|(with_reducible exact HR274_3.out)|(with_reducible refine Kd.C_alloc ?_ _)|(with_reducible refine Kd.C_drewN ?_ _)|(with_reducible refine Kd.C_drew ?_)|exact HR274_3.out)) hb); have n5_ := Aside0.mk (Kd.C_below (by repeat (first|(with_reducible exact HR277_3.out)|(with_reducible refine Kd.C_alloc ?_ _)|(with_reducible refine Kd.C_drewN ?_ _)|(with_reducible refine Kd.C_drew ?_)|exact HR277_3.out)) hb); have n6_ := Aside0.mk (below_step (by repeat (first|(with_reducible first|exact HB.out|apply zE|apply zB|apply zC|refine zJ ?_ GE258.out)|exact HB.out)) hb); have n7_ := Aside0.mk (hbox); have n8_ := Aside0.mk ((by rw [hg]; exact (below_size (by repeat (first|(with_reducible first|exact HB.out|apply zE|apply zB|apply zC|refine zJ ?_ GE258.out)|exact HB.out))) : w.heap.size ≤ gb287)); have n9_ := Aside0.mk ((by rw [hg]; exact (below_size (by repeat (first|(with_reducible first|exact HB.out|apply zE|apply zB|apply zC|refine zJ ?_ GE258.out)|exact HB.out))) : w.heap.size ≤ gb287)); have n10_ := Aside0.mk ((by rw [hg]; exact Nat.ne_of_lt (blk_lt (g := gb258) (o := .cells #[.int .i64 a0_0,.int .i64 a0_1,.string a0_2,.slice A0_3 l0_3.length c0_3] 24 (0,0)) (by (with_reducible repeat (first|refine zN ?_ _|refine zD ?_|refine zA ?_ _)); exact BK258.out)) : gb258 ≠ gb287)); have n11_ := Aside0.mk ((by rw [hg]; exact Nat.ne_of_gt (blk_lt (g := gb258) (o := .cells #[.int .i64 a0_0,.int .i64 a0_1,.string a0_2,.slice A0_3 l0_3.length c0_3] 24 (0,0)) (by (with_reducible repeat (first|refine zN ?_ _|refine zD ?_|refine zA ?_ _)); exact BK258.out)) : gb287 ≠ gb258)); clear HO_5 HO_259003 HO285 BK258 HR274_3 HR277_3 HB; have HO_5 := n0_; have HO_259003 := n1_; have HO285 := n2_; have BK258 := n3_; have HR274_3 := n4_; have HR277_3 := n5_; have HB := n6_; have BK287 := n7_; have GW287 := n8_; have GE287 := n9_; have NB258_287 := n10_; have NB287_258 := n11_; clear n0_ n1_ n2_ n3_ n4_ n5_ n6_ n7_ n8_ n9_ n10_ n11_ hb hbox hg; have hnb54 := NB287_258.out; have hnc54 := NB258_287.out; have hcz55_0 : w53.cell? ⟨gb287,0,none⟩ = some (.int .i64 0):=(blk_cell BK287.out 0).trans rfl; have hcz55_1 : w53.cell? ⟨gb287,1,none⟩ = some (.int .i64 0):=(blk_cell BK287.out 1).trans rfl; have hcz55_2 : w53.cell? ⟨gb287,2,none⟩ = some (.string (⟨#[]⟩ : ByteArray)):=(blk_cell BK287.out 2).trans rfl; have hcz55_3 : w53.cell? ⟨gb287,3,none⟩ = some (.slice none 0 0):=(blk_cell BK287.out 3).trans rfl; have hfz55_0 := blk_frozen BK287.out 0; have hfz55_1 := blk_frozen BK287.out 1; have hfz55_2 := blk_frozen BK287.out 2; have hfz55_3 := blk_frozen BK287.out 3; obtain ⟨Ao56,co56,eo56⟩ := Kd.R_slice HO285.out; subst eo56))
            have n0_ : Aside0 (Kd.N k24 24 ((((w53.setCell ⟨gb287,0,none⟩ (.int .i64 t280)).setCell ⟨gb287,1,none⟩ (.int .i64 t281)).setCell ⟨gb287,2,none⟩ (.string t282)).setCell ⟨gb287,3,none⟩ (.slice Ao56 t283.length co56)) w.heap.size (fun k_=>(P0_3_ k_ ∨ w.heap.size ≤ k_) ∧ some k_ ≠ (.slice Ao56 t283.length co56 : Value).ownBlock ∧ k_ ≠ gb258 ∧ k_ ≠ gb287) (.slice (some ad274) y271.length co24) y271):=⟨by (with_reducible repeat (first|apply Kd.N_alloc|apply Kd.N_drewN|apply Kd.N_drew)); exact Kd.N_mono (Kd.N_far (p:=⟨gb287,3,none⟩) (Kd.N_far (p:=⟨gb287,2,none⟩) (Kd.N_far (p:=⟨gb287,1,none⟩) (Kd.N_far (p:=⟨gb287,0,none⟩) (Kd.N_mono HO_5.out (fun k_ hk=>(⟨hk,hk.2⟩ : _ ∧ k_ ≠ gb287))) (fun _ hk=>hk.2) (.int .i64 t280)) (fun _ hk=>hk.2) (.int .i64 t281)) (fun _ hk=>hk.2) (.string t282)) (fun _ hk=>hk.2) (.slice Ao56 t283.length co56)) (fun _ hk=>⟨hk.1.1.1.1,⟨hk.1.1.2,⟨hk.1.1.1.2,hk.1.2⟩⟩⟩)⟩
            have n1_ : Aside0 (Kd.V Kd.string 9 ((((w53.setCell ⟨gb287,0,none⟩ (.int .i64 t280)).setCell ⟨gb287,1,none⟩ (.int .i64 t281)).setCell ⟨gb287,2,none⟩ (.string t282)).setCell ⟨gb287,3,none⟩ (.slice Ao56 t283.length co56)) w.heap.size (fun k_=>(P0_3_ k_ ∨ w.heap.size ≤ k_) ∧ some k_ ≠ (.slice (some ad274) y271.length co24 : Value).ownBlock ∧ some k_ ≠ (.slice Ao56 t283.length co56 : Value).ownBlock ∧ k_ ≠ gb258 ∧ k_ ≠ gb287) (.slice A0_3 l0_3.length c0_3) l0_3):=⟨by (with_reducible repeat (first|apply Kd.V_alloc|apply Kd.V_drewN|apply Kd.V_drew)); exact Kd.V_mono (Kd.V_far (p:=⟨gb287,3,none⟩) (Kd.V_far (p:=⟨gb287,2,none⟩) (Kd.V_far (p:=⟨gb287,1,none⟩) (Kd.V_far (p:=⟨gb287,0,none⟩) (Kd.V_mono HO_259003.out (fun k_ hk=>(⟨hk,hk.2⟩ : _ ∧ k_ ≠ gb287))) (fun _ hk=>hk.2) (.int .i64 t280)) (fun _ hk=>hk.2) (.int .i64 t281)) (fun _ hk=>hk.2) (.string t282)) (fun _ hk=>hk.2) (.slice Ao56 t283.length co56)) (fun _ hk=>⟨hk.1.1.1.1,⟨hk.1.1.1.2.1,⟨hk.1.1.2,⟨hk.1.1.1.2.2,hk.1.2⟩⟩⟩⟩)⟩
            have n2_ : Aside0 (Kd.R Kd.string 9 ((((w53.setCell ⟨gb287,0,none⟩ (.int .i64 t280)).setCell ⟨gb287,1,none⟩ (.int .i64 t281)).setCell ⟨gb287,2,none⟩ (.string t282)).setCell ⟨gb287,3,none⟩ (.slice Ao56 t283.length co56)) w.heap.size (fun k_=>(w.heap.size ≤ k_)) (.slice Ao56 t283.length co56) t283):=⟨by (with_reducible repeat (first|apply Kd.R_alloc|apply Kd.R_drewN|apply Kd.R_drew)); exact Kd.R_mono (Kd.R_far (p:=⟨gb287,3,none⟩) (Kd.R_far (p:=⟨gb287,2,none⟩) (Kd.R_far (p:=⟨gb287,1,none⟩) (Kd.R_far (p:=⟨gb287,0,none⟩) (Kd.R_types HO285.out BK287.out (by decide)) (fun _ hk=>hk.2) (.int .i64 t280)) (fun _ hk=>hk.2) (.int .i64 t281)) (fun _ hk=>hk.2) (.string t282)) (fun _ hk=>hk.2) (.slice Ao56 t283.length co56)) (fun _ hk=>hk.1.1)⟩
            have n3_ : Aside0 (((((w53.setCell ⟨gb287,0,none⟩ (.int .i64 t280)).setCell ⟨gb287,1,none⟩ (.int .i64 t281)).setCell ⟨gb287,2,none⟩ (.string t282)).setCell ⟨gb287,3,none⟩ (.slice Ao56 t283.length co56)).heap[gb258]? = some (.cells #[.int .i64 a0_0,.int .i64 a0_1,.string a0_2,.slice A0_3 l0_3.length c0_3] 24 (0,0))):=⟨by (with_reducible repeat (first|refine zN ?_ _|refine zD ?_|refine zA ?_ _)); refine blk_far ?_ NB258_287.out _;(with_reducible repeat (first|refine zN ?_ _|refine zD ?_|refine zA ?_ _)); refine blk_far ?_ NB258_287.out _;(with_reducible repeat (first|refine zN ?_ _|refine zD ?_|refine zA ?_ _)); refine blk_far ?_ NB258_287.out _;(with_reducible repeat (first|refine zN ?_ _|refine zD ?_|refine zA ?_ _)); refine blk_far ?_ NB258_287.out _;(with_reducible repeat (first|refine zN ?_ _|refine zD ?_|refine zA ?_ _)); exact BK258.out⟩
            have n4_ : Aside0 (((((w53.setCell ⟨gb287,0,none⟩ (.int .i64 t280)).setCell ⟨gb287,1,none⟩ (.int .i64 t281)).setCell ⟨gb287,2,none⟩ (.string t282)).setCell ⟨gb287,3,none⟩ (.slice Ao56 t283.length co56)).heap[gb287]? = some (.cells #[.int .i64 t280,.int .i64 t281,.string t282,.slice Ao56 t283.length co56] 24 (0,0))):=⟨by (with_reducible repeat (first|refine zN ?_ _|refine zD ?_|refine zA ?_ _)); refine blk_put (cs := #[.int .i64 t280,.int .i64 t281,.string t282,.slice none 0 0]) ?_ 3 _ rfl;(with_reducible repeat (first|refine zN ?_ _|refine zD ?_|refine zA ?_ _)); refine blk_put (cs := #[.int .i64 t280,.int .i64 t281,.string (⟨#[]⟩ : ByteArray),.slice none 0 0]) ?_ 2 _ rfl;(with_reducible repeat (first|refine zN ?_ _|refine zD ?_|refine zA ?_ _)); refine blk_put (cs := #[.int .i64 t280,.int .i64 0,.string (⟨#[]⟩ : ByteArray),.slice none 0 0]) ?_ 1 _ rfl;(with_reducible repeat (first|refine zN ?_ _|refine zD ?_|refine zA ?_ _)); refine blk_put (cs := #[.int .i64 0,.int .i64 0,.string (⟨#[]⟩ : ByteArray),.slice none 0 0]) ?_ 0 _ rfl;(with_reducible repeat (first|refine zN ?_ _|refine zD ?_|refine zA ?_ _)); exact BK287.out⟩
            have n5_ : Aside0 (Below w.heap.size w ((((w53.setCell ⟨gb287,0,none⟩ (.int .i64 t280)).setCell ⟨gb287,1,none⟩ (.int .i64 t281)).setCell ⟨gb287,2,none⟩ (.string t282)).setCell ⟨gb287,3,none⟩ (.slice Ao56 t283.length co56))):=⟨by repeat (first|(with_reducible first|exact HB.out|apply zE|apply zB|apply zC|refine zJ ?_ GE258.out|refine zJ ?_ GE287.out)|exact HB.out)⟩
            (try clear HO_5)
            (try clear HO_259003)
            (try clear HO285)
            (try clear BK258)
            (try clear BK287)
            (try clear HB)
            generalize ((((w53.setCell ⟨gb287,0,none⟩ (.int .i64 t280)).setCell ⟨gb287,1,none⟩ (.int .i64 t281)).setCell ⟨gb287,2,none⟩ (.string t282)).setCell ⟨gb287,3,none⟩ (.slice Ao56 t283.length co56)) = w57 at n0_ n1_ n2_ n3_ n4_ n5_ ⊢
            have HO_5 := n0_; have HO_259003 := n1_; have HO285 := n2_; have BK258 := n3_; have BK287 := n4_; have HB := n5_; clear n0_ n1_ n2_ n3_ n4_ n5_
            have n0_ := Aside0.mk (Kd.N_drew HO_5.out)
            have n1_ := Aside0.mk (Kd.V_drew HO_259003.out)
            have n2_ := Aside0.mk (Kd.R_drew HO285.out)
            have n3_ := Aside0.mk (zD BK258.out)
            have n4_ := Aside0.mk (zD BK287.out)
            have n5_ := Aside0.mk (zC HB.out)
            clear HO_5 HO_259003 HO285 BK258 BK287 HB; have HO_5 := n0_; have HO_259003 := n1_; have HO285 := n2_; have BK258 := n3_; have BK287 := n4_; have HB := n5_; clear n0_ n1_ n2_ n3_ n4_ n5_
            refine start_ (n := 11) (S := fun w'=>True) (ds := []) #[false,false,false,false,false,false,false,false,false,false,false] (by kernel_rfl) rfl rfl trivial (fun hHeld=>?_); refine with_tabW flagstonelaw3_ValueFormats.tab15 flagstonelaw3_ValueFormats.bits15 (fun HT_ HW_=>?_)
            generalize w57.drew = w58 at HO_5 HO_259003 HO285 BK258 BK287 HB hHeld ⊢
            refine pure_ (i := 0) (N := some 60) (v := ?_) (a' := ?_) #[true,false,false,false,false,false,false,false,false,false,false] rfl rfl (any_of HT_.out (by kernel_rfl)) (fun _ _ _ h=>h) (Or.inl ⟨by rfl,?_⟩) ?_ ?_
            rotate_left
            ·intro w'
             go_simp
             with_reducible rfl
            rotate_left
            ·simp only [Act.put,List.setIfInBounds_toArray,List.set_cons_zero,List.set_cons_succ,i64_w,i32_w]
             rfl
            refine pure_ (i := 1) (N := some 61) (v := ?_) (a' := ?_) #[true,true,false,false,false,false,false,false,false,false,false] rfl rfl (any_of HT_.out (by kernel_rfl)) (fun _ _ _ h=>h) (Or.inl ⟨by rfl,?_⟩) ?_ ?_
            rotate_left
            ·intro w'
             go_simp
             with_reducible rfl
            rotate_left
            ·simp only [Act.put,List.setIfInBounds_toArray,List.set_cons_zero,List.set_cons_succ,i64_w,i32_w]
             rfl
            refine pure_ (i := 2) (N := some 62) (v := ?_) (a' := ?_) #[true,true,true,false,false,false,false,false,false,false,false] rfl rfl (any_of HT_.out (by kernel_rfl)) (fun _ _ _ h=>h) (Or.inl ⟨by rfl,?_⟩) ?_ ?_
            rotate_left
            ·intro w'
             go_simp
             with_reducible rfl
            rotate_left
            ·simp only [Act.put,List.setIfInBounds_toArray,List.set_cons_zero,List.set_cons_succ,i64_w,i32_w]
             rfl
            refine pure_ (i := 3) (N := some 63) (v := undef) (a' := ?_) #[true,true,true,true,false,false,false,false,false,false,false] rfl rfl (any_of HT_.out (by kernel_rfl)) (fun _ _ _ h=>h) (Or.inr ⟨by rfl,rfl⟩) ?_ ?_
            rotate_left
            ·simp only [Act.put,List.setIfInBounds_toArray,List.set_cons_zero,List.set_cons_succ,i64_w,i32_w]
             rfl
            refine pure_ (i := 4) (N := some 64) (v := undef) (a' := ?_) #[true,true,true,true,true,false,false,false,false,false,false] rfl rfl (any_of HT_.out (by kernel_rfl)) (fun _ _ _ h=>h) (Or.inr ⟨by rfl,rfl⟩) ?_ ?_
            rotate_left
            ·simp only [Act.put,List.setIfInBounds_toArray,List.set_cons_zero,List.set_cons_succ,i64_w,i32_w]
             rfl
            refine pure_ (i := 5) (N := some 65) (v := undef) (a' := ?_) #[true,true,true,true,true,true,false,false,false,false,false] rfl rfl (any_of HT_.out (by kernel_rfl)) (fun _ _ _ h=>h) (Or.inr ⟨by rfl,rfl⟩) ?_ ?_
            rotate_left
            ·simp only [Act.put,List.setIfInBounds_toArray,List.set_cons_zero,List.set_cons_succ,i64_w,i32_w]
             rfl
            refine pure_ (i := 6) (N := some 66) (v := undef) (a' := ?_) #[true,true,true,true,true,true,true,false,false,false,false] rfl rfl (any_of HT_.out (by kernel_rfl)) (fun _ _ _ h=>h) (Or.inr ⟨by rfl,rfl⟩) ?_ ?_
            rotate_left
            ·simp only [Act.put,List.setIfInBounds_toArray,List.set_cons_zero,List.set_cons_succ,i64_w,i32_w]
             rfl
            refine pure_ (i := 7) (N := some 67) (v := undef) (a' := ?_) #[true,true,true,true,true,true,true,true,false,false,false] rfl rfl (any_of HT_.out (by kernel_rfl)) (fun _ _ _ h=>h) (Or.inr ⟨by rfl,rfl⟩) ?_ ?_
            rotate_left
            ·simp only [Act.put,List.setIfInBounds_toArray,List.set_cons_zero,List.set_cons_succ,i64_w,i32_w]
             rfl
            refine pure_ (i := 8) (N := some 68) (v := undef) (a' := ?_) #[true,true,true,true,true,true,true,true,true,false,false] rfl rfl (any_of HT_.out (by kernel_rfl)) (fun _ _ _ h=>h) (Or.inr ⟨by rfl,rfl⟩) ?_ ?_
            rotate_left
            ·simp only [Act.put,List.setIfInBounds_toArray,List.set_cons_zero,List.set_cons_succ,i64_w,i32_w]
             rfl
            refine pure_ (i := 9) (N := some 69) (v := undef) (a' := ?_) #[true,true,true,true,true,true,true,true,true,true,false] rfl rfl (any_of HT_.out (by kernel_rfl)) (fun _ _ _ h=>h) (Or.inr ⟨by rfl,rfl⟩) ?_ ?_
            rotate_left
            ·simp only [Act.put,List.setIfInBounds_toArray,List.set_cons_zero,List.set_cons_succ,i64_w,i32_w]
             rfl
            refine pure_ (i := 10) (N := some 70) (v := ?_) (a' := ?_) #[true,true,true,true,true,true,true,true,true,true,true] rfl rfl (any_of HT_.out (by kernel_rfl)) (fun _ _ _ h=>h) (Or.inl ⟨by rfl,?_⟩) ?_ ?_
            rotate_left
            ·intro w'
             go_simp
             with_reducible rfl
            rotate_left
            ·simp only [Act.put,List.setIfInBounds_toArray,List.set_cons_zero,List.set_cons_succ,i64_w,i32_w]
             rfl
            refine done_ (done_of HT_.out (by kernel_rfl)) ?_
            try go_wp2
            go_ret
            exact ⟨by first|rfl|(simp [errW_none,errW_some]<;>rfl)|(simp [*,errW_none,errW_some]<;>rfl),by repeat (first|(with_reducible first|exact HB.out|apply zE|apply zB|apply zC|refine zJ ?_ GE258.out|refine zJ ?_ GE287.out)|exact HB.out)⟩
          ·rw [if_neg c29] at H
           have c29b0 : (t276 == 0) = false := beq_eq_false_iff_ne.mpr c29
           have c29b1 : (t276 != 0) = true := bne_iff_ne.mpr c29
           have H' := Aside0.mk H; clear H
           go_wp2
           go_roundg kj22
           case measure=>have := HK1.out; have := HJ22.out; omega
           case rel=>exact ⟨(wrap64 (x6_1 + 1)),(by first|rfl|(simp; done)|(simp [*]; done)),H',⟨by have := HK1.out; have := HJ22.out; omega⟩,⟨by (with_reducible repeat (first|apply Kd.N_alloc|apply Kd.N_drewN|apply Kd.N_drew)); exact HO_5.out⟩,⟨by (with_reducible repeat (first|apply Kd.V_alloc|apply Kd.V_drewN|apply Kd.V_drew)); exact HO_259003.out⟩,⟨by (with_reducible repeat (first|refine zN ?_ _|refine zD ?_|refine zA ?_ _)); exact BK258.out⟩,⟨by repeat (first|(with_reducible first|exact HB.out|apply zE|apply zB|apply zC|refine zJ ?_ GE258.out)|exact HB.out)⟩⟩
      ·rw [if_neg c20] at H
       exact absurd H (by simp)
     ·rw [if_neg c19] at H
      have c19b0 : decide (x6_1 < (y271.length : Int)) = false := decide_eq_false c19
      clear c19
      obtain rfl := Option.some.inj H
      obtain ⟨Ao59,co59,eo59⟩ := Kd.N_slice HO_5.out
      subst eo59
      go_wp2
      go_ret
      exact ⟨by first|rfl|(simp [errW_none,errW_some]<;>rfl)|(simp [*,errW_none,errW_some]<;>rfl),by repeat (first|(with_reducible first|exact HB.out|apply zE|apply zB|apply zC|refine zJ ?_ GE258.out)|exact HB.out)⟩
  ·replace c6 := Bool.eq_false_iff.mpr c6
   subst c6
   have H1 : (some true) = some r := by rw [if_neg (show ¬ (false = true) by decide)] at H; exact H
   clear H; have H := H1; clear H1
   obtain rfl := Option.some.inj H
   go_enter Tryz.func4,Tryz.ntmps4
   go_wp2_with (first|((with_reducible refine gate_dst (N := 2) rfl ?_); refine box_event ?hg (N := 2) ?hd (cs := #[.int .i64 a0_0,.int .i64 a0_1,.string a0_2,.slice A0_3 l0_3.length c0_3]) (t := 24) ?hr ?_;(case hd=>rfl);(case hg=>rfl);(case hr=>first|(go_simp; done)|(go_simp; rfl)); intro gb258 hg w60 hbox hb; have n0_ := Aside0.mk (Kd.V_below (Kd.V_elderB (by (with_reducible repeat (first|apply Kd.V_alloc|apply Kd.V_drewN|apply Kd.V_drew)); exact HO0_3.out) gb258 (Nat.le_of_eq hg.symm)) hb); have n1_ := Aside0.mk (below_step (by repeat (first|(with_reducible first|exact HB.out|apply zE|apply zB|apply zC)|exact HB.out)) hb); have n2_ := Aside0.mk (hbox); have n3_ := Aside0.mk ((by rw [hg]; exact (below_size (by repeat (first|(with_reducible first|exact HB.out|apply zE|apply zB|apply zC)|exact HB.out))) : w.heap.size ≤ gb258)); have n4_ := Aside0.mk ((by rw [hg]; exact (below_size (by repeat (first|(with_reducible first|exact HB.out|apply zE|apply zB|apply zC)|exact HB.out))) : w.heap.size ≤ gb258)); clear HO0_3 HB; have HO0_3 := n0_; have HB := n1_; have BK258 := n2_; have GW258 := n3_; have GE258 := n4_; clear n0_ n1_ n2_ n3_ n4_ hb hbox hg)|((with_reducible refine gate_callee (f := 7) rfl ?_); refine goesL_ (some 13) rfl rfl Tryz.func7 (by kernel_rfl) rfl #[] rfl (by (try simp only [List.map_toArray,List.map_cons,List.map_nil]); first|done|rfl|(simp only [List.length_drop,List.length_take]; rfl)) ?_;(with_reducible refine (flagstonelaw3_awake.calls k  true _ ?side1 A3.out).mono ?_);(case side1=>exact GL.below HGL.out (by repeat (first|(with_reducible first|exact HB.out|apply zE|apply zB|apply zC|refine zJ ?_ GE258.out)|exact HB.out))); rintro e w61 ⟨rfl,hb⟩; refine ⟨_,rfl,?_⟩; have n0_ := Aside0.mk (Kd.V_below (by (with_reducible repeat (first|apply Kd.V_alloc|apply Kd.V_drewN|apply Kd.V_drew)); exact HO0_3.out) hb); have n1_ := Aside0.mk (blk_below (g := gb258) (o := .cells #[.int .i64 a0_0,.int .i64 a0_1,.string a0_2,.slice A0_3 l0_3.length c0_3] 24 (0,0)) (by (with_reducible repeat (first|refine zN ?_ _|refine zD ?_|refine zA ?_ _)); exact BK258.out) hb); have n2_ := Aside0.mk (below_step (by repeat (first|(with_reducible first|exact HB.out|apply zE|apply zB|apply zC|refine zJ ?_ GE258.out)|exact HB.out)) hb); clear HO0_3 BK258 HB; have HO0_3 := n0_; have BK258 := n1_; have HB := n2_; clear n0_ n1_ n2_;(try clear hb);(try clear hb2);(try clear hk);(try clear hi);(try clear hge); have hcz62_0 : w61.cell? ⟨gb258,0,none⟩ = some (.int .i64 a0_0):=(blk_cell BK258.out 0).trans rfl; have hcz62_1 : w61.cell? ⟨gb258,1,none⟩ = some (.int .i64 a0_1):=(blk_cell BK258.out 1).trans rfl; have hcz62_2 : w61.cell? ⟨gb258,2,none⟩ = some (.string a0_2):=(blk_cell BK258.out 2).trans rfl; have hcz62_3 : w61.cell? ⟨gb258,3,none⟩ = some (.slice A0_3 l0_3.length c0_3):=(blk_cell BK258.out 3).trans rfl; have hfz62_0 := blk_frozen BK258.out 0; have hfz62_1 := blk_frozen BK258.out 1; have hfz62_2 := blk_frozen BK258.out 2; have hfz62_3 := blk_frozen BK258.out 3)|((with_reducible refine gate_callee (f := 8) rfl ?_); refine goesL_ (some 16) rfl rfl Tryz.func8 (by kernel_rfl) rfl #[.agg #[.int .i64 a0_0,.int .i64 a0_1,.string a0_2,.slice A0_3 l0_3.length c0_3]] rfl (by (try simp only [List.map_toArray,List.map_cons,List.map_nil]); first|done|rfl|(simp only [List.length_drop,List.length_take]; rfl)) ?_;(with_reducible refine (flagstonelaw3_small.calls k a0_0 a0_1 a0_2 _ _ l0_3 false _ ?side1 ?side2 A5.out).mono ?_);(case side1=>repeat (first|exact (Kd.V_reads' HO0_3.out).2.2|(with_reducible refine Kd.C_alloc ?_ _)|(with_reducible refine Kd.C_drewN ?_ _)|(with_reducible refine Kd.C_drew ?_)));(case side2=>exact (Kd.V_reads' HO0_3.out).2.1); rintro e w63 ⟨rfl,hb⟩; refine ⟨_,rfl,?_⟩; have n0_ := Aside0.mk (Kd.V_below (by (with_reducible repeat (first|apply Kd.V_alloc|apply Kd.V_drewN|apply Kd.V_drew)); exact HO0_3.out) hb); have n1_ := Aside0.mk (blk_below (g := gb258) (o := .cells #[.int .i64 a0_0,.int .i64 a0_1,.string a0_2,.slice A0_3 l0_3.length c0_3] 24 (0,0)) (by (with_reducible repeat (first|refine zN ?_ _|refine zD ?_|refine zA ?_ _)); exact BK258.out) hb); have n2_ := Aside0.mk (below_step (by repeat (first|(with_reducible first|exact HB.out|apply zE|apply zB|apply zC|refine zJ ?_ GE258.out)|exact HB.out)) hb); clear HO0_3 BK258 HB; have HO0_3 := n0_; have BK258 := n1_; have HB := n2_; clear n0_ n1_ n2_;(try clear hb);(try clear hb2);(try clear hk);(try clear hi);(try clear hge)))
   go_ret
   exact ⟨by first|rfl|(simp [errW_none,errW_some]<;>rfl)|(simp [*,errW_none,errW_some]<;>rfl),by repeat (first|(with_reducible first|exact HB.out|apply zE|apply zB|apply zC|refine zJ ?_ GE258.out)|exact HB.out)⟩
 ·replace c4 := Bool.eq_false_iff.mpr c4
  subst c4
  have H1 : (some false) = some r := by rw [if_neg (show ¬ (false = true) by decide)] at H; exact H
  clear H; have H := H1; clear H1
  obtain rfl := Option.some.inj H
  go_enter Tryz.func4,Tryz.ntmps4
  go_wp2_with (first|((with_reducible refine gate_dst (N := 2) rfl ?_); refine box_event ?hg (N := 2) ?hd (cs := #[.int .i64 a0_0,.int .i64 a0_1,.string a0_2,.slice A0_3 l0_3.length c0_3]) (t := 24) ?hr ?_;(case hd=>rfl);(case hg=>rfl);(case hr=>first|(go_simp; done)|(go_simp; rfl)); intro gb258 hg w64 hbox hb; have n0_ := Aside0.mk (Kd.V_below (Kd.V_elderB (by (with_reducible repeat (first|apply Kd.V_alloc|apply Kd.V_drewN|apply Kd.V_drew)); exact HO0_3.out) gb258 (Nat.le_of_eq hg.symm)) hb); have n1_ := Aside0.mk (below_step (by repeat (first|(with_reducible first|exact HB.out|apply zE|apply zB|apply zC)|exact HB.out)) hb); have n2_ := Aside0.mk (hbox); have n3_ := Aside0.mk ((by rw [hg]; exact (below_size (by repeat (first|(with_reducible first|exact HB.out|apply zE|apply zB|apply zC)|exact HB.out))) : w.heap.size ≤ gb258)); have n4_ := Aside0.mk ((by rw [hg]; exact (below_size (by repeat (first|(with_reducible first|exact HB.out|apply zE|apply zB|apply zC)|exact HB.out))) : w.heap.size ≤ gb258)); clear HO0_3 HB; have HO0_3 := n0_; have HB := n1_; have BK258 := n2_; have GW258 := n3_; have GE258 := n4_; clear n0_ n1_ n2_ n3_ n4_ hb hbox hg)|((with_reducible refine gate_callee (f := 7) rfl ?_); refine goesL_ (some 13) rfl rfl Tryz.func7 (by kernel_rfl) rfl #[] rfl (by (try simp only [List.map_toArray,List.map_cons,List.map_nil]); first|done|rfl|(simp only [List.length_drop,List.length_take]; rfl)) ?_;(with_reducible refine (flagstonelaw3_awake.calls k  false _ ?side1 A3.out).mono ?_);(case side1=>exact GL.below HGL.out (by repeat (first|(with_reducible first|exact HB.out|apply zE|apply zB|apply zC|refine zJ ?_ GE258.out)|exact HB.out))); rintro e w65 ⟨rfl,hb⟩; refine ⟨_,rfl,?_⟩; have n0_ := Aside0.mk (Kd.V_below (by (with_reducible repeat (first|apply Kd.V_alloc|apply Kd.V_drewN|apply Kd.V_drew)); exact HO0_3.out) hb); have n1_ := Aside0.mk (blk_below (g := gb258) (o := .cells #[.int .i64 a0_0,.int .i64 a0_1,.string a0_2,.slice A0_3 l0_3.length c0_3] 24 (0,0)) (by (with_reducible repeat (first|refine zN ?_ _|refine zD ?_|refine zA ?_ _)); exact BK258.out) hb); have n2_ := Aside0.mk (below_step (by repeat (first|(with_reducible first|exact HB.out|apply zE|apply zB|apply zC|refine zJ ?_ GE258.out)|exact HB.out)) hb); clear HO0_3 BK258 HB; have HO0_3 := n0_; have BK258 := n1_; have HB := n2_; clear n0_ n1_ n2_;(try clear hb);(try clear hb2);(try clear hk);(try clear hi);(try clear hge)))
  go_ret
  exact ⟨by first|rfl|(simp [errW_none,errW_some]<;>rfl)|(simp [*,errW_none,errW_some]<;>rfl),by repeat (first|(with_reducible first|exact HB.out|apply zE|apply zB|apply zC|refine zJ ?_ GE258.out)|exact HB.out)⟩

end Go.Proofs.YtannjakcnnefhaaGreatDoor.V
