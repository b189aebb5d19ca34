import Derived.Test.YtannjakcnnefhaaDoorCO0
-- printed by wip/hp.py (the session's driver of the print, with hand-proved contracts)
namespace Go.Proofs.YtannjakcnnefhaaDoor.O
open Go.RowKit Go.Proofs.YtannjakcnnefhaaDoorW.PrintWords Go.Proofs.YtannjakcnnefhaaDoorW.PrintLast Go.Proofs.YtannjakcnnefhaaDoorW.PrintMore
attribute [local go_sem] max2_int min2_int max_two min_two max_three min_three max_four min_four   -- for this text's walks alone
set_option linter.unusedVariables false
set_option linter.unusedSimpArgs false

/-! ### value_parts: function 24 -/
def partsR : Option (Int × Int × Int) → Int × Int × Int × Bool
 | some (x,y,z)=>(x,y,z,true)
 | none=>(0,0,0,false)
theorem partsV_R (o : Option (Int × Int × Int)) : partsV o = .tuple #[.agg #[.int .i64 (partsR o).1, .int .i64 (partsR o).2.1, .int .i64 (partsR o).2.2.1], .bool (partsR o).2.2.2] := by
 rcases o with _|⟨x,y,z⟩<;>rfl
def value_parts.f (a0 : ByteArray) : Option (Int × Int × Int × Bool) := if a0.size < 4294967281 then some (partsR (parts3 (dots a0))) else none
theorem value_parts.calls (a0 : ByteArray) (r1 r2 r3 : Int) (r4 : Bool) (w : World) (hGL : GL w) (h : value_parts.f a0 = some (r1, r2, r3, r4)) :
  Calls Tryd.prog 24 #[.string a0] w fun e w'=>e = .returned (.tuple #[.agg #[.int .i64 r1,.int .i64 r2,.int .i64 r3],.bool r4]) ∧ Below w.heap.size w w' := by
 unfold value_parts.f at h
 split at h
 ·rename_i hb
  refine (value_parts_any a0 w hb hGL.ErrRange).mono fun e w' he=>⟨?_,he.2⟩
  rw [he.1,partsV_R,Option.some.inj h]
 ·cases h

/-! ### value_shape: function 35 -/
def value_shape.j0 : Nat → Int → Bool → Int → Int → ByteArray → List ByteArray → Option (Bool)
 | 0,_,_,_,_,_,_=>none
 | k + 1,x4,x5,x102000,x102001,x102002,x102003=>if x5 = true then (if x102002.toList = ([] : List UInt8) then (some ((x102003.length : Int) == 0)) else (some false)) else (if x4 = 3 then (if x102001 = 0 then (some ((x102003.length : Int) == 0)) else (some false)) else (if x4 = 4 then (if x102001 = 0 then (some ((x102003.length : Int) == 0)) else (some false)) else (if x102001 = 0 then (some (x102002.toList == ([] : List UInt8))) else (some false))))
def value_shape.f (k : Nat) (a0_0 : Int) (a0_1 : Int) (a0_2 : ByteArray) (l0_3 : List ByteArray) : Option (Bool) := if a0_0 = 1 then (value_shape.j0 k a0_0 (a0_0 == 1) a0_0 a0_1 a0_2 l0_3) else (value_shape.j0 k a0_0 (a0_0 == 2) a0_0 a0_1 a0_2 l0_3)
theorem value_shape.mono_l : ∀ k, (∀ y0 y1 y2 y3 y4 y5, LeO (value_shape.j0 k y0 y1 y2 y3 y4 y5) (value_shape.j0 (k + 1) y0 y1 y2 y3 y4 y5))
 | 0=>fun _ _ _ _ _ _ r h=>by simp [value_shape.j0] at h
 | k + 1=>by
  have ih0 := value_shape.mono_l k
  ·intro y0 y1 y2 y3 y4 y5
   unfold value_shape.j0
   repeat' first
   | (with_reducible exact ih0 _ _ _ _ _ _)
   | (with_reducible exact LeO.refl _)
   | (with_reducible exact LeO.none _)
   | (with_reducible refine LeO.ite ?_ ?_)
   | (with_reducible refine LeO.bind ?_ (fun _=>?_))
   | exact ih0 _ _ _ _ _ _
   | exact LeO.none _
   | refine LeO.ite ?_ ?_
   | refine LeO.bind ?_ (fun _=>?_)
theorem value_shape.mono : ∀ a0 a1 a2 a3 k, LeO (value_shape.f k a0 a1 a2 a3) (value_shape.f (k + 1) a0 a1 a2 a3) := by
 intro a0 a1 a2 a3 k
 have ih0 := value_shape.mono_l k
 unfold value_shape.f
 repeat' first
   | (with_reducible exact ih0 _ _ _ _ _ _)
   | (with_reducible exact LeO.refl _)
   | (with_reducible exact LeO.none _)
   | (with_reducible refine LeO.ite ?_ ?_)
   | (with_reducible refine LeO.bind ?_ (fun _=>?_))
   | exact ih0 _ _ _ _ _ _
   | exact LeO.none _
   | refine LeO.ite ?_ ?_
   | refine LeO.bind ?_ (fun _=>?_)
set_option maxHeartbeats 8000000 in
set_option maxRecDepth 100000 in
theorem value_shape.calls (k : Nat) (a0_0 : Int) (a0_1 : Int) (a0_2 : ByteArray) (A0_3 : Option Addr) (c0_3 : Nat) (l0_3 : List ByteArray) (r : Bool) (w : World) (hr0_3 : Kd.C Kd.string w A0_3 l0_3.length l0_3) (hc0_3 : l0_3.length ≤ c0_3) (h : value_shape.f k a0_0 a0_1 a0_2 l0_3 = some r) :
  Calls Tryd.prog 35 #[.agg #[.int .i64 a0_0,.int .i64 a0_1,.string a0_2,.slice A0_3 l0_3.length c0_3]] w fun e w'=>e = .returned (.bool r) ∧ Below w.heap.size w w' := by
 have hu31 := Tryd.underlying31; have HR0_3 := Aside0.mk hr0_3; have HC0_3 := Aside0.mk hc0_3; clear hr0_3 hc0_3
 have HB := Aside0.mk (Below.refl w.heap.size w)
 have H : (if a0_0 = 1 then (value_shape.j0 k a0_0 (a0_0 == 1) a0_0 a0_1 a0_2 l0_3) else (value_shape.j0 k a0_0 (a0_0 == 2) a0_0 a0_1 a0_2 l0_3)) = some r := h
 clear h; have HC2 := Aside0.mk H; clear H
 go_enter Tryd.func35,Tryd.ntmps35
 go_upto_if 5 with (first|((with_reducible refine gate_dst (N := 1) rfl ?_);(try (refine gate_guard (by rfl) ?_; dsimp only)); refine box_event ?hg (N := 1) ?hd (cs := #[.int .i64 a0_0,.int .i64 a0_1,.string a0_2,.slice A0_3 l0_3.length c0_3]) (t := 31) ?hr ?_;(case hd=>rfl);(case hg=>rfl);(case hr=>first|(go_simp; done)|(go_simp; rfl)); intro gb101 hg w3 hbox hb; have n0_ := Aside0.mk (below_step (by repeat (first|(with_reducible first|exact HB.out|apply zE|apply zB|apply zC)|exact HB.out)) hb); have n1_ := Aside0.mk (hbox); have n2_ := Aside0.mk ((by rw [hg]; exact (below_size (by repeat (first|(with_reducible first|exact HB.out|apply zE|apply zB|apply zC)|exact HB.out))) : w.heap.size ≤ gb101)); have n3_ := Aside0.mk ((by rw [hg]; exact (below_size (by repeat (first|(with_reducible first|exact HB.out|apply zE|apply zB|apply zC)|exact HB.out))) : w.heap.size ≤ gb101)); clear HB; have HB := n0_; have BK101 := n1_; have GW101 := n2_; have GE101 := n3_; clear n0_ n1_ n2_ n3_ hb hbox hg; have hcz4_0 : w3.cell? ⟨gb101,0,none⟩ = some (.int .i64 a0_0):=(blk_cell BK101.out 0).trans rfl; have hcz4_1 : w3.cell? ⟨gb101,1,none⟩ = some (.int .i64 a0_1):=(blk_cell BK101.out 1).trans rfl; have hcz4_2 : w3.cell? ⟨gb101,2,none⟩ = some (.string a0_2):=(blk_cell BK101.out 2).trans rfl; have hcz4_3 : w3.cell? ⟨gb101,3,none⟩ = some (.slice A0_3 l0_3.length c0_3):=(blk_cell BK101.out 3).trans rfl; have hfz4_0 := blk_frozen BK101.out 0; have hfz4_1 := blk_frozen BK101.out 1; have hfz4_2 := blk_frozen BK101.out 2; have hfz4_3 := blk_frozen BK101.out 3))
 (try simp only [Act.put,List.setIfInBounds_toArray,List.set_cons_zero,List.set_cons_succ])
 go_cut [5] (fun v5 wc=>∃ (kq : Nat) (x5_1 : Bool),v5 = .bool x5_1 ∧ Aside0 (value_shape.j0 kq a0_0 x5_1 a0_0 a0_1 a0_2 l0_3 = some r) ∧ Aside0 (kq ≤ k) ∧ Aside0 (wc.heap[gb101]? = some (.cells #[.int .i64 a0_0,.int .i64 a0_1,.string a0_2,(.slice A0_3 l0_3.length c0_3)] 31 (0,0))) ∧ Aside0 (Below w.heap.size w wc))
 case first =>
  have H := HC2.out; clear HC2
  by_cases c5 : a0_0 = 1
  ·rw [if_pos c5] at H
   have c5b0 : (a0_0 == 1) = true := beq_iff_eq.mpr c5
   have c5b1 : (a0_0 != 1) = false := bne_eq_false_iff_eq.mpr c5
   clear c5
   (first|rw [c5b0]|(simp only [i64_w,i32_w]; rw [c5b0])|skip)
   have H' := Aside0.mk H; clear H
   go_wp2
   go_meet
   case rel=>exact ⟨_,((a0_0 == 1)),(by first|rfl|(simp; done)|(simp [*]; done)),H',⟨by first|omega|exact Nat.le_refl _⟩,⟨by (with_reducible repeat (first|refine zN ?_ _|refine zD ?_|refine zA ?_ _)); exact BK101.out⟩,⟨by repeat (first|(with_reducible first|exact HB.out|apply zE|apply zB|apply zC|refine zJ ?_ GE101.out)|exact HB.out)⟩⟩
  ·rw [if_neg c5] at H
   have c5b0 : (a0_0 == 1) = false := beq_eq_false_iff_ne.mpr c5
   have c5b1 : (a0_0 != 1) = true := bne_iff_ne.mpr c5
   (first|rw [c5b0]|(simp only [i64_w,i32_w]; rw [c5b0])|skip)
   have H' := Aside0.mk H; clear H
   go_wp2
   go_meet
   case rel=>exact ⟨_,((a0_0 == 2)),(by first|rfl|(simp; done)|(simp [*]; done)),H',⟨by first|omega|exact Nat.le_refl _⟩,⟨by (with_reducible repeat (first|refine zN ?_ _|refine zD ?_|refine zA ?_ _)); exact BK101.out⟩,⟨by repeat (first|(with_reducible first|exact HB.out|apply zE|apply zB|apply zC|refine zJ ?_ GE101.out)|exact HB.out)⟩⟩
 case rest =>
  clear HC2;(try clear p2);(try clear c3);(try clear c5);(try clear c5b0);(try clear c5b1);(try clear hcz4_0);(try clear hcz4_1);(try clear hcz4_2);(try clear hcz4_3);(try clear hfz4_0);(try clear hfz4_1);(try clear hfz4_2);(try clear hfz4_3)
  obtain ⟨kq,x5_1,rfl,HA,HJ1,BK101,HB⟩ := hcut
  cases kq with
  | zero=>exact absurd HA.out (by simp [value_shape.j0])
  | succ kj1 =>
   have H := HA.out; clear HA
   simp only [value_shape.j0] at H
   by_cases c6 : x5_1 = true
   ·subst c6
    have H1 : (if a0_2.toList = ([] : List UInt8) then (some ((l0_3.length : Int) == 0)) else (some false)) = some r := by rw [if_pos rfl] at H; exact H
    clear H; have H := H1; clear H1
    by_cases c7 : a0_2.toList = ([] : List UInt8)
    ·rw [if_pos c7] at H
     have c7b0 : (a0_2.toList == ([] : List UInt8)) = true := beq_iff_eq.mpr c7
     have c7b1 : (a0_2.toList != ([] : List UInt8)) = false := bne_eq_false_iff_eq.mpr c7
     clear c7
     obtain rfl := Option.some.inj H
     have hcz8_0 : wc.cell? ⟨gb101,0,none⟩ = some (.int .i64 a0_0):=(blk_cell BK101.out 0).trans rfl
     have hcz8_1 : wc.cell? ⟨gb101,1,none⟩ = some (.int .i64 a0_1):=(blk_cell BK101.out 1).trans rfl
     have hcz8_2 : wc.cell? ⟨gb101,2,none⟩ = some (.string a0_2):=(blk_cell BK101.out 2).trans rfl
     have hcz8_3 : wc.cell? ⟨gb101,3,none⟩ = some (.slice A0_3 l0_3.length c0_3):=(blk_cell BK101.out 3).trans rfl
     have hfz8_0 := blk_frozen BK101.out 0
     have hfz8_1 := blk_frozen BK101.out 1
     have hfz8_2 := blk_frozen BK101.out 2
     have hfz8_3 := blk_frozen BK101.out 3
     go_wp2
     go_ret
     exact ⟨by first|rfl|(simp [errW_none,errW_some]<;>rfl)|(simp [*,errW_none,errW_some]<;>rfl),by repeat (first|(with_reducible first|exact HB.out|apply zE|apply zB|apply zC|refine zJ ?_ GE101.out)|exact HB.out)⟩
    ·rw [if_neg c7] at H
     have c7b0 : (a0_2.toList == ([] : List UInt8)) = false := beq_eq_false_iff_ne.mpr c7
     have c7b1 : (a0_2.toList != ([] : List UInt8)) = true := bne_iff_ne.mpr c7
     obtain rfl := Option.some.inj H
     have hcz9_0 : wc.cell? ⟨gb101,0,none⟩ = some (.int .i64 a0_0):=(blk_cell BK101.out 0).trans rfl
     have hcz9_1 : wc.cell? ⟨gb101,1,none⟩ = some (.int .i64 a0_1):=(blk_cell BK101.out 1).trans rfl
     have hcz9_2 : wc.cell? ⟨gb101,2,none⟩ = some (.string a0_2):=(blk_cell BK101.out 2).trans rfl
     have hcz9_3 : wc.cell? ⟨gb101,3,none⟩ = some (.slice A0_3 l0_3.length c0_3):=(blk_cell BK101.out 3).trans rfl
     have hfz9_0 := blk_frozen BK101.out 0
     have hfz9_1 := blk_frozen BK101.out 1
     have hfz9_2 := blk_frozen BK101.out 2
     have hfz9_3 := blk_frozen BK101.out 3
     go_wp2
     go_ret
     exact ⟨by first|rfl|(simp [errW_none,errW_some]<;>rfl)|(simp [*,errW_none,errW_some]<;>rfl),by repeat (first|(with_reducible first|exact HB.out|apply zE|apply zB|apply zC|refine zJ ?_ GE101.out)|exact HB.out)⟩
   ·replace c6 := Bool.eq_false_iff.mpr c6
    subst c6
    have H1 : (if a0_0 = 3 then (if a0_1 = 0 then (some ((l0_3.length : Int) == 0)) else (some false)) else (if a0_0 = 4 then (if a0_1 = 0 then (some ((l0_3.length : Int) == 0)) else (some false)) else (if a0_1 = 0 then (some (a0_2.toList == ([] : List UInt8))) else (some false)))) = some r := by rw [if_neg (show ¬ (false = true) by decide)] at H; exact H
    clear H; have H := H1; clear H1
    by_cases c10 : a0_0 = 3
    ·rw [if_pos c10] at H
     have c10b0 : (a0_0 == 3) = true := beq_iff_eq.mpr c10
     have c10b1 : (a0_0 != 3) = false := bne_eq_false_iff_eq.mpr c10
     clear c10
     by_cases c11 : a0_1 = 0
     ·rw [if_pos c11] at H
      have c11b0 : (a0_1 == 0) = true := beq_iff_eq.mpr c11
      have c11b1 : (a0_1 != 0) = false := bne_eq_false_iff_eq.mpr c11
      clear c11
      obtain rfl := Option.some.inj H
      have hcz12_0 : wc.cell? ⟨gb101,0,none⟩ = some (.int .i64 a0_0):=(blk_cell BK101.out 0).trans rfl
      have hcz12_1 : wc.cell? ⟨gb101,1,none⟩ = some (.int .i64 a0_1):=(blk_cell BK101.out 1).trans rfl
      have hcz12_2 : wc.cell? ⟨gb101,2,none⟩ = some (.string a0_2):=(blk_cell BK101.out 2).trans rfl
      have hcz12_3 : wc.cell? ⟨gb101,3,none⟩ = some (.slice A0_3 l0_3.length c0_3):=(blk_cell BK101.out 3).trans rfl
      have hfz12_0 := blk_frozen BK101.out 0
      have hfz12_1 := blk_frozen BK101.out 1
      have hfz12_2 := blk_frozen BK101.out 2
      have hfz12_3 := blk_frozen BK101.out 3
      go_wp2
      go_ret
      exact ⟨by first|rfl|(simp [errW_none,errW_some]<;>rfl)|(simp [*,errW_none,errW_some]<;>rfl),by repeat (first|(with_reducible first|exact HB.out|apply zE|apply zB|apply zC|refine zJ ?_ GE101.out)|exact HB.out)⟩
     ·rw [if_neg c11] at H
      have c11b0 : (a0_1 == 0) = false := beq_eq_false_iff_ne.mpr c11
      have c11b1 : (a0_1 != 0) = true := bne_iff_ne.mpr c11
      obtain rfl := Option.some.inj H
      have hcz13_0 : wc.cell? ⟨gb101,0,none⟩ = some (.int .i64 a0_0):=(blk_cell BK101.out 0).trans rfl
      have hcz13_1 : wc.cell? ⟨gb101,1,none⟩ = some (.int .i64 a0_1):=(blk_cell BK101.out 1).trans rfl
      have hcz13_2 : wc.cell? ⟨gb101,2,none⟩ = some (.string a0_2):=(blk_cell BK101.out 2).trans rfl
      have hcz13_3 : wc.cell? ⟨gb101,3,none⟩ = some (.slice A0_3 l0_3.length c0_3):=(blk_cell BK101.out 3).trans rfl
      have hfz13_0 := blk_frozen BK101.out 0
      have hfz13_1 := blk_frozen BK101.out 1
      have hfz13_2 := blk_frozen BK101.out 2
      have hfz13_3 := blk_frozen BK101.out 3
      go_wp2
      go_ret
      exact ⟨by first|rfl|(simp [errW_none,errW_some]<;>rfl)|(simp [*,errW_none,errW_some]<;>rfl),by repeat (first|(with_reducible first|exact HB.out|apply zE|apply zB|apply zC|refine zJ ?_ GE101.out)|exact HB.out)⟩
    ·rw [if_neg c10] at H
     have c10b0 : (a0_0 == 3) = false := beq_eq_false_iff_ne.mpr c10
     have c10b1 : (a0_0 != 3) = true := bne_iff_ne.mpr c10
     by_cases c14 : a0_0 = 4
     ·rw [if_pos c14] at H
      have c14b0 : (a0_0 == 4) = true := beq_iff_eq.mpr c14
      have c14b1 : (a0_0 != 4) = false := bne_eq_false_iff_eq.mpr c14
      clear c14
      by_cases c15 : a0_1 = 0
      ·rw [if_pos c15] at H
       have c15b0 : (a0_1 == 0) = true := beq_iff_eq.mpr c15
       have c15b1 : (a0_1 != 0) = false := bne_eq_false_iff_eq.mpr c15
       clear c15
       obtain rfl := Option.some.inj H
       have hcz16_0 : wc.cell? ⟨gb101,0,none⟩ = some (.int .i64 a0_0):=(blk_cell BK101.out 0).trans rfl
       have hcz16_1 : wc.cell? ⟨gb101,1,none⟩ = some (.int .i64 a0_1):=(blk_cell BK101.out 1).trans rfl
       have hcz16_2 : wc.cell? ⟨gb101,2,none⟩ = some (.string a0_2):=(blk_cell BK101.out 2).trans rfl
       have hcz16_3 : wc.cell? ⟨gb101,3,none⟩ = some (.slice A0_3 l0_3.length c0_3):=(blk_cell BK101.out 3).trans rfl
       have hfz16_0 := blk_frozen BK101.out 0
       have hfz16_1 := blk_frozen BK101.out 1
       have hfz16_2 := blk_frozen BK101.out 2
       have hfz16_3 := blk_frozen BK101.out 3
       go_wp2
       go_ret
       exact ⟨by first|rfl|(simp [errW_none,errW_some]<;>rfl)|(simp [*,errW_none,errW_some]<;>rfl),by repeat (first|(with_reducible first|exact HB.out|apply zE|apply zB|apply zC|refine zJ ?_ GE101.out)|exact HB.out)⟩
      ·rw [if_neg c15] at H
       have c15b0 : (a0_1 == 0) = false := beq_eq_false_iff_ne.mpr c15
       have c15b1 : (a0_1 != 0) = true := bne_iff_ne.mpr c15
       obtain rfl := Option.some.inj H
       have hcz17_0 : wc.cell? ⟨gb101,0,none⟩ = some (.int .i64 a0_0):=(blk_cell BK101.out 0).trans rfl
       have hcz17_1 : wc.cell? ⟨gb101,1,none⟩ = some (.int .i64 a0_1):=(blk_cell BK101.out 1).trans rfl
       have hcz17_2 : wc.cell? ⟨gb101,2,none⟩ = some (.string a0_2):=(blk_cell BK101.out 2).trans rfl
       have hcz17_3 : wc.cell? ⟨gb101,3,none⟩ = some (.slice A0_3 l0_3.length c0_3):=(blk_cell BK101.out 3).trans rfl
       have hfz17_0 := blk_frozen BK101.out 0
       have hfz17_1 := blk_frozen BK101.out 1
       have hfz17_2 := blk_frozen BK101.out 2
       have hfz17_3 := blk_frozen BK101.out 3
       go_wp2
       go_ret
       exact ⟨by first|rfl|(simp [errW_none,errW_some]<;>rfl)|(simp [*,errW_none,errW_some]<;>rfl),by repeat (first|(with_reducible first|exact HB.out|apply zE|apply zB|apply zC|refine zJ ?_ GE101.out)|exact HB.out)⟩
     ·rw [if_neg c14] at H
      have c14b0 : (a0_0 == 4) = false := beq_eq_false_iff_ne.mpr c14
      have c14b1 : (a0_0 != 4) = true := bne_iff_ne.mpr c14
      by_cases c18 : a0_1 = 0
      ·rw [if_pos c18] at H
       have c18b0 : (a0_1 == 0) = true := beq_iff_eq.mpr c18
       have c18b1 : (a0_1 != 0) = false := bne_eq_false_iff_eq.mpr c18
       clear c18
       obtain rfl := Option.some.inj H
       have hcz19_0 : wc.cell? ⟨gb101,0,none⟩ = some (.int .i64 a0_0):=(blk_cell BK101.out 0).trans rfl
       have hcz19_1 : wc.cell? ⟨gb101,1,none⟩ = some (.int .i64 a0_1):=(blk_cell BK101.out 1).trans rfl
       have hcz19_2 : wc.cell? ⟨gb101,2,none⟩ = some (.string a0_2):=(blk_cell BK101.out 2).trans rfl
       have hcz19_3 : wc.cell? ⟨gb101,3,none⟩ = some (.slice A0_3 l0_3.length c0_3):=(blk_cell BK101.out 3).trans rfl
       have hfz19_0 := blk_frozen BK101.out 0
       have hfz19_1 := blk_frozen BK101.out 1
       have hfz19_2 := blk_frozen BK101.out 2
       have hfz19_3 := blk_frozen BK101.out 3
       go_wp2
       go_ret
       exact ⟨by first|rfl|(simp [errW_none,errW_some]<;>rfl)|(simp [*,errW_none,errW_some]<;>rfl),by repeat (first|(with_reducible first|exact HB.out|apply zE|apply zB|apply zC|refine zJ ?_ GE101.out)|exact HB.out)⟩
      ·rw [if_neg c18] at H
       have c18b0 : (a0_1 == 0) = false := beq_eq_false_iff_ne.mpr c18
       have c18b1 : (a0_1 != 0) = true := bne_iff_ne.mpr c18
       obtain rfl := Option.some.inj H
       have hcz20_0 : wc.cell? ⟨gb101,0,none⟩ = some (.int .i64 a0_0):=(blk_cell BK101.out 0).trans rfl
       have hcz20_1 : wc.cell? ⟨gb101,1,none⟩ = some (.int .i64 a0_1):=(blk_cell BK101.out 1).trans rfl
       have hcz20_2 : wc.cell? ⟨gb101,2,none⟩ = some (.string a0_2):=(blk_cell BK101.out 2).trans rfl
       have hcz20_3 : wc.cell? ⟨gb101,3,none⟩ = some (.slice A0_3 l0_3.length c0_3):=(blk_cell BK101.out 3).trans rfl
       have hfz20_0 := blk_frozen BK101.out 0
       have hfz20_1 := blk_frozen BK101.out 1
       have hfz20_2 := blk_frozen BK101.out 2
       have hfz20_3 := blk_frozen BK101.out 3
       go_wp2
       go_ret
       exact ⟨by first|rfl|(simp [errW_none,errW_some]<;>rfl)|(simp [*,errW_none,errW_some]<;>rfl),by repeat (first|(with_reducible first|exact HB.out|apply zE|apply zB|apply zC|refine zJ ?_ GE101.out)|exact HB.out)⟩

/-! ### text_Valid: function 36 -/
def text_Valid.f (s : ByteArray) : Option Bool := if s.size ≤ 9223372036854775807 then some (validB s) else none
theorem text_Valid.calls (a0 : ByteArray) (r : Bool) (w : World) (hGL : GL w) (h : text_Valid.f a0 = some r) :
  Calls Tryd.prog 36 #[.string a0] w fun e w'=>e = .returned (.bool r) ∧ Below w.heap.size w w' := by
 unfold text_Valid.f at h
 split at h
 ·rename_i hb
  obtain rfl := Option.some.inj h
  exact text_Valid_any a0 w hb hGL.utf8
 ·cases h

end Go.Proofs.YtannjakcnnefhaaDoor.O
