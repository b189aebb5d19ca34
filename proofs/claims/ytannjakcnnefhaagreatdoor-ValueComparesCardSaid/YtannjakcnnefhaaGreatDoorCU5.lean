import Derived.Test.YtannjakcnnefhaaGreatDoorCU0
-- printed by wip/hp.py (the session's driver of the print, with hand-proved contracts)
namespace Go.Proofs.YtannjakcnnefhaaGreatDoor.U
open Go.RowKit Go.Proofs.YtannjakcnnefhaaGreatDoorW.PrintWords Go.Proofs.YtannjakcnnefhaaGreatDoorW.PrintLast Go.Proofs.YtannjakcnnefhaaGreatDoorW.PrintMore
attribute [local go_sem] max2_int min2_int max_two min_two max_three min_three max_four min_four   -- for this text's walks alone
set_option linter.unusedVariables false
set_option linter.unusedSimpArgs false

/-- A state of type 50 at block g of W; what its slices lead to came in by w0. -/
def IsS50 (w0 W : World) (g : Nat) (f0 : List Int) (f1 : Int) : Prop := ∃ A0 c0, W.heap[g]? = some (.cells #[.slice A0 f0.length c0, .int .i64 f1] 50 (0, 0)) ∧ w0.heap.size ≤ g ∧ Kd.C (Kd.int .u8) w0 A0 f0.length f0
theorem IsS50.grown {w0 W : World} {g : Nat} {f0 : List Int} {f1 : Int} {W1 : World} {row : Option Nat} (h : IsS50 w0 W g f0 f1) (hw : W.grownBy W1 row) (hne : some g ≠ row) : IsS50 w0 W1 g f0 f1 := by
 obtain ⟨A0,c0,hb,hg,hr0⟩ := h
 exact ⟨A0,c0,blk_grown hb hw hne,hg,hr0⟩
theorem IsS50.fresh {w0 W : World} {g : Nat} {f0 : List Int} {f1 : Int} (h : IsS50 w0 W g f0 f1) : ∀ k, W.heap.size ≤ k → k ≠ g := by
 obtain ⟨A0,c0,hb,hg,hr0⟩ := h
 exact Kd.freshB hb
theorem IsS50.kept {w0 W : World} {g : Nat} {f0 : List Int} {f1 : Int} {W1 : World} {S : Nat → Prop} (h : IsS50 w0 W g f0 f1) (hk : Kept W W1 S) (hne : ¬ S g) : IsS50 w0 W1 g f0 f1 := by
 obtain ⟨A0,c0,hb,hg,hr0⟩ := h
 exact ⟨A0,c0,blk_kept hb hk hne,hg,hr0⟩
theorem IsS50.below {w0 W : World} {g : Nat} {f0 : List Int} {f1 : Int} {W1 : World} (h : IsS50 w0 W g f0 f1) (hw : Below W.heap.size W W1) : IsS50 w0 W1 g f0 f1 := h.grown (grown_of_below hw none) (by simp)
theorem IsS50.alloc {w0 W : World} {g : Nat} {f0 : List Int} {f1 : Int} (h : IsS50 w0 W g f0 f1) (o : Obj) : IsS50 w0 (W.alloc o) g f0 f1 := h.below (zE (Below.refl _ _) o)
theorem IsS50.drewN {w0 W : World} {g : Nat} {f0 : List Int} {f1 : Int} (h : IsS50 w0 W g f0 f1) (m : Nat) : IsS50 w0 (W.drewN m) g f0 f1 := h
theorem IsS50.drew {w0 W : World} {g : Nat} {f0 : List Int} {f1 : Int} (h : IsS50 w0 W g f0 f1) : IsS50 w0 W.drew g f0 f1 := h
theorem IsS50.at_ {w0 W : World} {g : Nat} {f0 : List Int} {f1 : Int} {w' : World} {m : Nat} (hq : W.drewN m = w') (h : IsS50 w0 W g f0 f1) : IsS50 w0 w' g f0 f1 := by subst hq; exact IsS50.drewN h m
theorem IsS50.apart {w0 W : World} {g : Nat} {f0 : List Int} {f1 : Int} {α : Type} {d : Kd α} {e : Nat} {base : Nat} {ok : Nat → Prop} {v : Value} {xs : List α} (h : IsS50 w0 W g f0 f1) (ho : d.R e W base ok v xs) (ht : ∀ q, q ∈ e :: d.E → q ≠ 50) : d.R e W base (fun k => ok k ∧ k ≠ g) v xs := by
 obtain ⟨A0,c0,hb,hg,hr0⟩ := h
 exact Kd.R_types ho hb ht
theorem IsS50.own_ne {w0 W : World} {g : Nat} {f0 : List Int} {f1 : Int} {α : Type} {d : Kd α} {e : Nat} {base : Nat} {ok : Nat → Prop} {v : Value} {xs : List α} (h : IsS50 w0 W g f0 f1) (ho : d.R e W base ok v xs) (ht : e ≠ 50) : some g ≠ v.ownBlock := by
 obtain ⟨A0,c0,hb,hg,hr0⟩ := h
 exact Kd.R_ne ho hb ht
theorem IsS50.lt {w0 W : World} {g : Nat} {f0 : List Int} {f1 : Int} (h : IsS50 w0 W g f0 f1) : g < W.heap.size := by
 obtain ⟨A0,c0,hb,hg,hr0⟩ := h
 exact blk_lt hb
theorem IsS50.ge {w0 W : World} {g : Nat} {f0 : List Int} {f1 : Int} (h : IsS50 w0 W g f0 f1) : w0.heap.size ≤ g := by
 obtain ⟨A0,c0,hb,hg,hr0⟩ := h
 exact hg
theorem IsS50.ne_blk {w0 W : World} {g : Nat} {f0 : List Int} {f1 : Int} {a : Nat} {cs : Array Value} {t : TypeId} {fr : Nat × Nat} (h : IsS50 w0 W g f0 f1) (hb2 : W.heap[a]? = some (.cells cs t fr)) (ht : t ≠ 50) : g ≠ a := by
 obtain ⟨A0,c0,hb,hg,hr0⟩ := h
 rintro rfl
 rw [hb] at hb2
 injection hb2 with hb2
 injection hb2 with _ ht2
 exact ht ht2.symm
theorem IsS50.far {w0 W : World} {g : Nat} {f0 : List Int} {f1 : Int} {p : Addr} (h : IsS50 w0 W g f0 f1) (hne : g ≠ p.block) (u : Value) : IsS50 w0 (W.setCell p u) g f0 f1 := by
 obtain ⟨A0,c0,hb,hg,hr0⟩ := h
 exact ⟨A0,c0,blk_far hb hne u,hg,hr0⟩
theorem cellS50_0 {W : World} {g : Nat} {A0 : Option Addr} {c0 : Nat} {f0 : List Int} {f1 : Int} (h : W.heap[g]? = some (.cells #[.slice A0 f0.length c0, .int .i64 f1] 50 (0, 0))) : W.cell? ⟨g, 0, none⟩ = some (.slice A0 f0.length c0) := (blk_cell h 0).trans rfl
theorem cellS50_1 {W : World} {g : Nat} {A0 : Option Addr} {c0 : Nat} {f0 : List Int} {f1 : Int} (h : W.heap[g]? = some (.cells #[.slice A0 f0.length c0, .int .i64 f1] 50 (0, 0))) : W.cell? ⟨g, 1, none⟩ = some (.int .i64 f1) := (blk_cell h 1).trans rfl
theorem IsS50.set_1 {w0 W : World} {g : Nat} {f0 : List Int} {f1 : Int} (h : IsS50 w0 W g f0 f1) (x : Int) : IsS50 w0 (W.setCell ⟨g, 1, none⟩ (.int .i64 x)) g f0 x := by
 obtain ⟨A0,c0,hb,hg,hr0⟩ := h
 exact ⟨A0,c0,by simpa using blk_set hb 1 (.int .i64 x),hg,hr0⟩
theorem IsS50.new (w0 W : World) (A0 : Option Addr) (c0 : Nat) (f0 : List Int) (f1 : Int) (hB : Below w0.heap.size w0 W) (hr0 : Kd.C (Kd.int .u8) w0 A0 f0.length f0) : IsS50 w0 (W.alloc (.cells #[.slice A0 f0.length c0, .int .i64 f1] 50)) W.heap.size f0 f1 := ⟨A0, c0, by simpa using heap_alloc_new W _, hB.size, hr0⟩

/-! ### flagstonedraw_New: function 9 -/
def flagstonedraw_New.f (l0 : List Int) (a1 : Int) : Option (List Int × Int) := if (l0.length : Int) > a1 then (if 0 ≤ a1 then (if a1 ≤ (l0.length : Int) then (some (l0.take (a1 : Int).toNat, 0)) else (none)) else (none)) else (some (l0, 0))
set_option maxHeartbeats 8000000 in
set_option maxRecDepth 100000 in
theorem flagstonedraw_New.calls (A0 : Option Addr) (c0 : Nat) (l0 : List Int) (a1 : Int) (r1 : List Int) (r2 : Int) (w0 w : World) (hB : Below w0.heap.size w0 w) (hr0 : Kd.C (Kd.int .u8) w0 A0 l0.length l0) (hc0 : l0.length ≤ c0) (h : flagstonedraw_New.f l0 a1 = some (r1, r2)) :
  Calls Tryz.prog 9 #[.slice A0 l0.length c0,.int .i64 a1] w fun e w'=>∃ g_ : Nat,e = .returned (.pointer (some ⟨g_,0,none⟩)) ∧ IsS50 w0 w' g_ r1 r2 ∧ Below w0.heap.size w0 w' ∧ Below w.heap.size w w' ∧ w.heap.size ≤ g_ := by
 have hu50 := Tryz.underlying50; have HR0 := Aside0.mk hr0; have HC0 := Aside0.mk hc0; clear hr0 hc0
 have HBW := Aside0.mk (Below.refl w.heap.size w)
 have HW0 := Aside0.mk hB.size; have HB := Aside0.mk hB; clear hB
 have H : (if (l0.length : Int) > a1 then (if 0 ≤ a1 then (if a1 ≤ (l0.length : Int) then (some (l0.take (a1 : Int).toNat,0)) else (none)) else (none)) else (some (l0,0))) = some (r1,r2) := h
 clear h
 by_cases c3 : (l0.length : Int) > a1
 ·rw [if_pos c3] at H
  have c3b0 : decide (a1 < (l0.length : Int)) = true := decide_eq_true c3
  clear c3
  by_cases c4 : 0 ≤ a1
  ·rw [if_pos c4] at H
   have c4b0 := eq_true c4
   have c4b1 : decide (0 ≤ a1) = true := decide_eq_true c4
   clear c4
   by_cases c5 : a1 ≤ (l0.length : Int)
   ·rw [if_pos c5] at H
    have c5b0 := eq_true c5
    have c5b1 : decide (a1 ≤ (l0.length : Int)) = true := decide_eq_true c5
    clear c5
    simp only [Option.some.injEq,Prod.mk.injEq] at H
    obtain ⟨rfl,rfl⟩ := H
    obtain ⟨i06,hi06,_,hsz6,_⟩ := info_parts info5
    obtain ⟨hcut6,hA6,hC6⟩ := print_take_of (P := Tryz.prog) (Value.int .u8) 0 25 5 .i64 Tryz.underlying25 hi06 hsz6 A0 c0 l0 a1 (of_decide_eq_true (by first|(with_reducible assumption)|assumption)) (of_decide_eq_true (by first|(with_reducible assumption)|assumption)) HC0.out
    have HR169 := Aside0.mk (Kd.C_of_reads (h1 := fun _=>rfl) (hA6 _ (Kd.reads_of_C HR0.out)))
    have HC169 := Aside0.mk hC6; clear hA6 hC6 hi06 hsz6
    go_enter Tryz.func9,Tryz.ntmps9
    go_wp2_with (first|((with_reducible refine gate_dst (N := 14) rfl ?_); refine box_event ?hg (N := 14) ?hd (cs := #[.slice A0 (l0.take (a1 : Int).toNat).length c0,.int .i64 0]) (t := 50) ?hr ?_;(case hd=>rfl);(case hg=>rfl);(case hr=>first|(go_simp; done)|(go_simp; rfl)); intro gb170 hg w7 hbox hb; have n0_ := Aside0.mk (below_step HBW.out hb); have n1_ := Aside0.mk (below_step (by repeat (first|(with_reducible first|exact HB.out|apply zE|apply zB|apply zC)|exact HB.out)) hb); have n2_ := Aside0.mk (hbox); have n3_ := Aside0.mk ((by rw [hg]; exact (below_size (by repeat (first|(with_reducible first|exact HBW.out|apply zE|apply zB|apply zC)|exact HBW.out))) : w.heap.size ≤ gb170)); have n4_ := Aside0.mk ((Nat.le_trans HW0.out (by rw [hg]; exact (below_size (by repeat (first|(with_reducible first|exact HBW.out|apply zE|apply zB|apply zC)|exact HBW.out))) : w.heap.size ≤ gb170) : w0.heap.size ≤ gb170)); clear HBW HB; have HBW := n0_; have HB := n1_; have BK170 := n2_; have GW170 := n3_; have GE170 := n4_; clear n0_ n1_ n2_ n3_ n4_ hb hbox hg))
    go_ret
    exact ⟨_,rfl,(show IsS50 w0 _ gb170 (l0.take (a1 : Int).toNat) 0 from ⟨_,_,by (with_reducible repeat (first|refine zN ?_ _|refine zD ?_|refine zA ?_ _)); exact BK170.out,GE170.out,HR169.out⟩),by repeat (first|(with_reducible first|exact HB.out|apply zE|apply zB|apply zC|refine zJ ?_ GE170.out)|exact HB.out),by repeat (first|(with_reducible first|exact HBW.out|apply zE|apply zB|apply zC|refine zJ ?_ GW170.out)|exact HBW.out),GW170.out⟩
   ·rw [if_neg c5] at H
    exact absurd H (by simp)
  ·rw [if_neg c4] at H
   exact absurd H (by simp)
 ·rw [if_neg c3] at H
  have c3b0 : decide (a1 < (l0.length : Int)) = false := decide_eq_false c3
  clear c3
  simp only [Option.some.injEq,Prod.mk.injEq] at H
  obtain ⟨rfl,rfl⟩ := H
  go_enter Tryz.func9,Tryz.ntmps9
  go_wp2_with (first|((with_reducible refine gate_dst (N := 14) rfl ?_); refine box_event ?hg (N := 14) ?hd (cs := #[.slice A0 l0.length c0,.int .i64 0]) (t := 50) ?hr ?_;(case hd=>rfl);(case hg=>rfl);(case hr=>first|(go_simp; done)|(go_simp; rfl)); intro gb171 hg w8 hbox hb; have n0_ := Aside0.mk (below_step HBW.out hb); have n1_ := Aside0.mk (below_step (by repeat (first|(with_reducible first|exact HB.out|apply zE|apply zB|apply zC)|exact HB.out)) hb); have n2_ := Aside0.mk (hbox); have n3_ := Aside0.mk ((by rw [hg]; exact (below_size (by repeat (first|(with_reducible first|exact HBW.out|apply zE|apply zB|apply zC)|exact HBW.out))) : w.heap.size ≤ gb171)); have n4_ := Aside0.mk ((Nat.le_trans HW0.out (by rw [hg]; exact (below_size (by repeat (first|(with_reducible first|exact HBW.out|apply zE|apply zB|apply zC)|exact HBW.out))) : w.heap.size ≤ gb171) : w0.heap.size ≤ gb171)); clear HBW HB; have HBW := n0_; have HB := n1_; have BK171 := n2_; have GW171 := n3_; have GE171 := n4_; clear n0_ n1_ n2_ n3_ n4_ hb hbox hg))
  go_ret
  exact ⟨_,rfl,(show IsS50 w0 _ gb171 l0 0 from ⟨_,_,by (with_reducible repeat (first|refine zN ?_ _|refine zD ?_|refine zA ?_ _)); exact BK171.out,GE171.out,HR0.out⟩),by repeat (first|(with_reducible first|exact HB.out|apply zE|apply zB|apply zC|refine zJ ?_ GE171.out)|exact HB.out),by repeat (first|(with_reducible first|exact HBW.out|apply zE|apply zB|apply zC|refine zJ ?_ GW171.out)|exact HBW.out),GW171.out⟩

/-! ### flagstonedraw_Codes_Left: function 26 -/
def flagstonedraw_Codes_Left.f (s0_0 : List Int) (s0_1 : Int) : Option (Bool × Int) := some (decide (s0_1 < (s0_0.length : Int)), s0_1)
set_option maxHeartbeats 8000000 in
set_option maxRecDepth 100000 in
theorem flagstonedraw_Codes_Left.calls (g : Nat) (s0_0 : List Int) (s0_1 : Int) (r1 : Bool) (r2 : Int) (w0 w : World) (hI : IsS50 w0 w g s0_0 s0_1) (hB : Below w0.heap.size w0 w) (h : flagstonedraw_Codes_Left.f s0_0 s0_1 = some (r1, r2)) :
  Calls Tryz.prog 26 #[.pointer (some ⟨g,0,none⟩)] w fun e w'=>e = .returned (.bool r1) ∧ IsS50 w0 w' g s0_0 r2 ∧ Below w0.heap.size w0 w' ∧ KeepBut w w' g none := by
 have HI0 := Aside0.mk hI
 have HK := Aside0.mk (KeepBut.refl w g none)
 have HL := Aside0.mk hB.size; clear hI; have HW0 := Aside0.mk hB.size; have HB := Aside0.mk hB; clear hB
 have H : (some (decide (s0_1 < (s0_0.length : Int)),s0_1)) = some (r1,r2) := h
 clear h
 simp only [Option.some.injEq,Prod.mk.injEq] at H
 obtain ⟨rfl,rfl⟩ := H
 obtain ⟨ASz2_0,cSz2_0,HGz2,hgz2,HSz2_0⟩ := HI0.out
 have hcz2_0 := cellS50_0 HGz2; have hcz2_1 := cellS50_1 HGz2
 have hfz2_1 := blk_frozen HGz2 1
 clear HGz2 hgz2
 go_enter Tryz.func26,Tryz.ntmps26
 go_wp2
 repeat (go_quiet (fail); try go_wp2)
 go_ret
 exact ⟨by first|rfl|(simp [errW_none,errW_some]<;>rfl)|(simp [*,errW_none,errW_some]<;>rfl),by repeat (first|(with_reducible first|exact HI0.out|apply IsS50.alloc|apply IsS50.drewN|apply IsS50.drew|apply IsS50.set_1)|exact HI0.out),by repeat (first|(with_reducible first|exact HB.out|apply zE|apply zB|apply zC|refine zJ ?_ (IsS50.ge HI0.out))|exact HB.out),by repeat (first|(with_reducible first|exact HK.out|apply KeepBut.set_|apply zF|apply zG|apply zH)|exact HK.out)⟩

/-! ### flagstonedraw_Codes_Next: function 11 -/
def flagstonedraw_Codes_Next.f (s0_0 : List Int) (s0_1 : Int) (a1 : Int) : Option (Int × Int) := (flagstonedraw_Codes_Left.f s0_0 s0_1).bind fun bt172 => (if bt172.1 = true then (if 0 ≤ (wrap64 ((wrap64 (bt172.2 + 1)) - 1)) then (if (wrap64 ((wrap64 (bt172.2 + 1)) - 1)) < (s0_0.length : Int) then (if a1 = 0 then (none) else (some (Int.tmod (wrap64 (rd s0_0 (wrap64 ((wrap64 (bt172.2 + 1)) - 1)))) a1, wrap64 (bt172.2 + 1)))) else (none)) else (none)) else (some (0, bt172.2)))
set_option maxHeartbeats 8000000 in
set_option maxRecDepth 100000 in
theorem flagstonedraw_Codes_Next.calls (g : Nat) (s0_0 : List Int) (s0_1 : Int) (a1 : Int) (r1 : Int) (r2 : Int) (w0 w : World) (hI : IsS50 w0 w g s0_0 s0_1) (hB : Below w0.heap.size w0 w) (h : flagstonedraw_Codes_Next.f s0_0 s0_1 a1 = some (r1, r2)) :
  Calls Tryz.prog 11 #[.pointer (some ⟨g,0,none⟩),.int .i64 a1] w fun e w'=>e = .returned (.int .i64 r1) ∧ IsS50 w0 w' g s0_0 r2 ∧ Below w0.heap.size w0 w' ∧ KeepBut w w' g none := by
 have HI0 := Aside0.mk hI
 have HK := Aside0.mk (KeepBut.refl w g none)
 have HL := Aside0.mk hB.size; clear hI; have HW0 := Aside0.mk hB.size; have HB := Aside0.mk hB; clear hB
 have H : ((flagstonedraw_Codes_Left.f s0_0 s0_1).bind fun bt172=>(if bt172.1 = true then (if 0 ≤ (wrap64 ((wrap64 (bt172.2 + 1)) - 1)) then (if (wrap64 ((wrap64 (bt172.2 + 1)) - 1)) < (s0_0.length : Int) then (if a1 = 0 then (none) else (some (Int.tmod (wrap64 (rd s0_0 (wrap64 ((wrap64 (bt172.2 + 1)) - 1)))) a1,wrap64 (bt172.2 + 1)))) else (none)) else (none)) else (some (0,bt172.2)))) = some (r1,r2) := h
 clear h; replace H := Option.bind_eq_some_iff.mp H
 obtain ⟨⟨t172,t173⟩,A30,H⟩ := H
 replace H : (if t172 = true then (if 0 ≤ (wrap64 ((wrap64 (t173 + 1)) - 1)) then (if (wrap64 ((wrap64 (t173 + 1)) - 1)) < (s0_0.length : Int) then (if a1 = 0 then (none) else (some (Int.tmod (wrap64 (rd s0_0 (wrap64 ((wrap64 (t173 + 1)) - 1)))) a1,wrap64 (t173 + 1)))) else (none)) else (none)) else (some (0,t173))) = some (r1,r2) := H
 have A3 := Aside0.mk A30; clear A30
 by_cases c4 : t172 = true
 ·subst c4
  have H1 : (if 0 ≤ (wrap64 ((wrap64 (t173 + 1)) - 1)) then (if (wrap64 ((wrap64 (t173 + 1)) - 1)) < (s0_0.length : Int) then (if a1 = 0 then (none) else (some (Int.tmod (wrap64 (rd s0_0 (wrap64 ((wrap64 (t173 + 1)) - 1)))) a1,wrap64 (t173 + 1)))) else (none)) else (none)) = some (r1,r2) := by rw [if_pos rfl] at H; exact H
  clear H; have H := H1; clear H1
  obtain ⟨ji5,hji5⟩ : ∃ j_ : Int,(wrap64 ((wrap64 (t173 + 1)) - 1)) = j_:=⟨_,rfl⟩
  replace H : (if 0 ≤ (ji5) then (if (ji5) < (s0_0.length : Int) then (if a1 = 0 then (none) else (some (Int.tmod (wrap64 (rd s0_0 (ji5))) a1,wrap64 (t173 + 1)))) else (none)) else (none)) = some (r1,r2) := by first|(rw [hji5] at H; exact H)|(simp only [hji5] at H ⊢; exact H)
  (try rw [hji5] at A3)
  have hji5w : (IntKind.i64.wrap ((wrap64 (t173 + 1)) - 1)) = ji5:=(i64_w _).trans hji5
  by_cases c6 : 0 ≤ (ji5)
  ·rw [if_pos c6] at H
   have c6b0 : decide (0 ≤ (ji5)) = true := decide_eq_true c6
   clear c6
   by_cases c7 : (ji5) < (s0_0.length : Int)
   ·rw [if_pos c7] at H
    have c7b0 : decide ((ji5) < (s0_0.length : Int)) = true := decide_eq_true c7
    clear c7
    by_cases c8 : a1 = 0
    ·rw [if_pos c8] at H
     exact absurd H (by simp)
    ·rw [if_neg c8] at H
     have c8b0 : (a1 == 0) = false := beq_eq_false_iff_ne.mpr c8
     have c8b1 : (a1 != 0) = true := bne_iff_ne.mpr c8
     simp only [Option.some.injEq,Prod.mk.injEq] at H
     obtain ⟨rfl,rfl⟩ := H
     go_enter Tryz.func11,Tryz.ntmps11
     go_wp2_with (first|(go_at_call 26;(with_reducible refine (flagstonedraw_Codes_Left.calls g s0_0 s0_1 true t173 w0 _ ?side1 ?side2 A3.out).mono ?_);(case side1=>repeat (first|(with_reducible first|exact HI0.out|apply IsS50.alloc|apply IsS50.drewN|apply IsS50.drew|apply IsS50.set_1)|exact HI0.out));(case side2=>repeat (first|(with_reducible first|exact HB.out|apply zE|apply zB|apply zC|refine zJ ?_ (IsS50.ge HI0.out))|exact HB.out)); rintro e w9 ⟨rfl,hi,hb,hk⟩; have n0_ := Aside0.mk (KeepBut.trans (by repeat (first|(with_reducible first|exact HK.out|apply KeepBut.set_|apply zF|apply zG|apply zH)|exact HK.out)) hk (.inl rfl)); have n1_ := Aside0.mk (hb); have n2_ := Aside0.mk (hi); clear HK HB HI0; have HK := n0_; have HB := n1_; have HI0 := n2_; clear n0_ n1_ n2_;(try clear hb);(try clear hb2);(try clear hk);(try clear hi);(try clear hge); obtain ⟨ASz10_0,cSz10_0,HGz10,hgz10,HSz10_0⟩ := HI0.out; have hcz10_0 := cellS50_0 HGz10; have hcz10_1 := cellS50_1 HGz10; have hfz10_1 := blk_frozen HGz10 1; clear HGz10 hgz10; have p174 : 0 ≤ ((ji5) : Int) := of_decide_eq_true (by first|(with_reducible assumption)|assumption); have q174 : (ji5) < (s0_0.length : Int) := of_decide_eq_true (by first|(with_reducible assumption)|assumption); obtain ⟨ad174,e174,hx174_0⟩ := Kd.at_int HSz10_0 (ji5) p174 q174; cases e174; have hn174_0 : ad174.block ≠ g := Nat.ne_of_lt (Nat.lt_of_lt_of_le (by have := World.block_lt_of_cell? _ _ hx174_0; first|rwa [add_block] at this|exact this) (IsS50.ge HI0.out)); replace hx174_0 := pw_cell_below HB.out hx174_0; replace hx174_0:=(cell_far (p:=⟨g,1,none⟩) (by first|(rw [add_block]; exact hn174_0)|(show (Addr.add _ _).block ≠ _; rw [add_block]; exact hn174_0)|exact hn174_0) (.int .i64 (wrap64 (t173 + 1)))).trans hx174_0;(try have hy174_0 := fun (n_ : Nat)=>(show (((w9.drewN n_).setCell ⟨g,1,none⟩ (.int .i64 (wrap64 (t173 + 1))))).cell? _ = some _ from hx174_0)); clear hn174_0; replace p174 := eq_true p174; replace q174 := eq_true q174))
     repeat (go_quiet (first|(go_at_call 26;(with_reducible refine (flagstonedraw_Codes_Left.calls g s0_0 s0_1 true t173 w0 _ ?side1 ?side2 A3.out).mono ?_);(case side1=>repeat (first|(with_reducible first|exact HI0.out|apply IsS50.alloc|apply IsS50.drewN|apply IsS50.drew|apply IsS50.set_1)|exact HI0.out));(case side2=>repeat (first|(with_reducible first|exact HB.out|apply zE|apply zB|apply zC|refine zJ ?_ (IsS50.ge HI0.out))|exact HB.out)); rintro e w9 ⟨rfl,hi,hb,hk⟩; have n0_ := Aside0.mk (KeepBut.trans (by repeat (first|(with_reducible first|exact HK.out|apply KeepBut.set_|apply zF|apply zG|apply zH)|exact HK.out)) hk (.inl rfl)); have n1_ := Aside0.mk (hb); have n2_ := Aside0.mk (hi); clear HK HB HI0; have HK := n0_; have HB := n1_; have HI0 := n2_; clear n0_ n1_ n2_;(try clear hb);(try clear hb2);(try clear hk);(try clear hi);(try clear hge); obtain ⟨ASz10_0,cSz10_0,HGz10,hgz10,HSz10_0⟩ := HI0.out; have hcz10_0 := cellS50_0 HGz10; have hcz10_1 := cellS50_1 HGz10; have hfz10_1 := blk_frozen HGz10 1; clear HGz10 hgz10; have p174 : 0 ≤ ((ji5) : Int) := of_decide_eq_true (by first|(with_reducible assumption)|assumption); have q174 : (ji5) < (s0_0.length : Int) := of_decide_eq_true (by first|(with_reducible assumption)|assumption); obtain ⟨ad174,e174,hx174_0⟩ := Kd.at_int HSz10_0 (ji5) p174 q174; cases e174; have hn174_0 : ad174.block ≠ g := Nat.ne_of_lt (Nat.lt_of_lt_of_le (by have := World.block_lt_of_cell? _ _ hx174_0; first|rwa [add_block] at this|exact this) (IsS50.ge HI0.out)); replace hx174_0 := pw_cell_below HB.out hx174_0; replace hx174_0:=(cell_far (p:=⟨g,1,none⟩) (by first|(rw [add_block]; exact hn174_0)|(show (Addr.add _ _).block ≠ _; rw [add_block]; exact hn174_0)|exact hn174_0) (.int .i64 (wrap64 (t173 + 1)))).trans hx174_0;(try have hy174_0 := fun (n_ : Nat)=>(show (((w9.drewN n_).setCell ⟨g,1,none⟩ (.int .i64 (wrap64 (t173 + 1))))).cell? _ = some _ from hx174_0)); clear hn174_0; replace p174 := eq_true p174; replace q174 := eq_true q174)); try go_wp2_with (first|(go_at_call 26;(with_reducible refine (flagstonedraw_Codes_Left.calls g s0_0 s0_1 true t173 w0 _ ?side1 ?side2 A3.out).mono ?_);(case side1=>repeat (first|(with_reducible first|exact HI0.out|apply IsS50.alloc|apply IsS50.drewN|apply IsS50.drew|apply IsS50.set_1)|exact HI0.out));(case side2=>repeat (first|(with_reducible first|exact HB.out|apply zE|apply zB|apply zC|refine zJ ?_ (IsS50.ge HI0.out))|exact HB.out)); rintro e w9 ⟨rfl,hi,hb,hk⟩; have n0_ := Aside0.mk (KeepBut.trans (by repeat (first|(with_reducible first|exact HK.out|apply KeepBut.set_|apply zF|apply zG|apply zH)|exact HK.out)) hk (.inl rfl)); have n1_ := Aside0.mk (hb); have n2_ := Aside0.mk (hi); clear HK HB HI0; have HK := n0_; have HB := n1_; have HI0 := n2_; clear n0_ n1_ n2_;(try clear hb);(try clear hb2);(try clear hk);(try clear hi);(try clear hge); obtain ⟨ASz10_0,cSz10_0,HGz10,hgz10,HSz10_0⟩ := HI0.out; have hcz10_0 := cellS50_0 HGz10; have hcz10_1 := cellS50_1 HGz10; have hfz10_1 := blk_frozen HGz10 1; clear HGz10 hgz10; have p174 : 0 ≤ ((ji5) : Int) := of_decide_eq_true (by first|(with_reducible assumption)|assumption); have q174 : (ji5) < (s0_0.length : Int) := of_decide_eq_true (by first|(with_reducible assumption)|assumption); obtain ⟨ad174,e174,hx174_0⟩ := Kd.at_int HSz10_0 (ji5) p174 q174; cases e174; have hn174_0 : ad174.block ≠ g := Nat.ne_of_lt (Nat.lt_of_lt_of_le (by have := World.block_lt_of_cell? _ _ hx174_0; first|rwa [add_block] at this|exact this) (IsS50.ge HI0.out)); replace hx174_0 := pw_cell_below HB.out hx174_0; replace hx174_0:=(cell_far (p:=⟨g,1,none⟩) (by first|(rw [add_block]; exact hn174_0)|(show (Addr.add _ _).block ≠ _; rw [add_block]; exact hn174_0)|exact hn174_0) (.int .i64 (wrap64 (t173 + 1)))).trans hx174_0;(try have hy174_0 := fun (n_ : Nat)=>(show (((w9.drewN n_).setCell ⟨g,1,none⟩ (.int .i64 (wrap64 (t173 + 1))))).cell? _ = some _ from hx174_0)); clear hn174_0; replace p174 := eq_true p174; replace q174 := eq_true q174)))
     go_ret
     exact ⟨by first|rfl|(simp [errW_none,errW_some]<;>rfl)|(simp only [← hji5]; first|rfl|(simp [errW_none,errW_some]<;>rfl))|(simp [*,errW_none,errW_some]<;>rfl),by repeat (first|(with_reducible first|exact HI0.out|apply IsS50.alloc|apply IsS50.drewN|apply IsS50.drew|apply IsS50.set_1)|exact HI0.out),by repeat (first|(with_reducible first|exact HB.out|apply zE|apply zB|apply zC|refine zJ ?_ (IsS50.ge HI0.out))|exact HB.out),by repeat (first|(with_reducible first|exact HK.out|apply KeepBut.set_|apply zF|apply zG|apply zH)|exact HK.out)⟩
   ·rw [if_neg c7] at H
    exact absurd H (by simp)
  ·rw [if_neg c6] at H
   exact absurd H (by simp)
 ·replace c4 := Bool.eq_false_iff.mpr c4
  subst c4
  have H1 : (some (0,t173)) = some (r1,r2) := by rw [if_neg (show ¬ (false = true) by decide)] at H; exact H
  clear H; have H := H1; clear H1
  simp only [Option.some.injEq,Prod.mk.injEq] at H
  obtain ⟨rfl,rfl⟩ := H
  go_enter Tryz.func11,Tryz.ntmps11
  go_wp2_with (first|(go_at_call 26;(with_reducible refine (flagstonedraw_Codes_Left.calls g s0_0 s0_1 false t173 w0 _ ?side1 ?side2 A3.out).mono ?_);(case side1=>repeat (first|(with_reducible first|exact HI0.out|apply IsS50.alloc|apply IsS50.drewN|apply IsS50.drew|apply IsS50.set_1)|exact HI0.out));(case side2=>repeat (first|(with_reducible first|exact HB.out|apply zE|apply zB|apply zC|refine zJ ?_ (IsS50.ge HI0.out))|exact HB.out)); rintro e w11 ⟨rfl,hi,hb,hk⟩; have n0_ := Aside0.mk (KeepBut.trans (by repeat (first|(with_reducible first|exact HK.out|apply KeepBut.set_|apply zF|apply zG|apply zH)|exact HK.out)) hk (.inl rfl)); have n1_ := Aside0.mk (hb); have n2_ := Aside0.mk (hi); clear HK HB HI0; have HK := n0_; have HB := n1_; have HI0 := n2_; clear n0_ n1_ n2_;(try clear hb);(try clear hb2);(try clear hk);(try clear hi);(try clear hge)))
  repeat (go_quiet (first|(go_at_call 26;(with_reducible refine (flagstonedraw_Codes_Left.calls g s0_0 s0_1 false t173 w0 _ ?side1 ?side2 A3.out).mono ?_);(case side1=>repeat (first|(with_reducible first|exact HI0.out|apply IsS50.alloc|apply IsS50.drewN|apply IsS50.drew|apply IsS50.set_1)|exact HI0.out));(case side2=>repeat (first|(with_reducible first|exact HB.out|apply zE|apply zB|apply zC|refine zJ ?_ (IsS50.ge HI0.out))|exact HB.out)); rintro e w11 ⟨rfl,hi,hb,hk⟩; have n0_ := Aside0.mk (KeepBut.trans (by repeat (first|(with_reducible first|exact HK.out|apply KeepBut.set_|apply zF|apply zG|apply zH)|exact HK.out)) hk (.inl rfl)); have n1_ := Aside0.mk (hb); have n2_ := Aside0.mk (hi); clear HK HB HI0; have HK := n0_; have HB := n1_; have HI0 := n2_; clear n0_ n1_ n2_;(try clear hb);(try clear hb2);(try clear hk);(try clear hi);(try clear hge))); try go_wp2_with (first|(go_at_call 26;(with_reducible refine (flagstonedraw_Codes_Left.calls g s0_0 s0_1 false t173 w0 _ ?side1 ?side2 A3.out).mono ?_);(case side1=>repeat (first|(with_reducible first|exact HI0.out|apply IsS50.alloc|apply IsS50.drewN|apply IsS50.drew|apply IsS50.set_1)|exact HI0.out));(case side2=>repeat (first|(with_reducible first|exact HB.out|apply zE|apply zB|apply zC|refine zJ ?_ (IsS50.ge HI0.out))|exact HB.out)); rintro e w11 ⟨rfl,hi,hb,hk⟩; have n0_ := Aside0.mk (KeepBut.trans (by repeat (first|(with_reducible first|exact HK.out|apply KeepBut.set_|apply zF|apply zG|apply zH)|exact HK.out)) hk (.inl rfl)); have n1_ := Aside0.mk (hb); have n2_ := Aside0.mk (hi); clear HK HB HI0; have HK := n0_; have HB := n1_; have HI0 := n2_; clear n0_ n1_ n2_;(try clear hb);(try clear hb2);(try clear hk);(try clear hi);(try clear hge))))
  go_ret
  exact ⟨by first|rfl|(simp [errW_none,errW_some]<;>rfl)|(simp [*,errW_none,errW_some]<;>rfl),by repeat (first|(with_reducible first|exact HI0.out|apply IsS50.alloc|apply IsS50.drewN|apply IsS50.drew|apply IsS50.set_1)|exact HI0.out),by repeat (first|(with_reducible first|exact HB.out|apply zE|apply zB|apply zC|refine zJ ?_ (IsS50.ge HI0.out))|exact HB.out),by repeat (first|(with_reducible first|exact HK.out|apply KeepBut.set_|apply zF|apply zG|apply zH)|exact HK.out)⟩

/-! ### flagstonedraw_Codes_Text: function 13 -/
def flagstonedraw_Codes_Text.f (s0_0 : List Int) (s0_1 : Int) : Option (ByteArray × Int) := (flagstonedraw_Codes_Next.f s0_0 s0_1 11).bind fun bt175 => (if 0 ≤ bt175.1 then (if bt175.1 < 11 then (some (rdOf ByteArray.empty textsL bt175.1, bt175.2)) else (none)) else (none))
set_option maxHeartbeats 8000000 in
set_option maxRecDepth 100000 in
theorem flagstonedraw_Codes_Text.calls (g : Nat) (s0_0 : List Int) (s0_1 : Int) (r1 : ByteArray) (r2 : Int) (w0 w : World) (hI : IsS50 w0 w g s0_0 s0_1) (hB : Below w0.heap.size w0 w) (hGL : GL w0) (h : flagstonedraw_Codes_Text.f s0_0 s0_1 = some (r1, r2)) :
  Calls Tryz.prog 13 #[.pointer (some ⟨g,0,none⟩)] w fun e w'=>e = .returned (.string r1) ∧ IsS50 w0 w' g s0_0 r2 ∧ Below w0.heap.size w0 w' ∧ KeepBut w w' g none := by
 have HRG0 := Aside0.mk (GL.C0 (GL.below hGL hB))
 have hfG0 := GL.N0 hGL (IsS50.ge hI)
 have HGL := Aside0.mk hGL; clear hGL; have HI0 := Aside0.mk hI
 have HK := Aside0.mk (KeepBut.refl w g none)
 have HL := Aside0.mk hB.size; clear hI; have HW0 := Aside0.mk hB.size; have HB := Aside0.mk hB; clear hB
 have H : ((flagstonedraw_Codes_Next.f s0_0 s0_1 11).bind fun bt175=>(if 0 ≤ bt175.1 then (if bt175.1 < 11 then (some (rdOf ByteArray.empty textsL bt175.1,bt175.2)) else (none)) else (none))) = some (r1,r2) := h
 clear h; replace H := Option.bind_eq_some_iff.mp H
 obtain ⟨⟨t175,t176⟩,A20,H⟩ := H
 replace H : (if 0 ≤ t175 then (if t175 < 11 then (some (rdOf ByteArray.empty textsL t175,t176)) else (none)) else (none)) = some (r1,r2) := H
 have A2 := Aside0.mk A20; clear A20
 by_cases c3 : 0 ≤ t175
 ·rw [if_pos c3] at H
  have c3b0 : decide (0 ≤ t175) = true := decide_eq_true c3
  clear c3
  by_cases c4 : t175 < 11
  ·rw [if_pos c4] at H
   have c4b0 : decide (t175 < 11) = true := decide_eq_true c4
   clear c4
   simp only [Option.some.injEq,Prod.mk.injEq] at H
   obtain ⟨rfl,rfl⟩ := H
   go_enter Tryz.func13,Tryz.ntmps13
   go_wp2_with (first|((with_reducible refine gate_callee (f := 11) rfl ?_); refine goesL_ (some 4) rfl rfl Tryz.func11 (by kernel_rfl) rfl #[.pointer (some ⟨g,0,none⟩),.int .i64 11] rfl (by (try simp only [List.map_toArray,List.map_cons,List.map_nil]); first|done|rfl|(simp only [List.length_drop,List.length_take]; rfl)) ?_;(with_reducible refine (flagstonedraw_Codes_Next.calls g s0_0 s0_1 11 t175 t176 w0 _ ?side1 ?side2 A2.out).mono ?_);(case side1=>repeat (first|(with_reducible first|exact HI0.out|apply IsS50.alloc|apply IsS50.drewN|apply IsS50.drew|apply IsS50.set_1)|exact HI0.out));(case side2=>repeat (first|(with_reducible first|exact HB.out|apply zE|apply zB|apply zC|refine zJ ?_ (IsS50.ge HI0.out))|exact HB.out)); rintro e w5 ⟨rfl,hi,hb,hk⟩; refine ⟨_,rfl,?_⟩; have n0_ := Aside0.mk (KeepBut.trans (by repeat (first|(with_reducible first|exact HK.out|apply KeepBut.set_|apply zF|apply zG|apply zH)|exact HK.out)) hk (.inl rfl)); have n1_ := Aside0.mk (hb); have n2_ := Aside0.mk (hi); clear HK HB HI0; have HK := n0_; have HB := n1_; have HI0 := n2_; clear n0_ n1_ n2_;(try clear hb);(try clear hb2);(try clear hk);(try clear hi);(try clear hge); have p177 : 0 ≤ (t175 : Int) := of_decide_eq_true (by first|(with_reducible assumption)|assumption); have q177 : t175 < (textsL.length : Int):=(by have h_ : (t175 : Int) < (11 : Int) := of_decide_eq_true (by first|(with_reducible assumption)|assumption); have e_ : textsL.length = 11 := rfl; omega); have ql177 : ((t175 : Int) < (11 : Int)) = True := eq_true (of_decide_eq_true (by first|(with_reducible assumption)|assumption)); obtain ⟨ad177,e177,hx177_0⟩ := Kd.at_string HRG0.out t175 p177 q177; obtain rfl : (⟨0,0,none⟩ : Addr) = ad177:=(by injection e177);(first|simp only [add_plain] at hx177_0|simp only [add_at] at hx177_0|simp only [Addr.add,Nat.zero_add] at hx177_0|skip); replace hx177_0 := keep_cell HK.out hx177_0 (by first|(rw [add_block]; exact hfG0 _ rfl (by omega))|exact hfG0 _ rfl (by omega)|exact hfG0 ⟨0,0,none⟩ rfl (by omega)); replace p177 := eq_true p177; replace q177 := eq_true q177))
   go_ret
   exact ⟨by first|rfl|(simp [errW_none,errW_some]<;>rfl)|(simp [*,errW_none,errW_some]<;>rfl),by repeat (first|(with_reducible first|exact HI0.out|apply IsS50.alloc|apply IsS50.drewN|apply IsS50.drew|apply IsS50.set_1)|exact HI0.out),by repeat (first|(with_reducible first|exact HB.out|apply zE|apply zB|apply zC|refine zJ ?_ (IsS50.ge HI0.out))|exact HB.out),by repeat (first|(with_reducible first|exact HK.out|apply KeepBut.set_|apply zF|apply zG|apply zH)|exact HK.out)⟩
  ·rw [if_neg c4] at H
   exact absurd H (by simp)
 ·rw [if_neg c3] at H
  exact absurd H (by simp)

/-! ### flagstonedraw_Codes_Value: function 22 -/
def flagstonedraw_Codes_Value.f (s0_0 : List Int) (s0_1 : Int) (a1 : Int) : Option (Int × Int × ByteArray × List ByteArray × Int) := if a1 = 1 then ((flagstonedraw_Codes_Next.f s0_0 s0_1 2).bind fun bt179 => (some (a1, bt179.1, (⟨#[]⟩ : ByteArray), ([] : List ByteArray), bt179.2))) else (if a1 = 2 then ((some (([0, 1, 17, 18, 19, (-5), 64, 1099511627776, (-1099511627776)] : List Int) : List Int)).bind fun y181 => ((flagstonedraw_Codes_Next.f s0_0 s0_1 (y181.length : Int)).bind fun bt184 => (if 0 ≤ bt184.1 then (if bt184.1 < (y181.length : Int) then (some (a1, rd y181 bt184.1, (⟨#[]⟩ : ByteArray), ([] : List ByteArray), bt184.2)) else (none)) else (none)))) else (if a1 = 3 then ((flagstonedraw_Codes_Text.f s0_0 s0_1).bind fun bt187 => (some (a1, 0, bt187.1, ([] : List ByteArray), bt187.2))) else (if a1 = 4 then ((flagstonedraw_Codes_Next.f s0_0 s0_1 6).bind fun bt189 => (if 0 ≤ bt189.1 then (if bt189.1 < 6 then (some (a1, 0, rdOf ByteArray.empty versionsL bt189.1, ([] : List ByteArray), bt189.2)) else (none)) else (none))) else ((flagstonedraw_Codes_Next.f s0_0 s0_1 5).bind fun bt192 => (if 0 ≤ bt192.1 then (if bt192.1 < 5 then (if ([] : List ByteArray).length + (rd_L4 listsL bt192.1).length < 8796093022208 then (some (5, 0, (⟨#[]⟩ : ByteArray), (([] : List ByteArray) ++ (rd_L4 listsL bt192.1)), bt192.2)) else (none)) else (none)) else (none))))))
set_option maxHeartbeats 8000000 in
set_option maxRecDepth 100000 in
theorem flagstonedraw_Codes_Value.calls (g : Nat) (s0_0 : List Int) (s0_1 : Int) (a1 : Int) (r1 : Int) (r2 : Int) (r3 : ByteArray) (r4 : List ByteArray) (r5 : Int) (w0 w : World) (hI : IsS50 w0 w g s0_0 s0_1) (hB : Below w0.heap.size w0 w) (hGL : GL w0) (h : flagstonedraw_Codes_Value.f s0_0 s0_1 a1 = some (r1, r2, r3, r4, r5)) :
  Calls Tryz.prog 22 #[.pointer (some ⟨g,0,none⟩),.int .i64 a1] w fun e w'=>∃ v3_ : Value,e = .returned (.agg #[.int .i64 r1,.int .i64 r2,.string r3,v3_]) ∧ Kd.R Kd.string 9 w' w.heap.size (fun _=>True) v3_ r4 ∧ IsS50 w0 w' g s0_0 r5 ∧ Below w0.heap.size w0 w' ∧ KeepBut w w' g none := by
 have hu24 := Tryz.underlying24
 have HRG1 := Aside0.mk (GL.C1 (GL.below hGL hB))
 have hfG1 := GL.N1 hGL (IsS50.ge hI)
 have HRG2 := Aside0.mk (GL.F2 hGL hB (IsS50.ge hI))
 have HGL := Aside0.mk hGL; clear hGL; have HI0 := Aside0.mk hI
 have HK := Aside0.mk (KeepBut.refl w g none)
 have HL := Aside0.mk hB.size; clear hI; have HW0 := Aside0.mk hB.size; have HB := Aside0.mk hB; clear hB
 have H : (if a1 = 1 then ((flagstonedraw_Codes_Next.f s0_0 s0_1 2).bind fun bt179=>(some (a1,bt179.1,(⟨#[]⟩ : ByteArray),([] : List ByteArray),bt179.2))) else (if a1 = 2 then ((some (([0,1,17,18,19,(-5),64,1099511627776,(-1099511627776)] : List Int) : List Int)).bind fun y181=>((flagstonedraw_Codes_Next.f s0_0 s0_1 (y181.length : Int)).bind fun bt184=>(if 0 ≤ bt184.1 then (if bt184.1 < (y181.length : Int) then (some (a1,rd y181 bt184.1,(⟨#[]⟩ : ByteArray),([] : List ByteArray),bt184.2)) else (none)) else (none)))) else (if a1 = 3 then ((flagstonedraw_Codes_Text.f s0_0 s0_1).bind fun bt187=>(some (a1,0,bt187.1,([] : List ByteArray),bt187.2))) else (if a1 = 4 then ((flagstonedraw_Codes_Next.f s0_0 s0_1 6).bind fun bt189=>(if 0 ≤ bt189.1 then (if bt189.1 < 6 then (some (a1,0,rdOf ByteArray.empty versionsL bt189.1,([] : List ByteArray),bt189.2)) else (none)) else (none))) else ((flagstonedraw_Codes_Next.f s0_0 s0_1 5).bind fun bt192=>(if 0 ≤ bt192.1 then (if bt192.1 < 5 then (if ([] : List ByteArray).length + (rd_L4 listsL bt192.1).length < 8796093022208 then (some (5,0,(⟨#[]⟩ : ByteArray),(([] : List ByteArray) ++ (rd_L4 listsL bt192.1)),bt192.2)) else (none)) else (none)) else (none))))))) = some (r1,r2,r3,r4,r5) := h
 clear h
 by_cases c3 : a1 = 1
 ·rw [if_pos c3] at H
  have c3b0 : (a1 == 1) = true := beq_iff_eq.mpr c3
  have c3b1 : (a1 != 1) = false := bne_eq_false_iff_eq.mpr c3
  clear c3; replace H := Option.bind_eq_some_iff.mp H
  obtain ⟨⟨t179,t180⟩,A40,H⟩ := H
  replace H : (some (a1,t179,(⟨#[]⟩ : ByteArray),([] : List ByteArray),t180)) = some (r1,r2,r3,r4,r5) := H
  have A4 := Aside0.mk A40; clear A40
  simp only [Option.some.injEq,Prod.mk.injEq] at H
  obtain ⟨rfl,rfl,rfl,rfl,rfl⟩ := H
  go_enter Tryz.func22,Tryz.ntmps22
  go_wp2_with (first|((with_reducible refine gate_dst (N := 4) rfl ?_); refine box_event ?hg (N := 4) ?hd (cs := #[.int .i64 0,.int .i64 0,.string (⟨#[]⟩ : ByteArray),.slice none 0 0]) (t := 24) ?hr ?_;(case hd=>rfl);(case hg=>rfl);(case hr=>first|(go_simp; done)|(go_simp; rfl)); intro gb178 hg w5 hbox hb; have n0_ := Aside0.mk (IsS50.below (by repeat (first|(with_reducible first|exact HI0.out|apply IsS50.alloc|apply IsS50.drewN|apply IsS50.drew|apply IsS50.set_1)|exact HI0.out)) hb); have n1_ := Aside0.mk (KeepBut.trans (by repeat (first|(with_reducible first|exact HK.out|apply KeepBut.set_|apply zF|apply zG|apply zH)|exact HK.out)) (KeepBut.of_below hb g none) (.inl rfl)); have n2_ := Aside0.mk (below_step (by repeat (first|(with_reducible first|exact HB.out|apply zE|apply zB|apply zC|refine zJ ?_ (IsS50.ge HI0.out))|exact HB.out)) hb); have n3_ := Aside0.mk (hbox); have n4_ := Aside0.mk ((by rw [hg]; exact (keep_size (w := w) (g := g) (row := none) (by repeat (first|(with_reducible first|exact HK.out|apply KeepBut.set_|apply zF|apply zG|apply zH)|exact HK.out))) : w.heap.size ≤ gb178)); have n5_ := Aside0.mk ((Nat.le_trans HW0.out (by rw [hg]; exact (keep_size (w := w) (g := g) (row := none) (by repeat (first|(with_reducible first|exact HK.out|apply KeepBut.set_|apply zF|apply zG|apply zH)|exact HK.out))) : w.heap.size ≤ gb178) : w0.heap.size ≤ gb178)); have n6_ := Aside0.mk ((by rw [hg]; exact Nat.ne_of_lt (IsS50.lt (show IsS50 w0 _ g s0_0 s0_1 from by repeat (first|(with_reducible first|exact HI0.out|apply IsS50.alloc|apply IsS50.drewN|apply IsS50.drew|apply IsS50.set_1)|exact HI0.out))) : g ≠ gb178)); have n7_ := Aside0.mk ((by rw [hg]; exact Nat.ne_of_gt (IsS50.lt (show IsS50 w0 _ g s0_0 s0_1 from by repeat (first|(with_reducible first|exact HI0.out|apply IsS50.alloc|apply IsS50.drewN|apply IsS50.drew|apply IsS50.set_1)|exact HI0.out))) : gb178 ≠ g)); clear HI0 HK HB; have HI0 := n0_; have HK := n1_; have HB := n2_; have BK178 := n3_; have GW178 := n4_; have GE178 := n5_; have NB0_178 := n6_; have NB178_0 := n7_; clear n0_ n1_ n2_ n3_ n4_ n5_ n6_ n7_ hb hbox hg)|((with_reducible refine gate_callee (f := 11) rfl ?_); refine goesL_ (some 11) rfl rfl Tryz.func11 (by kernel_rfl) rfl #[.pointer (some ⟨g,0,none⟩),.int .i64 2] rfl (by (try simp only [List.map_toArray,List.map_cons,List.map_nil]); first|done|rfl|(simp only [List.length_drop,List.length_take]; rfl)) ?_;(with_reducible refine (flagstonedraw_Codes_Next.calls g s0_0 s0_1 2 t179 t180 w0 _ ?side1 ?side2 A4.out).mono ?_);(case side1=>repeat (first|(with_reducible first|exact HI0.out|apply IsS50.alloc|apply IsS50.drewN|apply IsS50.drew|apply IsS50.set_1|refine IsS50.far ?_ NB0_178.out _)|exact HI0.out));(case side2=>repeat (first|(with_reducible first|exact HB.out|apply zE|apply zB|apply zC|refine zJ ?_ (IsS50.ge HI0.out)|refine zJ ?_ GE178.out)|exact HB.out)); rintro e w6 ⟨rfl,hi,hb,hk⟩; refine ⟨_,rfl,?_⟩; have n0_ := Aside0.mk (KeepBut.blk hk (g' := gb178) (o := .cells #[.int .i64 0,.int .i64 0,.string (⟨#[]⟩ : ByteArray),.slice none 0 0] 24 (0,0)) (by (with_reducible repeat (first|refine zN ?_ _|refine zD ?_|refine zA ?_ _)); exact BK178.out) NB178_0.out (by simp)); have n1_ := Aside0.mk (KeepBut.trans (by repeat (first|(with_reducible first|exact HK.out|apply KeepBut.set_|apply zF|apply zG|apply zH|refine zI ?_ GW178.out _)|exact HK.out)) hk (.inl rfl)); have n2_ := Aside0.mk (hb); have n3_ := Aside0.mk (hi); clear BK178 HK HB HI0; have BK178 := n0_; have HK := n1_; have HB := n2_; have HI0 := n3_; clear n0_ n1_ n2_ n3_;(try clear hb);(try clear hb2);(try clear hk);(try clear hi);(try clear hge); have hnb7 := NB178_0.out; have hnc7 := NB0_178.out; have hcz8_0 : w6.cell? ⟨gb178,0,none⟩ = some (.int .i64 0):=(blk_cell BK178.out 0).trans rfl; have hcz8_1 : w6.cell? ⟨gb178,1,none⟩ = some (.int .i64 0):=(blk_cell BK178.out 1).trans rfl; have hcz8_2 : w6.cell? ⟨gb178,2,none⟩ = some (.string (⟨#[]⟩ : ByteArray)):=(blk_cell BK178.out 2).trans rfl; have hcz8_3 : w6.cell? ⟨gb178,3,none⟩ = some (.slice none 0 0):=(blk_cell BK178.out 3).trans rfl; have hfz8_0 := blk_frozen BK178.out 0; have hfz8_1 := blk_frozen BK178.out 1; have hfz8_2 := blk_frozen BK178.out 2; have hfz8_3 := blk_frozen BK178.out 3))
  refine bodyPost_ret (results_cell_row rfl _ _ gb178 24 #[.int .i64 a1,.int .i64 t179,.string (⟨#[]⟩ : ByteArray),.slice none 0 0] (0,0) _ rfl (by (with_reducible repeat (first|refine zN ?_ _|refine zD ?_|refine zA ?_ _)); refine blk_put (cs := #[.int .i64 a1,.int .i64 t179,.string (⟨#[]⟩ : ByteArray),.slice none 0 0]) ?_ 3 _ rfl;(with_reducible repeat (first|refine zN ?_ _|refine zD ?_|refine zA ?_ _)); refine blk_put (cs := #[.int .i64 a1,.int .i64 t179,.string (⟨#[]⟩ : ByteArray),.slice none 0 0]) ?_ 2 _ rfl;(with_reducible repeat (first|refine zN ?_ _|refine zD ?_|refine zA ?_ _)); refine blk_put (cs := #[.int .i64 a1,.int .i64 0,.string (⟨#[]⟩ : ByteArray),.slice none 0 0]) ?_ 1 _ rfl;(with_reducible repeat (first|refine zN ?_ _|refine zD ?_|refine zA ?_ _)); refine blk_put (cs := #[.int .i64 0,.int .i64 0,.string (⟨#[]⟩ : ByteArray),.slice none 0 0]) ?_ 0 _ rfl;(with_reducible repeat (first|refine zN ?_ _|refine zD ?_|refine zA ?_ _)); exact BK178.out) Tryz.underlying24 rfl (by kernel_rfl)) rfl ?_
  exact ⟨_,by first|rfl|(simp [errW_none,errW_some]<;>rfl)|(simp [*,errW_none,errW_some]<;>rfl),by first|exact Kd.R_nil _ _ _ _ _|exact Kd.N_nil _ _ _ _ _|exact Kd.V_nil _ _ _ _ _|exact Kd.Q_nil _ _ _ _ _|exact Kd.S_nil _ _ _ _ _,by repeat (first|(with_reducible first|exact HI0.out|apply IsS50.alloc|apply IsS50.drewN|apply IsS50.drew|apply IsS50.set_1|refine IsS50.far ?_ NB0_178.out _)|exact HI0.out),by repeat (first|(with_reducible first|exact HB.out|apply zE|apply zB|apply zC|refine zJ ?_ (IsS50.ge HI0.out)|refine zJ ?_ GE178.out)|exact HB.out),by repeat (first|(with_reducible first|exact HK.out|apply KeepBut.set_|apply zF|apply zG|apply zH|refine zI ?_ GW178.out _)|exact HK.out)⟩
 ·rw [if_neg c3] at H
  have c3b0 : (a1 == 1) = false := beq_eq_false_iff_ne.mpr c3
  have c3b1 : (a1 != 1) = true := bne_iff_ne.mpr c3
  by_cases c9 : a1 = 2
  ·rw [if_pos c9] at H
   have c9b0 : (a1 == 2) = true := beq_iff_eq.mpr c9
   have c9b1 : (a1 != 2) = false := bne_eq_false_iff_eq.mpr c9
   clear c9
   obtain ⟨y181,hy181⟩ : ∃ y_ : List Int,y_ = (([0,1,17,18,19,(-5),64,1099511627776,(-1099511627776)] : List Int)):=⟨_,rfl⟩
   replace H : ((flagstonedraw_Codes_Next.f s0_0 s0_1 (y181.length : Int)).bind fun bt184=>(if 0 ≤ bt184.1 then (if bt184.1 < (y181.length : Int) then (some (a1,rd y181 bt184.1,(⟨#[]⟩ : ByteArray),([] : List ByteArray),bt184.2)) else (none)) else (none))) = some (r1,r2,r3,r4,r5) := by first|(rw [hy181]; with_reducible exact H)|(have H2_:=(Option.bind_some _ _).symm.trans H; rw [hy181]; with_reducible exact H2_)|(have H2_:=(Option.bind_some _ _).symm.trans H; with_reducible exact H2_)|with_reducible exact H|(rw [hy181]; exact H)|exact H
   have Ny181 := Aside0.mk hy181; clear hy181; replace H := Option.bind_eq_some_iff.mp H
   obtain ⟨⟨t184,t185⟩,A100,H⟩ := H
   replace H : (if 0 ≤ t184 then (if t184 < (y181.length : Int) then (some (a1,rd y181 t184,(⟨#[]⟩ : ByteArray),([] : List ByteArray),t185)) else (none)) else (none)) = some (r1,r2,r3,r4,r5) := H
   have A10 := Aside0.mk A100; clear A100
   by_cases c11 : 0 ≤ t184
   ·rw [if_pos c11] at H
    have c11b0 : decide (0 ≤ t184) = true := decide_eq_true c11
    clear c11
    by_cases c12 : t184 < (y181.length : Int)
    ·rw [if_pos c12] at H
     have c12b0 : decide (t184 < (y181.length : Int)) = true := decide_eq_true c12
     clear c12
     simp only [Option.some.injEq,Prod.mk.injEq] at H
     obtain ⟨rfl,rfl,rfl,rfl,rfl⟩ := H
     go_enter Tryz.func22,Tryz.ntmps22
     go_wp2_with (first|((with_reducible refine gate_dst (N := 4) rfl ?_); refine box_event ?hg (N := 4) ?hd (cs := #[.int .i64 0,.int .i64 0,.string (⟨#[]⟩ : ByteArray),.slice none 0 0]) (t := 24) ?hr ?_;(case hd=>rfl);(case hg=>rfl);(case hr=>first|(go_simp; done)|(go_simp; rfl)); intro gb178 hg w13 hbox hb; have n0_ := Aside0.mk (IsS50.below (by repeat (first|(with_reducible first|exact HI0.out|apply IsS50.alloc|apply IsS50.drewN|apply IsS50.drew|apply IsS50.set_1)|exact HI0.out)) hb); have n1_ := Aside0.mk (KeepBut.trans (by repeat (first|(with_reducible first|exact HK.out|apply KeepBut.set_|apply zF|apply zG|apply zH)|exact HK.out)) (KeepBut.of_below hb g none) (.inl rfl)); have n2_ := Aside0.mk (below_step (by repeat (first|(with_reducible first|exact HB.out|apply zE|apply zB|apply zC|refine zJ ?_ (IsS50.ge HI0.out))|exact HB.out)) hb); have n3_ := Aside0.mk (hbox); have n4_ := Aside0.mk ((by rw [hg]; exact (keep_size (w := w) (g := g) (row := none) (by repeat (first|(with_reducible first|exact HK.out|apply KeepBut.set_|apply zF|apply zG|apply zH)|exact HK.out))) : w.heap.size ≤ gb178)); have n5_ := Aside0.mk ((Nat.le_trans HW0.out (by rw [hg]; exact (keep_size (w := w) (g := g) (row := none) (by repeat (first|(with_reducible first|exact HK.out|apply KeepBut.set_|apply zF|apply zG|apply zH)|exact HK.out))) : w.heap.size ≤ gb178) : w0.heap.size ≤ gb178)); have n6_ := Aside0.mk ((by rw [hg]; exact Nat.ne_of_lt (IsS50.lt (show IsS50 w0 _ g s0_0 s0_1 from by repeat (first|(with_reducible first|exact HI0.out|apply IsS50.alloc|apply IsS50.drewN|apply IsS50.drew|apply IsS50.set_1)|exact HI0.out))) : g ≠ gb178)); have n7_ := Aside0.mk ((by rw [hg]; exact Nat.ne_of_gt (IsS50.lt (show IsS50 w0 _ g s0_0 s0_1 from by repeat (first|(with_reducible first|exact HI0.out|apply IsS50.alloc|apply IsS50.drewN|apply IsS50.drew|apply IsS50.set_1)|exact HI0.out))) : gb178 ≠ g)); clear HI0 HK HB; have HI0 := n0_; have HK := n1_; have HB := n2_; have BK178 := n3_; have GW178 := n4_; have GE178 := n5_; have NB0_178 := n6_; have NB178_0 := n7_; clear n0_ n1_ n2_ n3_ n4_ n5_ n6_ n7_ hb hbox hg)|((with_reducible refine gate_dst (N := 15) rfl ?_); refine Kd.R_lit (Kd.int .i64) _ 3 ?hg (N := 15) ?hd (xs:=([0,1,17,18,19,(-5),64,1099511627776,(-1099511627776)] : List Int)) (inner := [.int .i64 0,.int .i64 1,.int .i64 17,.int .i64 18,.int .i64 19,.int .i64 (-5),.int .i64 64,.int .i64 1099511627776,.int .i64 (-1099511627776)]) (ok := fun _=>True) (okp := fun _=>True) ?hr ?hp (fun _ hk=>hk) trivial (Below.refl _ _) (Nat.le_refl _) (by simp) ?_;(case hd=>rfl);(case hg=>rfl);(case hr=>first|(go_simp; done)|(go_simp; rfl));(case hp=>exact (Reps.one (show Kd.M (Kd.int .i64) _ _ _ 0 [.int .i64 0] from rfl) (Reps.one (show Kd.M (Kd.int .i64) _ _ _ 1 [.int .i64 1] from rfl) (Reps.one (show Kd.M (Kd.int .i64) _ _ _ 17 [.int .i64 17] from rfl) (Reps.one (show Kd.M (Kd.int .i64) _ _ _ 18 [.int .i64 18] from rfl) (Reps.one (show Kd.M (Kd.int .i64) _ _ _ 19 [.int .i64 19] from rfl) (Reps.one (show Kd.M (Kd.int .i64) _ _ _ (-5) [.int .i64 (-5)] from rfl) (Reps.one (show Kd.M (Kd.int .i64) _ _ _ 64 [.int .i64 64] from rfl) (Reps.one (show Kd.M (Kd.int .i64) _ _ _ 1099511627776 [.int .i64 1099511627776] from rfl) (Reps.one (show Kd.M (Kd.int .i64) _ _ _ (-1099511627776) [.int .i64 (-1099511627776)] from rfl) (Reps.none _ _))))))))))); intro v182 w14 ho15 hb hg_ hnew_; clear hg_ hnew_;(first|rw [← Ny181.out] at ho15|(simp only [Int.reduceToNat] at ho15; rw [← Ny181.out] at ho15)); have n0_ := Aside0.mk (Kd.R_lower ho15 (keep_size (w := w) (g := g) (row := none) (by repeat (first|(with_reducible first|exact HK.out|apply KeepBut.set_|apply zF|apply zG|apply zH|refine zI ?_ GW178.out _)|exact HK.out)))); have n1_ := Aside0.mk (IsS50.below (by repeat (first|(with_reducible first|exact HI0.out|apply IsS50.alloc|apply IsS50.drewN|apply IsS50.drew|apply IsS50.set_1|refine IsS50.far ?_ NB0_178.out _)|exact HI0.out)) hb); have n2_ := Aside0.mk (blk_below (g := gb178) (o := .cells #[.int .i64 0,.int .i64 0,.string (⟨#[]⟩ : ByteArray),.slice none 0 0] 24 (0,0)) (by (with_reducible repeat (first|refine zN ?_ _|refine zD ?_|refine zA ?_ _)); exact BK178.out) hb); have n3_ := Aside0.mk (KeepBut.trans (by repeat (first|(with_reducible first|exact HK.out|apply KeepBut.set_|apply zF|apply zG|apply zH|refine zI ?_ GW178.out _)|exact HK.out)) (KeepBut.of_below hb g none) (.inl rfl)); have n4_ := Aside0.mk (below_step (by repeat (first|(with_reducible first|exact HB.out|apply zE|apply zB|apply zC|refine zJ ?_ (IsS50.ge HI0.out)|refine zJ ?_ GE178.out)|exact HB.out)) hb); clear HI0 BK178 HK HB; have HO183 := n0_; have HI0 := n1_; have BK178 := n2_; have HK := n3_; have HB := n4_; clear n0_ n1_ n2_ n3_ n4_ hb ho15; obtain ⟨Ao16,co16,eo16⟩ := Kd.R_slice HO183.out; subst eo16)|((with_reducible refine gate_callee (f := 11) rfl ?_); refine goesL_ (some 21) rfl rfl Tryz.func11 (by kernel_rfl) rfl #[.pointer (some ⟨g,0,none⟩),.int .i64 (y181.length : Int)] rfl (by (try simp only [List.map_toArray,List.map_cons,List.map_nil]); first|done|rfl|(simp only [List.length_drop,List.length_take]; rfl)) ?_;(with_reducible refine (flagstonedraw_Codes_Next.calls g s0_0 s0_1 (y181.length : Int) t184 t185 w0 _ ?side1 ?side2 A10.out).mono ?_);(case side1=>repeat (first|(with_reducible first|exact HI0.out|apply IsS50.alloc|apply IsS50.drewN|apply IsS50.drew|apply IsS50.set_1|refine IsS50.far ?_ NB0_178.out _)|exact HI0.out));(case side2=>repeat (first|(with_reducible first|exact HB.out|apply zE|apply zB|apply zC|refine zJ ?_ (IsS50.ge HI0.out)|refine zJ ?_ GE178.out)|exact HB.out)); rintro e w17 ⟨rfl,hi,hb,hk⟩; refine ⟨_,rfl,?_⟩; have n0_ := Aside0.mk (KeepBut.blk hk (g' := gb178) (o := .cells #[.int .i64 0,.int .i64 0,.string (⟨#[]⟩ : ByteArray),.slice none 0 0] 24 (0,0)) (by (with_reducible repeat (first|refine zN ?_ _|refine zD ?_|refine zA ?_ _)); exact BK178.out) NB178_0.out (by simp)); have n1_ := Aside0.mk (Kd.R_mono (Kd.R_keep (IsS50.apart (show IsS50 w0 _ g s0_0 s0_1 from by repeat (first|(with_reducible first|exact HI0.out|apply IsS50.alloc|apply IsS50.drewN|apply IsS50.drew|apply IsS50.set_1|refine IsS50.far ?_ NB0_178.out _)|exact HI0.out)) (by (with_reducible repeat (first|apply Kd.R_alloc|apply Kd.R_drewN|apply Kd.R_drew)); exact HO183.out) (by decide)) hk (fun _ h=>h.2)) (fun _ h=>h.1)); have n2_ := Aside0.mk (KeepBut.trans (by repeat (first|(with_reducible first|exact HK.out|apply KeepBut.set_|apply zF|apply zG|apply zH|refine zI ?_ GW178.out _)|exact HK.out)) hk (.inl rfl)); have n3_ := Aside0.mk (hb); have n4_ := Aside0.mk (hi); clear BK178 HO183 HK HB HI0; have BK178 := n0_; have HO183 := n1_; have HK := n2_; have HB := n3_; have HI0 := n4_; clear n0_ n1_ n2_ n3_ n4_;(try clear hb);(try clear hb2);(try clear hk);(try clear hi);(try clear hge); have p186 : 0 ≤ (t184 : Int) := of_decide_eq_true (by first|(with_reducible assumption)|assumption); have q186 : t184 < (y181.length : Int) := of_decide_eq_true (by first|(with_reducible assumption)|assumption); obtain ⟨ad186,e186,hx186_0⟩ := Kd.at_int (Kd.R_reads' HO183.out).2.2 t184 p186 q186; cases e186; replace p186 := eq_true p186; replace q186 := eq_true q186; have hnb18 := NB178_0.out; have hnc18 := NB0_178.out; have hcz19_0 : w17.cell? ⟨gb178,0,none⟩ = some (.int .i64 0):=(blk_cell BK178.out 0).trans rfl; have hcz19_1 : w17.cell? ⟨gb178,1,none⟩ = some (.int .i64 0):=(blk_cell BK178.out 1).trans rfl; have hcz19_2 : w17.cell? ⟨gb178,2,none⟩ = some (.string (⟨#[]⟩ : ByteArray)):=(blk_cell BK178.out 2).trans rfl; have hcz19_3 : w17.cell? ⟨gb178,3,none⟩ = some (.slice none 0 0):=(blk_cell BK178.out 3).trans rfl; have hfz19_0 := blk_frozen BK178.out 0; have hfz19_1 := blk_frozen BK178.out 1; have hfz19_2 := blk_frozen BK178.out 2; have hfz19_3 := blk_frozen BK178.out 3))
     refine bodyPost_ret (results_cell_row rfl _ _ gb178 24 #[.int .i64 a1,.int .i64 (rd y181 t184),.string (⟨#[]⟩ : ByteArray),.slice none 0 0] (0,0) _ rfl (by (with_reducible repeat (first|refine zN ?_ _|refine zD ?_|refine zA ?_ _)); refine blk_put (cs := #[.int .i64 a1,.int .i64 (rd y181 t184),.string (⟨#[]⟩ : ByteArray),.slice none 0 0]) ?_ 3 _ rfl;(with_reducible repeat (first|refine zN ?_ _|refine zD ?_|refine zA ?_ _)); refine blk_put (cs := #[.int .i64 a1,.int .i64 (rd y181 t184),.string (⟨#[]⟩ : ByteArray),.slice none 0 0]) ?_ 2 _ rfl;(with_reducible repeat (first|refine zN ?_ _|refine zD ?_|refine zA ?_ _)); refine blk_put (cs := #[.int .i64 a1,.int .i64 0,.string (⟨#[]⟩ : ByteArray),.slice none 0 0]) ?_ 1 _ rfl;(with_reducible repeat (first|refine zN ?_ _|refine zD ?_|refine zA ?_ _)); refine blk_put (cs := #[.int .i64 0,.int .i64 0,.string (⟨#[]⟩ : ByteArray),.slice none 0 0]) ?_ 0 _ rfl;(with_reducible repeat (first|refine zN ?_ _|refine zD ?_|refine zA ?_ _)); exact BK178.out) Tryz.underlying24 rfl (by kernel_rfl)) rfl ?_
     exact ⟨_,by first|rfl|(simp [errW_none,errW_some]<;>rfl)|(simp [*,errW_none,errW_some]<;>rfl),by first|exact Kd.R_nil _ _ _ _ _|exact Kd.N_nil _ _ _ _ _|exact Kd.V_nil _ _ _ _ _|exact Kd.Q_nil _ _ _ _ _|exact Kd.S_nil _ _ _ _ _,by repeat (first|(with_reducible first|exact HI0.out|apply IsS50.alloc|apply IsS50.drewN|apply IsS50.drew|apply IsS50.set_1|refine IsS50.far ?_ NB0_178.out _)|exact HI0.out),by repeat (first|(with_reducible first|exact HB.out|apply zE|apply zB|apply zC|refine zJ ?_ (IsS50.ge HI0.out)|refine zJ ?_ GE178.out)|exact HB.out),by repeat (first|(with_reducible first|exact HK.out|apply KeepBut.set_|apply zF|apply zG|apply zH|refine zI ?_ GW178.out _)|exact HK.out)⟩
    ·rw [if_neg c12] at H
     exact absurd H (by simp)
   ·rw [if_neg c11] at H
    exact absurd H (by simp)
  ·rw [if_neg c9] at H
   have c9b0 : (a1 == 2) = false := beq_eq_false_iff_ne.mpr c9
   have c9b1 : (a1 != 2) = true := bne_iff_ne.mpr c9
   by_cases c20 : a1 = 3
   ·rw [if_pos c20] at H
    have c20b0 : (a1 == 3) = true := beq_iff_eq.mpr c20
    have c20b1 : (a1 != 3) = false := bne_eq_false_iff_eq.mpr c20
    clear c20; replace H := Option.bind_eq_some_iff.mp H
    obtain ⟨⟨t187,t188⟩,A210,H⟩ := H
    replace H : (some (a1,0,t187,([] : List ByteArray),t188)) = some (r1,r2,r3,r4,r5) := H
    have A21 := Aside0.mk A210; clear A210
    simp only [Option.some.injEq,Prod.mk.injEq] at H
    obtain ⟨rfl,rfl,rfl,rfl,rfl⟩ := H
    go_enter Tryz.func22,Tryz.ntmps22
    go_wp2_with (first|((with_reducible refine gate_dst (N := 4) rfl ?_); refine box_event ?hg (N := 4) ?hd (cs := #[.int .i64 0,.int .i64 0,.string (⟨#[]⟩ : ByteArray),.slice none 0 0]) (t := 24) ?hr ?_;(case hd=>rfl);(case hg=>rfl);(case hr=>first|(go_simp; done)|(go_simp; rfl)); intro gb178 hg w22 hbox hb; have n0_ := Aside0.mk (IsS50.below (by repeat (first|(with_reducible first|exact HI0.out|apply IsS50.alloc|apply IsS50.drewN|apply IsS50.drew|apply IsS50.set_1)|exact HI0.out)) hb); have n1_ := Aside0.mk (KeepBut.trans (by repeat (first|(with_reducible first|exact HK.out|apply KeepBut.set_|apply zF|apply zG|apply zH)|exact HK.out)) (KeepBut.of_below hb g none) (.inl rfl)); have n2_ := Aside0.mk (below_step (by repeat (first|(with_reducible first|exact HB.out|apply zE|apply zB|apply zC|refine zJ ?_ (IsS50.ge HI0.out))|exact HB.out)) hb); have n3_ := Aside0.mk (hbox); have n4_ := Aside0.mk ((by rw [hg]; exact (keep_size (w := w) (g := g) (row := none) (by repeat (first|(with_reducible first|exact HK.out|apply KeepBut.set_|apply zF|apply zG|apply zH)|exact HK.out))) : w.heap.size ≤ gb178)); have n5_ := Aside0.mk ((Nat.le_trans HW0.out (by rw [hg]; exact (keep_size (w := w) (g := g) (row := none) (by repeat (first|(with_reducible first|exact HK.out|apply KeepBut.set_|apply zF|apply zG|apply zH)|exact HK.out))) : w.heap.size ≤ gb178) : w0.heap.size ≤ gb178)); have n6_ := Aside0.mk ((by rw [hg]; exact Nat.ne_of_lt (IsS50.lt (show IsS50 w0 _ g s0_0 s0_1 from by repeat (first|(with_reducible first|exact HI0.out|apply IsS50.alloc|apply IsS50.drewN|apply IsS50.drew|apply IsS50.set_1)|exact HI0.out))) : g ≠ gb178)); have n7_ := Aside0.mk ((by rw [hg]; exact Nat.ne_of_gt (IsS50.lt (show IsS50 w0 _ g s0_0 s0_1 from by repeat (first|(with_reducible first|exact HI0.out|apply IsS50.alloc|apply IsS50.drewN|apply IsS50.drew|apply IsS50.set_1)|exact HI0.out))) : gb178 ≠ g)); clear HI0 HK HB; have HI0 := n0_; have HK := n1_; have HB := n2_; have BK178 := n3_; have GW178 := n4_; have GE178 := n5_; have NB0_178 := n6_; have NB178_0 := n7_; clear n0_ n1_ n2_ n3_ n4_ n5_ n6_ n7_ hb hbox hg)|((with_reducible refine gate_callee (f := 13) rfl ?_); refine goesL_ (some 29) rfl rfl Tryz.func13 (by kernel_rfl) rfl #[.pointer (some ⟨g,0,none⟩)] rfl (by (try simp only [List.map_toArray,List.map_cons,List.map_nil]); first|done|rfl|(simp only [List.length_drop,List.length_take]; rfl)) ?_;(with_reducible refine (flagstonedraw_Codes_Text.calls g s0_0 s0_1 t187 t188 w0 _ ?side1 ?side2 ?side3 A21.out).mono ?_);(case side1=>repeat (first|(with_reducible first|exact HI0.out|apply IsS50.alloc|apply IsS50.drewN|apply IsS50.drew|apply IsS50.set_1|refine IsS50.far ?_ NB0_178.out _)|exact HI0.out));(case side2=>repeat (first|(with_reducible first|exact HB.out|apply zE|apply zB|apply zC|refine zJ ?_ (IsS50.ge HI0.out)|refine zJ ?_ GE178.out)|exact HB.out));(case side3=>exact HGL.out); rintro e w23 ⟨rfl,hi,hb,hk⟩; refine ⟨_,rfl,?_⟩; have n0_ := Aside0.mk (KeepBut.blk hk (g' := gb178) (o := .cells #[.int .i64 0,.int .i64 0,.string (⟨#[]⟩ : ByteArray),.slice none 0 0] 24 (0,0)) (by (with_reducible repeat (first|refine zN ?_ _|refine zD ?_|refine zA ?_ _)); exact BK178.out) NB178_0.out (by simp)); have n1_ := Aside0.mk (KeepBut.trans (by repeat (first|(with_reducible first|exact HK.out|apply KeepBut.set_|apply zF|apply zG|apply zH|refine zI ?_ GW178.out _)|exact HK.out)) hk (.inl rfl)); have n2_ := Aside0.mk (hb); have n3_ := Aside0.mk (hi); clear BK178 HK HB HI0; have BK178 := n0_; have HK := n1_; have HB := n2_; have HI0 := n3_; clear n0_ n1_ n2_ n3_;(try clear hb);(try clear hb2);(try clear hk);(try clear hi);(try clear hge); have hnb24 := NB178_0.out; have hnc24 := NB0_178.out; have hcz25_0 : w23.cell? ⟨gb178,0,none⟩ = some (.int .i64 0):=(blk_cell BK178.out 0).trans rfl; have hcz25_1 : w23.cell? ⟨gb178,1,none⟩ = some (.int .i64 0):=(blk_cell BK178.out 1).trans rfl; have hcz25_2 : w23.cell? ⟨gb178,2,none⟩ = some (.string (⟨#[]⟩ : ByteArray)):=(blk_cell BK178.out 2).trans rfl; have hcz25_3 : w23.cell? ⟨gb178,3,none⟩ = some (.slice none 0 0):=(blk_cell BK178.out 3).trans rfl; have hfz25_0 := blk_frozen BK178.out 0; have hfz25_1 := blk_frozen BK178.out 1; have hfz25_2 := blk_frozen BK178.out 2; have hfz25_3 := blk_frozen BK178.out 3))
    refine bodyPost_ret (results_cell_row rfl _ _ gb178 24 #[.int .i64 a1,.int .i64 0,.string t187,.slice none 0 0] (0,0) _ rfl (by (with_reducible repeat (first|refine zN ?_ _|refine zD ?_|refine zA ?_ _)); refine blk_put (cs := #[.int .i64 a1,.int .i64 0,.string t187,.slice none 0 0]) ?_ 3 _ rfl;(with_reducible repeat (first|refine zN ?_ _|refine zD ?_|refine zA ?_ _)); refine blk_put (cs := #[.int .i64 a1,.int .i64 0,.string (⟨#[]⟩ : ByteArray),.slice none 0 0]) ?_ 2 _ rfl;(with_reducible repeat (first|refine zN ?_ _|refine zD ?_|refine zA ?_ _)); refine blk_put (cs := #[.int .i64 a1,.int .i64 0,.string (⟨#[]⟩ : ByteArray),.slice none 0 0]) ?_ 1 _ rfl;(with_reducible repeat (first|refine zN ?_ _|refine zD ?_|refine zA ?_ _)); refine blk_put (cs := #[.int .i64 0,.int .i64 0,.string (⟨#[]⟩ : ByteArray),.slice none 0 0]) ?_ 0 _ rfl;(with_reducible repeat (first|refine zN ?_ _|refine zD ?_|refine zA ?_ _)); exact BK178.out) Tryz.underlying24 rfl (by kernel_rfl)) rfl ?_
    exact ⟨_,by first|rfl|(simp [errW_none,errW_some]<;>rfl)|(simp [*,errW_none,errW_some]<;>rfl),by first|exact Kd.R_nil _ _ _ _ _|exact Kd.N_nil _ _ _ _ _|exact Kd.V_nil _ _ _ _ _|exact Kd.Q_nil _ _ _ _ _|exact Kd.S_nil _ _ _ _ _,by repeat (first|(with_reducible first|exact HI0.out|apply IsS50.alloc|apply IsS50.drewN|apply IsS50.drew|apply IsS50.set_1|refine IsS50.far ?_ NB0_178.out _)|exact HI0.out),by repeat (first|(with_reducible first|exact HB.out|apply zE|apply zB|apply zC|refine zJ ?_ (IsS50.ge HI0.out)|refine zJ ?_ GE178.out)|exact HB.out),by repeat (first|(with_reducible first|exact HK.out|apply KeepBut.set_|apply zF|apply zG|apply zH|refine zI ?_ GW178.out _)|exact HK.out)⟩
   ·rw [if_neg c20] at H
    have c20b0 : (a1 == 3) = false := beq_eq_false_iff_ne.mpr c20
    have c20b1 : (a1 != 3) = true := bne_iff_ne.mpr c20
    by_cases c26 : a1 = 4
    ·rw [if_pos c26] at H
     have c26b0 : (a1 == 4) = true := beq_iff_eq.mpr c26
     have c26b1 : (a1 != 4) = false := bne_eq_false_iff_eq.mpr c26
     clear c26; replace H := Option.bind_eq_some_iff.mp H
     obtain ⟨⟨t189,t190⟩,A270,H⟩ := H
     replace H : (if 0 ≤ t189 then (if t189 < 6 then (some (a1,0,rdOf ByteArray.empty versionsL t189,([] : List ByteArray),t190)) else (none)) else (none)) = some (r1,r2,r3,r4,r5) := H
     have A27 := Aside0.mk A270; clear A270
     by_cases c28 : 0 ≤ t189
     ·rw [if_pos c28] at H
      have c28b0 : decide (0 ≤ t189) = true := decide_eq_true c28
      clear c28
      by_cases c29 : t189 < 6
      ·rw [if_pos c29] at H
       have c29b0 : decide (t189 < 6) = true := decide_eq_true c29
       clear c29
       simp only [Option.some.injEq,Prod.mk.injEq] at H
       obtain ⟨rfl,rfl,rfl,rfl,rfl⟩ := H
       go_enter Tryz.func22,Tryz.ntmps22
       go_wp2_with (first|((with_reducible refine gate_dst (N := 4) rfl ?_); refine box_event ?hg (N := 4) ?hd (cs := #[.int .i64 0,.int .i64 0,.string (⟨#[]⟩ : ByteArray),.slice none 0 0]) (t := 24) ?hr ?_;(case hd=>rfl);(case hg=>rfl);(case hr=>first|(go_simp; done)|(go_simp; rfl)); intro gb178 hg w30 hbox hb; have n0_ := Aside0.mk (IsS50.below (by repeat (first|(with_reducible first|exact HI0.out|apply IsS50.alloc|apply IsS50.drewN|apply IsS50.drew|apply IsS50.set_1)|exact HI0.out)) hb); have n1_ := Aside0.mk (KeepBut.trans (by repeat (first|(with_reducible first|exact HK.out|apply KeepBut.set_|apply zF|apply zG|apply zH)|exact HK.out)) (KeepBut.of_below hb g none) (.inl rfl)); have n2_ := Aside0.mk (below_step (by repeat (first|(with_reducible first|exact HB.out|apply zE|apply zB|apply zC|refine zJ ?_ (IsS50.ge HI0.out))|exact HB.out)) hb); have n3_ := Aside0.mk (hbox); have n4_ := Aside0.mk ((by rw [hg]; exact (keep_size (w := w) (g := g) (row := none) (by repeat (first|(with_reducible first|exact HK.out|apply KeepBut.set_|apply zF|apply zG|apply zH)|exact HK.out))) : w.heap.size ≤ gb178)); have n5_ := Aside0.mk ((Nat.le_trans HW0.out (by rw [hg]; exact (keep_size (w := w) (g := g) (row := none) (by repeat (first|(with_reducible first|exact HK.out|apply KeepBut.set_|apply zF|apply zG|apply zH)|exact HK.out))) : w.heap.size ≤ gb178) : w0.heap.size ≤ gb178)); have n6_ := Aside0.mk ((by rw [hg]; exact Nat.ne_of_lt (IsS50.lt (show IsS50 w0 _ g s0_0 s0_1 from by repeat (first|(with_reducible first|exact HI0.out|apply IsS50.alloc|apply IsS50.drewN|apply IsS50.drew|apply IsS50.set_1)|exact HI0.out))) : g ≠ gb178)); have n7_ := Aside0.mk ((by rw [hg]; exact Nat.ne_of_gt (IsS50.lt (show IsS50 w0 _ g s0_0 s0_1 from by repeat (first|(with_reducible first|exact HI0.out|apply IsS50.alloc|apply IsS50.drewN|apply IsS50.drew|apply IsS50.set_1)|exact HI0.out))) : gb178 ≠ g)); clear HI0 HK HB; have HI0 := n0_; have HK := n1_; have HB := n2_; have BK178 := n3_; have GW178 := n4_; have GE178 := n5_; have NB0_178 := n6_; have NB178_0 := n7_; clear n0_ n1_ n2_ n3_ n4_ n5_ n6_ n7_ hb hbox hg)|((with_reducible refine gate_callee (f := 11) rfl ?_); refine goesL_ (some 35) rfl rfl Tryz.func11 (by kernel_rfl) rfl #[.pointer (some ⟨g,0,none⟩),.int .i64 6] rfl (by (try simp only [List.map_toArray,List.map_cons,List.map_nil]); first|done|rfl|(simp only [List.length_drop,List.length_take]; rfl)) ?_;(with_reducible refine (flagstonedraw_Codes_Next.calls g s0_0 s0_1 6 t189 t190 w0 _ ?side1 ?side2 A27.out).mono ?_);(case side1=>repeat (first|(with_reducible first|exact HI0.out|apply IsS50.alloc|apply IsS50.drewN|apply IsS50.drew|apply IsS50.set_1|refine IsS50.far ?_ NB0_178.out _)|exact HI0.out));(case side2=>repeat (first|(with_reducible first|exact HB.out|apply zE|apply zB|apply zC|refine zJ ?_ (IsS50.ge HI0.out)|refine zJ ?_ GE178.out)|exact HB.out)); rintro e w31 ⟨rfl,hi,hb,hk⟩; refine ⟨_,rfl,?_⟩; have n0_ := Aside0.mk (KeepBut.blk hk (g' := gb178) (o := .cells #[.int .i64 0,.int .i64 0,.string (⟨#[]⟩ : ByteArray),.slice none 0 0] 24 (0,0)) (by (with_reducible repeat (first|refine zN ?_ _|refine zD ?_|refine zA ?_ _)); exact BK178.out) NB178_0.out (by simp)); have n1_ := Aside0.mk (KeepBut.trans (by repeat (first|(with_reducible first|exact HK.out|apply KeepBut.set_|apply zF|apply zG|apply zH|refine zI ?_ GW178.out _)|exact HK.out)) hk (.inl rfl)); have n2_ := Aside0.mk (hb); have n3_ := Aside0.mk (hi); clear BK178 HK HB HI0; have BK178 := n0_; have HK := n1_; have HB := n2_; have HI0 := n3_; clear n0_ n1_ n2_ n3_;(try clear hb);(try clear hb2);(try clear hk);(try clear hi);(try clear hge); have p191 : 0 ≤ (t189 : Int) := of_decide_eq_true (by first|(with_reducible assumption)|assumption); have q191 : t189 < (versionsL.length : Int):=(by have h_ : (t189 : Int) < (6 : Int) := of_decide_eq_true (by first|(with_reducible assumption)|assumption); have e_ : versionsL.length = 6 := rfl; omega); have ql191 : ((t189 : Int) < (6 : Int)) = True := eq_true (of_decide_eq_true (by first|(with_reducible assumption)|assumption)); obtain ⟨ad191,e191,hx191_0⟩ := Kd.at_string HRG1.out t189 p191 q191; obtain rfl : (⟨1,0,none⟩ : Addr) = ad191:=(by injection e191);(first|simp only [add_plain] at hx191_0|simp only [add_at] at hx191_0|simp only [Addr.add,Nat.zero_add] at hx191_0|skip); replace hx191_0 := keep_cell HK.out hx191_0 (by first|(rw [add_block]; exact hfG1 _ rfl (by omega))|exact hfG1 _ rfl (by omega)|exact hfG1 ⟨1,0,none⟩ rfl (by omega)); replace p191 := eq_true p191; replace q191 := eq_true q191; have hnb32 := NB178_0.out; have hnc32 := NB0_178.out; have hcz33_0 : w31.cell? ⟨gb178,0,none⟩ = some (.int .i64 0):=(blk_cell BK178.out 0).trans rfl; have hcz33_1 : w31.cell? ⟨gb178,1,none⟩ = some (.int .i64 0):=(blk_cell BK178.out 1).trans rfl; have hcz33_2 : w31.cell? ⟨gb178,2,none⟩ = some (.string (⟨#[]⟩ : ByteArray)):=(blk_cell BK178.out 2).trans rfl; have hcz33_3 : w31.cell? ⟨gb178,3,none⟩ = some (.slice none 0 0):=(blk_cell BK178.out 3).trans rfl; have hfz33_0 := blk_frozen BK178.out 0; have hfz33_1 := blk_frozen BK178.out 1; have hfz33_2 := blk_frozen BK178.out 2; have hfz33_3 := blk_frozen BK178.out 3))
       refine bodyPost_ret (results_cell_row rfl _ _ gb178 24 #[.int .i64 a1,.int .i64 0,.string (rdOf ByteArray.empty versionsL t189),.slice none 0 0] (0,0) _ rfl (by (with_reducible repeat (first|refine zN ?_ _|refine zD ?_|refine zA ?_ _)); refine blk_put (cs := #[.int .i64 a1,.int .i64 0,.string (rdOf ByteArray.empty versionsL t189),.slice none 0 0]) ?_ 3 _ rfl;(with_reducible repeat (first|refine zN ?_ _|refine zD ?_|refine zA ?_ _)); refine blk_put (cs := #[.int .i64 a1,.int .i64 0,.string (⟨#[]⟩ : ByteArray),.slice none 0 0]) ?_ 2 _ rfl;(with_reducible repeat (first|refine zN ?_ _|refine zD ?_|refine zA ?_ _)); refine blk_put (cs := #[.int .i64 a1,.int .i64 0,.string (⟨#[]⟩ : ByteArray),.slice none 0 0]) ?_ 1 _ rfl;(with_reducible repeat (first|refine zN ?_ _|refine zD ?_|refine zA ?_ _)); refine blk_put (cs := #[.int .i64 0,.int .i64 0,.string (⟨#[]⟩ : ByteArray),.slice none 0 0]) ?_ 0 _ rfl;(with_reducible repeat (first|refine zN ?_ _|refine zD ?_|refine zA ?_ _)); exact BK178.out) Tryz.underlying24 rfl (by kernel_rfl)) rfl ?_
       exact ⟨_,by first|rfl|(simp [errW_none,errW_some]<;>rfl)|(simp [*,errW_none,errW_some]<;>rfl),by first|exact Kd.R_nil _ _ _ _ _|exact Kd.N_nil _ _ _ _ _|exact Kd.V_nil _ _ _ _ _|exact Kd.Q_nil _ _ _ _ _|exact Kd.S_nil _ _ _ _ _,by repeat (first|(with_reducible first|exact HI0.out|apply IsS50.alloc|apply IsS50.drewN|apply IsS50.drew|apply IsS50.set_1|refine IsS50.far ?_ NB0_178.out _)|exact HI0.out),by repeat (first|(with_reducible first|exact HB.out|apply zE|apply zB|apply zC|refine zJ ?_ (IsS50.ge HI0.out)|refine zJ ?_ GE178.out)|exact HB.out),by repeat (first|(with_reducible first|exact HK.out|apply KeepBut.set_|apply zF|apply zG|apply zH|refine zI ?_ GW178.out _)|exact HK.out)⟩
      ·rw [if_neg c29] at H
       exact absurd H (by simp)
     ·rw [if_neg c28] at H
      exact absurd H (by simp)
    ·rw [if_neg c26] at H
     have c26b0 : (a1 == 4) = false := beq_eq_false_iff_ne.mpr c26
     have c26b1 : (a1 != 4) = true := bne_iff_ne.mpr c26
     replace H := Option.bind_eq_some_iff.mp H
     obtain ⟨⟨t192,t193⟩,A340,H⟩ := H
     replace H : (if 0 ≤ t192 then (if t192 < 5 then (if ([] : List ByteArray).length + (rd_L4 listsL t192).length < 8796093022208 then (some (5,0,(⟨#[]⟩ : ByteArray),(([] : List ByteArray) ++ (rd_L4 listsL t192)),t193)) else (none)) else (none)) else (none)) = some (r1,r2,r3,r4,r5) := H
     have A34 := Aside0.mk A340; clear A340
     by_cases c35 : 0 ≤ t192
     ·rw [if_pos c35] at H
      have c35b0 : decide (0 ≤ t192) = true := decide_eq_true c35
      clear c35
      by_cases c36 : t192 < 5
      ·rw [if_pos c36] at H
       have c36b0 : decide (t192 < 5) = true := decide_eq_true c36
       clear c36
       by_cases c37 : ([] : List ByteArray).length + (rd_L4 listsL t192).length < 8796093022208
       ·rw [if_pos c37] at H
        have LMc37 := Aside0.mk c37; clear c37
        obtain ⟨y195,hy195⟩ : ∃ y_ : List ByteArray,y_ = (([] : List ByteArray) ++ (rd_L4 listsL t192)):=⟨_,rfl⟩
        replace H : (some (5,0,(⟨#[]⟩ : ByteArray),y195,t193)) = some (r1,r2,r3,r4,r5) := by first|(rw [hy195]; with_reducible exact H)|(have H2_:=(Option.bind_some _ _).symm.trans H; rw [hy195]; with_reducible exact H2_)|(have H2_:=(Option.bind_some _ _).symm.trans H; with_reducible exact H2_)|with_reducible exact H|(rw [hy195]; exact H)|exact H
        have Ny195 := Aside0.mk hy195; clear hy195
        simp only [Option.some.injEq,Prod.mk.injEq] at H
        obtain ⟨rfl,rfl,rfl,rfl,rfl⟩ := H
        go_enter Tryz.func22,Tryz.ntmps22
        go_wp2_with (first|((with_reducible refine gate_dst (N := 4) rfl ?_); refine box_event ?hg (N := 4) ?hd (cs := #[.int .i64 0,.int .i64 0,.string (⟨#[]⟩ : ByteArray),.slice none 0 0]) (t := 24) ?hr ?_;(case hd=>rfl);(case hg=>rfl);(case hr=>first|(go_simp; done)|(go_simp; rfl)); intro gb178 hg w38 hbox hb; have n0_ := Aside0.mk (IsS50.below (by repeat (first|(with_reducible first|exact HI0.out|apply IsS50.alloc|apply IsS50.drewN|apply IsS50.drew|apply IsS50.set_1)|exact HI0.out)) hb); have n1_ := Aside0.mk (KeepBut.trans (by repeat (first|(with_reducible first|exact HK.out|apply KeepBut.set_|apply zF|apply zG|apply zH)|exact HK.out)) (KeepBut.of_below hb g none) (.inl rfl)); have n2_ := Aside0.mk (below_step (by repeat (first|(with_reducible first|exact HB.out|apply zE|apply zB|apply zC|refine zJ ?_ (IsS50.ge HI0.out))|exact HB.out)) hb); have n3_ := Aside0.mk (hbox); have n4_ := Aside0.mk ((by rw [hg]; exact (keep_size (w := w) (g := g) (row := none) (by repeat (first|(with_reducible first|exact HK.out|apply KeepBut.set_|apply zF|apply zG|apply zH)|exact HK.out))) : w.heap.size ≤ gb178)); have n5_ := Aside0.mk ((Nat.le_trans HW0.out (by rw [hg]; exact (keep_size (w := w) (g := g) (row := none) (by repeat (first|(with_reducible first|exact HK.out|apply KeepBut.set_|apply zF|apply zG|apply zH)|exact HK.out))) : w.heap.size ≤ gb178) : w0.heap.size ≤ gb178)); have n6_ := Aside0.mk ((by rw [hg]; exact Nat.ne_of_lt (IsS50.lt (show IsS50 w0 _ g s0_0 s0_1 from by repeat (first|(with_reducible first|exact HI0.out|apply IsS50.alloc|apply IsS50.drewN|apply IsS50.drew|apply IsS50.set_1)|exact HI0.out))) : g ≠ gb178)); have n7_ := Aside0.mk ((by rw [hg]; exact Nat.ne_of_gt (IsS50.lt (show IsS50 w0 _ g s0_0 s0_1 from by repeat (first|(with_reducible first|exact HI0.out|apply IsS50.alloc|apply IsS50.drewN|apply IsS50.drew|apply IsS50.set_1)|exact HI0.out))) : gb178 ≠ g)); clear HI0 HK HB; have HI0 := n0_; have HK := n1_; have HB := n2_; have BK178 := n3_; have GW178 := n4_; have GE178 := n5_; have NB0_178 := n6_; have NB178_0 := n7_; clear n0_ n1_ n2_ n3_ n4_ n5_ n6_ n7_ hb hbox hg)|((with_reducible refine gate_callee (f := 11) rfl ?_); refine goesL_ (some 40) rfl rfl Tryz.func11 (by kernel_rfl) rfl #[.pointer (some ⟨g,0,none⟩),.int .i64 5] rfl (by (try simp only [List.map_toArray,List.map_cons,List.map_nil]); first|done|rfl|(simp only [List.length_drop,List.length_take]; rfl)) ?_;(with_reducible refine (flagstonedraw_Codes_Next.calls g s0_0 s0_1 5 t192 t193 w0 _ ?side1 ?side2 A34.out).mono ?_);(case side1=>repeat (first|(with_reducible first|exact HI0.out|apply IsS50.alloc|apply IsS50.drewN|apply IsS50.drew|apply IsS50.set_1|refine IsS50.far ?_ NB0_178.out _)|exact HI0.out));(case side2=>repeat (first|(with_reducible first|exact HB.out|apply zE|apply zB|apply zC|refine zJ ?_ (IsS50.ge HI0.out)|refine zJ ?_ GE178.out)|exact HB.out)); rintro e w39 ⟨rfl,hi,hb,hk⟩; refine ⟨_,rfl,?_⟩; have n0_ := Aside0.mk (KeepBut.blk hk (g' := gb178) (o := .cells #[.int .i64 0,.int .i64 0,.string (⟨#[]⟩ : ByteArray),.slice none 0 0] 24 (0,0)) (by (with_reducible repeat (first|refine zN ?_ _|refine zD ?_|refine zA ?_ _)); exact BK178.out) NB178_0.out (by simp)); have n1_ := Aside0.mk (KeepBut.trans (by repeat (first|(with_reducible first|exact HK.out|apply KeepBut.set_|apply zF|apply zG|apply zH|refine zI ?_ GW178.out _)|exact HK.out)) hk (.inl rfl)); have n2_ := Aside0.mk (hb); have n3_ := Aside0.mk (hi); clear BK178 HK HB HI0; have BK178 := n0_; have HK := n1_; have HB := n2_; have HI0 := n3_; clear n0_ n1_ n2_ n3_;(try clear hb);(try clear hb2);(try clear hk);(try clear hi);(try clear hge); have p194 : 0 ≤ (t192 : Int) := of_decide_eq_true (by first|(with_reducible assumption)|assumption); have q194 : t192 < (listsL.length : Int):=(by have h_ : (t192 : Int) < (5 : Int) := of_decide_eq_true (by first|(with_reducible assumption)|assumption); have e_ : listsL.length = 5 := rfl; omega); have ql194 : ((t192 : Int) < (5 : Int)) = True := eq_true (of_decide_eq_true (by first|(with_reducible assumption)|assumption)); obtain ⟨ad194,A194_0,c194_0,e194,hx194_0,hl194_0,hi194_0⟩ := at_L4 (Kd.C_foot_now HRG2.out HK.out) t192 p194 q194; obtain rfl : (⟨2,0,none⟩ : Addr) = ad194:=(by injection e194);(first|simp only [add_plain] at hx194_0|simp only [add_at] at hx194_0|simp only [Addr.add,Nat.zero_add] at hx194_0|skip); have HR194_0 := Aside0.mk hi194_0; have HC194_0 := Aside0.mk hl194_0; clear hi194_0 hl194_0; replace p194 := eq_true p194; replace q194 := eq_true q194)|((with_reducible refine gate_builtin (b := .append) (xs := #[.const (.slice none 0 0),.tmp 42]) rfl ?_); at_builtin; refine Kd.R_append_rows Kd.string w.heap.size rfl (.const (.slice none 0 0)) (.tmp 42) 22 9 (.string ⟨#[]⟩) 16 rfl Tryz.underlying22 info9 rfl (by decide) (by omega) (.slice none 0 0) ([] : List ByteArray) (rd_L4 listsL t192) _ _ _ (fun _=>True) (fun _=>False) rfl rfl ?aO ?aR (fun _ _ h=>h) (fun _ h=>h.elim) ?aF (Below.refl _ _) ?aS ?aL ?_;(case aR=>repeat (first|exact (by repeat (first|(with_reducible exact HR194_0.out)|(with_reducible refine Kd.C_alloc ?_ _)|(with_reducible refine Kd.C_drewN ?_ _)|(with_reducible refine Kd.C_drew ?_)|exact HR194_0.out))|(with_reducible refine Kd.C_alloc ?_ _)|(with_reducible refine Kd.C_drewN ?_ _)|(with_reducible refine Kd.C_drew ?_)));(case aF=>exact (fun _ _=>trivial));(case aO=>exact ((Kd.R_nil _ _ _ _ (fun _=>True))));(case aS=>exact (keep_size (w := w) (g := g) (row := none) (by repeat (first|(with_reducible first|exact HK.out|apply KeepBut.set_|apply zF|apply zG|apply zH|refine zI ?_ GW178.out _)|exact HK.out))));(case aL=>have := LMc37.out; omega); intro v196 w40 ho hb hg hat; rw [← Ny195.out] at ho; have n0_ := Aside0.mk (IsS50.grown (by repeat (first|(with_reducible first|exact HI0.out|apply IsS50.alloc|apply IsS50.drewN|apply IsS50.drew|apply IsS50.set_1|refine IsS50.far ?_ NB0_178.out _)|exact HI0.out)) hg (by simp [Value.ownBlock])); have n1_ := Aside0.mk (blk_grown (g := gb178) (o := .cells #[.int .i64 0,.int .i64 0,.string (⟨#[]⟩ : ByteArray),.slice none 0 0] 24 (0,0)) (by (with_reducible repeat (first|refine zN ?_ _|refine zD ?_|refine zA ?_ _)); exact BK178.out) hg (by simp [Value.ownBlock])); have n2_ := Aside0.mk (below_weaken (by repeat (first|(with_reducible first|exact HB.out|apply zE|apply zB|apply zC|refine zJ ?_ (IsS50.ge HI0.out)|refine zJ ?_ GE178.out)|exact HB.out)) HL.out hb); have n3_ := Aside0.mk (KeepBut.trans (by repeat (first|(with_reducible first|exact HK.out|apply KeepBut.set_|apply zF|apply zG|apply zH|refine zI ?_ GW178.out _)|exact HK.out)) (KeepBut.of_grown hg g) (.inl (by simp [Value.ownBlock]))); have n4_ := Aside0.mk (ho); clear HI0 BK178 HB HK; have HI0 := n0_; have BK178 := n1_; have HB := n2_; have HK := n3_; have HO197 := n4_; clear n0_ n1_ n2_ n3_ n4_ ho hb hg hat; obtain ⟨Ao41,co41,eo41⟩ := Kd.R_slice HO197.out; subst eo41; have hnb42 := NB178_0.out; have hnc42 := NB0_178.out; have hcz43_0 : w40.cell? ⟨gb178,0,none⟩ = some (.int .i64 0):=(blk_cell BK178.out 0).trans rfl; have hcz43_1 : w40.cell? ⟨gb178,1,none⟩ = some (.int .i64 0):=(blk_cell BK178.out 1).trans rfl; have hcz43_2 : w40.cell? ⟨gb178,2,none⟩ = some (.string (⟨#[]⟩ : ByteArray)):=(blk_cell BK178.out 2).trans rfl; have hcz43_3 : w40.cell? ⟨gb178,3,none⟩ = some (.slice none 0 0):=(blk_cell BK178.out 3).trans rfl; have hfz43_0 := blk_frozen BK178.out 0; have hfz43_1 := blk_frozen BK178.out 1; have hfz43_2 := blk_frozen BK178.out 2; have hfz43_3 := blk_frozen BK178.out 3))
        refine bodyPost_ret (results_cell_row rfl _ _ gb178 24 #[.int .i64 5,.int .i64 0,.string (⟨#[]⟩ : ByteArray),.slice Ao41 y195.length co41] (0,0) _ rfl (by (with_reducible repeat (first|refine zN ?_ _|refine zD ?_|refine zA ?_ _)); refine blk_put (cs := #[.int .i64 5,.int .i64 0,.string (⟨#[]⟩ : ByteArray),.slice none 0 0]) ?_ 3 _ rfl;(with_reducible repeat (first|refine zN ?_ _|refine zD ?_|refine zA ?_ _)); refine blk_put (cs := #[.int .i64 5,.int .i64 0,.string (⟨#[]⟩ : ByteArray),.slice none 0 0]) ?_ 2 _ rfl;(with_reducible repeat (first|refine zN ?_ _|refine zD ?_|refine zA ?_ _)); refine blk_put (cs := #[.int .i64 5,.int .i64 0,.string (⟨#[]⟩ : ByteArray),.slice none 0 0]) ?_ 1 _ rfl;(with_reducible repeat (first|refine zN ?_ _|refine zD ?_|refine zA ?_ _)); refine blk_put (cs := #[.int .i64 0,.int .i64 0,.string (⟨#[]⟩ : ByteArray),.slice none 0 0]) ?_ 0 _ rfl;(with_reducible repeat (first|refine zN ?_ _|refine zD ?_|refine zA ?_ _)); exact BK178.out) Tryz.underlying24 rfl (by kernel_rfl)) rfl ?_
        exact ⟨_,by first|rfl|(simp [errW_none,errW_some]<;>rfl)|(simp [*,errW_none,errW_some]<;>rfl),by (with_reducible repeat (first|apply Kd.R_alloc|apply Kd.R_drewN|apply Kd.R_drew)); exact Kd.R_mono (Kd.R_far (p:=⟨gb178,3,none⟩) (Kd.R_far (p:=⟨gb178,2,none⟩) (Kd.R_far (p:=⟨gb178,1,none⟩) (Kd.R_far (p:=⟨gb178,0,none⟩) (Kd.R_types HO197.out BK178.out (by decide)) (fun _ hk=>hk.2) (.int .i64 5)) (fun _ hk=>hk.2) (.int .i64 0)) (fun _ hk=>hk.2) (.string (⟨#[]⟩ : ByteArray))) (fun _ hk=>hk.2) (.slice Ao41 y195.length co41)) (fun _ hk=>trivial),by repeat (first|(with_reducible first|exact HI0.out|apply IsS50.alloc|apply IsS50.drewN|apply IsS50.drew|apply IsS50.set_1|refine IsS50.far ?_ NB0_178.out _)|exact HI0.out),by repeat (first|(with_reducible first|exact HB.out|apply zE|apply zB|apply zC|refine zJ ?_ (IsS50.ge HI0.out)|refine zJ ?_ GE178.out)|exact HB.out),by repeat (first|(with_reducible first|exact HK.out|apply KeepBut.set_|apply zF|apply zG|apply zH|refine zI ?_ GW178.out _)|exact HK.out)⟩
       ·rw [if_neg c37] at H
        exact absurd H (by simp)
      ·rw [if_neg c36] at H
       exact absurd H (by simp)
     ·rw [if_neg c35] at H
      exact absurd H (by simp)

/-! ### flagstonedraw_Codes_Any: function 10 -/
def flagstonedraw_Codes_Any.f (s0_0 : List Int) (s0_1 : Int) : Option (Int × Int × ByteArray × List ByteArray × Int) := (flagstonedraw_Codes_Next.f s0_0 s0_1 5).bind fun bt199 => ((flagstonedraw_Codes_Value.f s0_0 bt199.2 (wrap64 (1 + bt199.1))).bind fun bt201 => (some (bt201.1, bt201.2.1, bt201.2.2.1, bt201.2.2.2.1, bt201.2.2.2.2)))
set_option maxHeartbeats 8000000 in
set_option maxRecDepth 100000 in
theorem flagstonedraw_Codes_Any.calls (g : Nat) (s0_0 : List Int) (s0_1 : Int) (r1 : Int) (r2 : Int) (r3 : ByteArray) (r4 : List ByteArray) (r5 : Int) (w0 w : World) (hI : IsS50 w0 w g s0_0 s0_1) (hB : Below w0.heap.size w0 w) (hGL : GL w0) (h : flagstonedraw_Codes_Any.f s0_0 s0_1 = some (r1, r2, r3, r4, r5)) :
  Calls Tryz.prog 10 #[.pointer (some ⟨g,0,none⟩)] w fun e w'=>∃ v3_ : Value,e = .returned (.agg #[.int .i64 r1,.int .i64 r2,.string r3,v3_]) ∧ Kd.R Kd.string 9 w' w.heap.size (fun _=>True) v3_ r4 ∧ IsS50 w0 w' g s0_0 r5 ∧ Below w0.heap.size w0 w' ∧ KeepBut w w' g none := by
 have hu24 := Tryz.underlying24; have HGL := Aside0.mk hGL; clear hGL; have HI0 := Aside0.mk hI
 have HK := Aside0.mk (KeepBut.refl w g none)
 have HL := Aside0.mk hB.size; clear hI; have HW0 := Aside0.mk hB.size; have HB := Aside0.mk hB; clear hB
 have H : ((flagstonedraw_Codes_Next.f s0_0 s0_1 5).bind fun bt199=>((flagstonedraw_Codes_Value.f s0_0 bt199.2 (wrap64 (1 + bt199.1))).bind fun bt201=>(some (bt201.1,bt201.2.1,bt201.2.2.1,bt201.2.2.2.1,bt201.2.2.2.2)))) = some (r1,r2,r3,r4,r5) := h
 clear h; replace H := Option.bind_eq_some_iff.mp H
 obtain ⟨⟨t199,t200⟩,A20,H⟩ := H
 replace H : ((flagstonedraw_Codes_Value.f s0_0 t200 (wrap64 (1 + t199))).bind fun bt201=>(some (bt201.1,bt201.2.1,bt201.2.2.1,bt201.2.2.2.1,bt201.2.2.2.2))) = some (r1,r2,r3,r4,r5) := H
 have A2 := Aside0.mk A20; clear A20; replace H := Option.bind_eq_some_iff.mp H
 obtain ⟨⟨t201,t202,t203,t204,t207⟩,A30,H⟩ := H
 replace H : (some (t201,t202,t203,t204,t207)) = some (r1,r2,r3,r4,r5) := H
 have A3 := Aside0.mk A30; clear A30
 simp only [Option.some.injEq,Prod.mk.injEq] at H
 obtain ⟨rfl,rfl,rfl,rfl,rfl⟩ := H
 go_enter Tryz.func10,Tryz.ntmps10
 go_wp2_with (first|((with_reducible refine gate_dst (N := 2) rfl ?_); refine box_event ?hg (N := 2) ?hd (cs := #[.int .i64 0,.int .i64 0,.string (⟨#[]⟩ : ByteArray),.slice none 0 0]) (t := 24) ?hr ?_;(case hd=>rfl);(case hg=>rfl);(case hr=>first|(go_simp; done)|(go_simp; rfl)); intro gb198 hg w4 hbox hb; have n0_ := Aside0.mk (IsS50.below (by repeat (first|(with_reducible first|exact HI0.out|apply IsS50.alloc|apply IsS50.drewN|apply IsS50.drew|apply IsS50.set_1)|exact HI0.out)) hb); have n1_ := Aside0.mk (KeepBut.trans (by repeat (first|(with_reducible first|exact HK.out|apply KeepBut.set_|apply zF|apply zG|apply zH)|exact HK.out)) (KeepBut.of_below hb g none) (.inl rfl)); have n2_ := Aside0.mk (below_step (by repeat (first|(with_reducible first|exact HB.out|apply zE|apply zB|apply zC|refine zJ ?_ (IsS50.ge HI0.out))|exact HB.out)) hb); have n3_ := Aside0.mk (hbox); have n4_ := Aside0.mk ((by rw [hg]; exact (keep_size (w := w) (g := g) (row := none) (by repeat (first|(with_reducible first|exact HK.out|apply KeepBut.set_|apply zF|apply zG|apply zH)|exact HK.out))) : w.heap.size ≤ gb198)); have n5_ := Aside0.mk ((Nat.le_trans HW0.out (by rw [hg]; exact (keep_size (w := w) (g := g) (row := none) (by repeat (first|(with_reducible first|exact HK.out|apply KeepBut.set_|apply zF|apply zG|apply zH)|exact HK.out))) : w.heap.size ≤ gb198) : w0.heap.size ≤ gb198)); have n6_ := Aside0.mk ((by rw [hg]; exact Nat.ne_of_lt (IsS50.lt (show IsS50 w0 _ g s0_0 s0_1 from by repeat (first|(with_reducible first|exact HI0.out|apply IsS50.alloc|apply IsS50.drewN|apply IsS50.drew|apply IsS50.set_1)|exact HI0.out))) : g ≠ gb198)); have n7_ := Aside0.mk ((by rw [hg]; exact Nat.ne_of_gt (IsS50.lt (show IsS50 w0 _ g s0_0 s0_1 from by repeat (first|(with_reducible first|exact HI0.out|apply IsS50.alloc|apply IsS50.drewN|apply IsS50.drew|apply IsS50.set_1)|exact HI0.out))) : gb198 ≠ g)); clear HI0 HK HB; have HI0 := n0_; have HK := n1_; have HB := n2_; have BK198 := n3_; have GW198 := n4_; have GE198 := n5_; have NB0_198 := n6_; have NB198_0 := n7_; clear n0_ n1_ n2_ n3_ n4_ n5_ n6_ n7_ hb hbox hg)|((with_reducible refine gate_callee (f := 11) rfl ?_); refine goesL_ (some 5) rfl rfl Tryz.func11 (by kernel_rfl) rfl #[.pointer (some ⟨g,0,none⟩),.int .i64 5] rfl (by (try simp only [List.map_toArray,List.map_cons,List.map_nil]); first|done|rfl|(simp only [List.length_drop,List.length_take]; rfl)) ?_;(with_reducible refine (flagstonedraw_Codes_Next.calls g s0_0 s0_1 5 t199 t200 w0 _ ?side1 ?side2 A2.out).mono ?_);(case side1=>repeat (first|(with_reducible first|exact HI0.out|apply IsS50.alloc|apply IsS50.drewN|apply IsS50.drew|apply IsS50.set_1|refine IsS50.far ?_ NB0_198.out _)|exact HI0.out));(case side2=>repeat (first|(with_reducible first|exact HB.out|apply zE|apply zB|apply zC|refine zJ ?_ (IsS50.ge HI0.out)|refine zJ ?_ GE198.out)|exact HB.out)); rintro e w5 ⟨rfl,hi,hb,hk⟩; refine ⟨_,rfl,?_⟩; have n0_ := Aside0.mk (KeepBut.blk hk (g' := gb198) (o := .cells #[.int .i64 0,.int .i64 0,.string (⟨#[]⟩ : ByteArray),.slice none 0 0] 24 (0,0)) (by (with_reducible repeat (first|refine zN ?_ _|refine zD ?_|refine zA ?_ _)); exact BK198.out) NB198_0.out (by simp)); have n1_ := Aside0.mk (KeepBut.trans (by repeat (first|(with_reducible first|exact HK.out|apply KeepBut.set_|apply zF|apply zG|apply zH|refine zI ?_ GW198.out _)|exact HK.out)) hk (.inl rfl)); have n2_ := Aside0.mk (hb); have n3_ := Aside0.mk (hi); clear BK198 HK HB HI0; have BK198 := n0_; have HK := n1_; have HB := n2_; have HI0 := n3_; clear n0_ n1_ n2_ n3_;(try clear hb);(try clear hb2);(try clear hk);(try clear hi);(try clear hge))|((with_reducible refine gate_callee (f := 22) rfl ?_); refine goesL_ (some 7) rfl rfl Tryz.func22 (by kernel_rfl) rfl #[.pointer (some ⟨g,0,none⟩),.int .i64 (wrap64 (1 + t199))] rfl (by (try simp only [List.map_toArray,List.map_cons,List.map_nil]); first|done|rfl|(simp only [List.length_drop,List.length_take]; rfl)) ?_;(with_reducible refine (flagstonedraw_Codes_Value.calls g s0_0 t200 (wrap64 (1 + t199)) t201 t202 t203 t204 t207 w0 _ ?side1 ?side2 ?side3 A3.out).mono ?_);(case side1=>repeat (first|(with_reducible first|exact HI0.out|apply IsS50.alloc|apply IsS50.drewN|apply IsS50.drew|apply IsS50.set_1|refine IsS50.far ?_ NB0_198.out _)|exact HI0.out));(case side2=>repeat (first|(with_reducible first|exact HB.out|apply zE|apply zB|apply zC|refine zJ ?_ (IsS50.ge HI0.out)|refine zJ ?_ GE198.out)|exact HB.out));(case side3=>exact HGL.out); rintro e w6 ⟨v205,rfl,ho0,hi,hb,hk⟩; refine ⟨_,rfl,?_⟩; have n0_ := Aside0.mk (KeepBut.blk hk (g' := gb198) (o := .cells #[.int .i64 0,.int .i64 0,.string (⟨#[]⟩ : ByteArray),.slice none 0 0] 24 (0,0)) (by (with_reducible repeat (first|refine zN ?_ _|refine zD ?_|refine zA ?_ _)); exact BK198.out) NB198_0.out (by simp)); have n1_ := Aside0.mk (Kd.R_lower ho0 (keep_size (w := w) (g := g) (row := none) (by repeat (first|(with_reducible first|exact HK.out|apply KeepBut.set_|apply zF|apply zG|apply zH|refine zI ?_ GW198.out _)|exact HK.out)))); have n2_ := Aside0.mk (KeepBut.trans (by repeat (first|(with_reducible first|exact HK.out|apply KeepBut.set_|apply zF|apply zG|apply zH|refine zI ?_ GW198.out _)|exact HK.out)) hk (.inl rfl)); have n3_ := Aside0.mk (hb); have n4_ := Aside0.mk (hi); clear BK198 HK HB HI0; have BK198 := n0_; have HO206 := n1_; have HK := n2_; have HB := n3_; have HI0 := n4_; clear n0_ n1_ n2_ n3_ n4_;(try clear hb);(try clear hb2);(try clear hk);(try clear hi);(try clear hge);(try clear ho0); have hnb7 := NB198_0.out; have hnc7 := NB0_198.out; have hcz8_0 : w6.cell? ⟨gb198,0,none⟩ = some (.int .i64 0):=(blk_cell BK198.out 0).trans rfl; have hcz8_1 : w6.cell? ⟨gb198,1,none⟩ = some (.int .i64 0):=(blk_cell BK198.out 1).trans rfl; have hcz8_2 : w6.cell? ⟨gb198,2,none⟩ = some (.string (⟨#[]⟩ : ByteArray)):=(blk_cell BK198.out 2).trans rfl; have hcz8_3 : w6.cell? ⟨gb198,3,none⟩ = some (.slice none 0 0):=(blk_cell BK198.out 3).trans rfl; have hfz8_0 := blk_frozen BK198.out 0; have hfz8_1 := blk_frozen BK198.out 1; have hfz8_2 := blk_frozen BK198.out 2; have hfz8_3 := blk_frozen BK198.out 3; obtain ⟨Ao9,co9,eo9⟩ := Kd.R_slice HO206.out; subst eo9))
 refine bodyPost_ret (results_cell_row rfl _ _ gb198 24 #[.int .i64 t201,.int .i64 t202,.string t203,.slice Ao9 t204.length co9] (0,0) _ rfl (by (with_reducible repeat (first|refine zN ?_ _|refine zD ?_|refine zA ?_ _)); refine blk_put (cs := #[.int .i64 t201,.int .i64 t202,.string t203,.slice none 0 0]) ?_ 3 _ rfl;(with_reducible repeat (first|refine zN ?_ _|refine zD ?_|refine zA ?_ _)); refine blk_put (cs := #[.int .i64 t201,.int .i64 t202,.string (⟨#[]⟩ : ByteArray),.slice none 0 0]) ?_ 2 _ rfl;(with_reducible repeat (first|refine zN ?_ _|refine zD ?_|refine zA ?_ _)); refine blk_put (cs := #[.int .i64 t201,.int .i64 0,.string (⟨#[]⟩ : ByteArray),.slice none 0 0]) ?_ 1 _ rfl;(with_reducible repeat (first|refine zN ?_ _|refine zD ?_|refine zA ?_ _)); refine blk_put (cs := #[.int .i64 0,.int .i64 0,.string (⟨#[]⟩ : ByteArray),.slice none 0 0]) ?_ 0 _ rfl;(with_reducible repeat (first|refine zN ?_ _|refine zD ?_|refine zA ?_ _)); exact BK198.out) Tryz.underlying24 rfl (by kernel_rfl)) rfl ?_
 exact ⟨_,by first|rfl|(simp [errW_none,errW_some]<;>rfl)|(simp [*,errW_none,errW_some]<;>rfl),by (with_reducible repeat (first|apply Kd.R_alloc|apply Kd.R_drewN|apply Kd.R_drew)); exact Kd.R_mono (Kd.R_far (p:=⟨gb198,3,none⟩) (Kd.R_far (p:=⟨gb198,2,none⟩) (Kd.R_far (p:=⟨gb198,1,none⟩) (Kd.R_far (p:=⟨gb198,0,none⟩) (Kd.R_types HO206.out BK198.out (by decide)) (fun _ hk=>hk.2) (.int .i64 t201)) (fun _ hk=>hk.2) (.int .i64 t202)) (fun _ hk=>hk.2) (.string t203)) (fun _ hk=>hk.2) (.slice Ao9 t204.length co9)) (fun _ hk=>trivial),by repeat (first|(with_reducible first|exact HI0.out|apply IsS50.alloc|apply IsS50.drewN|apply IsS50.drew|apply IsS50.set_1|refine IsS50.far ?_ NB0_198.out _)|exact HI0.out),by repeat (first|(with_reducible first|exact HB.out|apply zE|apply zB|apply zC|refine zJ ?_ (IsS50.ge HI0.out)|refine zJ ?_ GE198.out)|exact HB.out),by repeat (first|(with_reducible first|exact HK.out|apply KeepBut.set_|apply zF|apply zG|apply zH|refine zI ?_ GW198.out _)|exact HK.out)⟩

/-! ### flagstoneref1_Same: function 40 -/
def flagstoneref1_Same.l0 : Nat → List ByteArray → List ByteArray → Int → Option (Bool)
 | 0,_,_,_=>none
 | k + 1,x0,x1,x5=>if x5 < (x0.length : Int) then (if 0 ≤ x5 then (if x5 < (x1.length : Int) then (if (rdOf ByteArray.empty x0 x5).toList = (rdOf ByteArray.empty x1 x5).toList then (flagstoneref1_Same.l0 k x0 x1 (wrap64 (x5 + 1))) else (some false)) else (none)) else (none)) else (some true)
def flagstoneref1_Same.f (k : Nat) (l0 : List ByteArray) (l1 : List ByteArray) : Option (Bool) := if (l0.length : Int) = (l1.length : Int) then (flagstoneref1_Same.l0 k l0 l1 0) else (some false)
theorem flagstoneref1_Same.mono_l : ∀ k, (∀ y0 y1 y2, LeO (flagstoneref1_Same.l0 k y0 y1 y2) (flagstoneref1_Same.l0 (k + 1) y0 y1 y2))
 | 0=>fun _ _ _ r h=>by simp [flagstoneref1_Same.l0] at h
 | k + 1=>by
  have ih0 := flagstoneref1_Same.mono_l k
  ·intro y0 y1 y2
   unfold flagstoneref1_Same.l0
   repeat' first
   | (with_reducible exact ih0 _ _ _)
   | (with_reducible exact LeO.refl _)
   | (with_reducible exact LeO.none _)
   | (with_reducible refine LeO.ite ?_ ?_)
   | (with_reducible refine LeO.bind ?_ (fun _=>?_))
   | exact ih0 _ _ _
   | exact LeO.none _
   | refine LeO.ite ?_ ?_
   | refine LeO.bind ?_ (fun _=>?_)
theorem flagstoneref1_Same.mono : ∀ a0 a1 k, LeO (flagstoneref1_Same.f k a0 a1) (flagstoneref1_Same.f (k + 1) a0 a1) := by
 intro a0 a1 k
 have ih0 := flagstoneref1_Same.mono_l k
 unfold flagstoneref1_Same.f
 repeat' first
   | (with_reducible exact ih0 _ _ _)
   | (with_reducible exact LeO.refl _)
   | (with_reducible exact LeO.none _)
   | (with_reducible refine LeO.ite ?_ ?_)
   | (with_reducible refine LeO.bind ?_ (fun _=>?_))
   | exact ih0 _ _ _
   | exact LeO.none _
   | refine LeO.ite ?_ ?_
   | refine LeO.bind ?_ (fun _=>?_)
set_option maxHeartbeats 8000000 in
set_option maxRecDepth 100000 in
theorem flagstoneref1_Same.calls (k : Nat) (A0 : Option Addr) (c0 : Nat) (l0 : List ByteArray) (A1 : Option Addr) (c1 : Nat) (l1 : List ByteArray) (r : Bool) (w : World) (hr0 : Kd.C Kd.string w A0 l0.length l0) (hc0 : l0.length ≤ c0) (hr1 : Kd.C Kd.string w A1 l1.length l1) (hc1 : l1.length ≤ c1) (h : flagstoneref1_Same.f k l0 l1 = some r) :
  Calls Tryz.prog 40 #[.slice A0 l0.length c0,.slice A1 l1.length c1] w fun e w'=>e = .returned (.bool r) ∧ Drawn0 w w' := by
 have HR0 := Aside0.mk hr0; have HC0 := Aside0.mk hc0; clear hr0 hc0; have HR1 := Aside0.mk hr1; have HC1 := Aside0.mk hc1; clear hr1 hc1
 have H : (if (l0.length : Int) = (l1.length : Int) then (flagstoneref1_Same.l0 k l0 l1 0) else (some false)) = some r := h
 clear h
 by_cases c3 : (l0.length : Int) = (l1.length : Int)
 ·rw [if_pos c3] at H
  have c3b0 : ((l0.length : Int) == (l1.length : Int)) = true := beq_iff_eq.mpr c3
  have c3b1 : ((l0.length : Int) != (l1.length : Int)) = false := bne_eq_false_iff_eq.mpr c3
  have c3b2 : (l0.length == l1.length) = true := by first|simpa using c3|(simp at c3 ⊢; omega)
  clear c3; have H' := Aside0.mk H; clear H
  go_enter Tryz.func40,Tryz.ntmps40
  go_wp2
  repeat (go_quiet (fail); try go_wp2)
  go_loopg [5] k (fun kq v5 w'=>∃ (x5_1 : Int),v5 = .int .i64 x5_1 ∧ Aside0 (flagstoneref1_Same.l0 kq l0 l1 x5_1 = some r) ∧ Aside0 (kq ≤ k) ∧ Drawn0 w w')
  case atStart=>exact ⟨(0),(by first|rfl|(simp; done)|(simp [*]; done)),H',⟨Nat.le_refl _⟩,by repeat (first|exact Drawn0.refl _|apply Drawn0.step)⟩
  case round =>
   clear H';(try clear c1);(try clear p2);(try clear c3);(try clear c3b0);(try clear c3b1);(try clear c3b2)
   obtain ⟨x5_1,rfl,HA,HK1,⟨m1,rfl⟩⟩ := hrel
   cases gk with
   | zero=>exact absurd HA.out (by simp [flagstoneref1_Same.l0])
   | succ k1 =>
    have H := HA.out; clear HA
    simp only [flagstoneref1_Same.l0] at H
    by_cases c4 : x5_1 < (l0.length : Int)
    ·rw [if_pos c4] at H
     have c4b0 : decide (x5_1 < (l0.length : Int)) = true := decide_eq_true c4
     clear c4
     by_cases c5 : 0 ≤ x5_1
     ·rw [if_pos c5] at H
      have c5b0 : decide (0 ≤ x5_1) = true := decide_eq_true c5
      clear c5
      by_cases c6 : x5_1 < (l1.length : Int)
      ·rw [if_pos c6] at H
       have c6b0 : decide (x5_1 < (l1.length : Int)) = true := decide_eq_true c6
       clear c6
       by_cases c7 : (rdOf ByteArray.empty l0 x5_1).toList = (rdOf ByteArray.empty l1 x5_1).toList
       ·rw [if_pos c7] at H
        have c7b0 : ((rdOf ByteArray.empty l0 x5_1).toList == (rdOf ByteArray.empty l1 x5_1).toList) = true := beq_iff_eq.mpr c7
        have c7b1 : ((rdOf ByteArray.empty l0 x5_1).toList != (rdOf ByteArray.empty l1 x5_1).toList) = false := bne_eq_false_iff_eq.mpr c7
        clear c7; have H' := Aside0.mk H; clear H
        have p208 : 0 ≤ (x5_1 : Int) := of_decide_eq_true (by first|(with_reducible assumption)|assumption)
        have q208 : x5_1 < (l0.length : Int) := of_decide_eq_true (by first|(with_reducible assumption)|assumption)
        obtain ⟨ad208,e208,hx208_0⟩ := Kd.at_string HR0.out x5_1 p208 q208
        cases e208
        replace p208 := eq_true p208
        replace q208 := eq_true q208
        have p209 : 0 ≤ (x5_1 : Int) := of_decide_eq_true (by first|(with_reducible assumption)|assumption)
        have q209 : x5_1 < (l1.length : Int) := of_decide_eq_true (by first|(with_reducible assumption)|assumption)
        obtain ⟨ad209,e209,hx209_0⟩ := Kd.at_string HR1.out x5_1 p209 q209
        cases e209
        replace p209 := eq_true p209
        replace q209 := eq_true q209
        go_wp2
        repeat (go_quiet (fail); try go_wp2)
        go_roundg k1
        case measure=>have := HK1.out; omega
        case rel=>exact ⟨(wrap64 (x5_1 + 1)),(by first|rfl|(simp; done)|(simp [*]; done)),H',⟨by have := HK1.out; omega⟩,by repeat (first|exact Drawn0.refl _|apply Drawn0.step)⟩
       ·rw [if_neg c7] at H
        have c7b0 : ((rdOf ByteArray.empty l0 x5_1).toList == (rdOf ByteArray.empty l1 x5_1).toList) = false := beq_eq_false_iff_ne.mpr c7
        have c7b1 : ((rdOf ByteArray.empty l0 x5_1).toList != (rdOf ByteArray.empty l1 x5_1).toList) = true := bne_iff_ne.mpr c7
        obtain rfl := Option.some.inj H
        have p208 : 0 ≤ (x5_1 : Int) := of_decide_eq_true (by first|(with_reducible assumption)|assumption)
        have q208 : x5_1 < (l0.length : Int) := of_decide_eq_true (by first|(with_reducible assumption)|assumption)
        obtain ⟨ad208,e208,hx208_0⟩ := Kd.at_string HR0.out x5_1 p208 q208
        cases e208
        replace p208 := eq_true p208
        replace q208 := eq_true q208
        have p209 : 0 ≤ (x5_1 : Int) := of_decide_eq_true (by first|(with_reducible assumption)|assumption)
        have q209 : x5_1 < (l1.length : Int) := of_decide_eq_true (by first|(with_reducible assumption)|assumption)
        obtain ⟨ad209,e209,hx209_0⟩ := Kd.at_string HR1.out x5_1 p209 q209
        cases e209
        replace p209 := eq_true p209
        replace q209 := eq_true q209
        go_wp2
        repeat (go_quiet (fail); try go_wp2)
        go_ret
        exact ⟨by first|rfl|(simp; done)|(simp [*]; done),by repeat (first|exact Drawn0.refl _|apply Drawn0.step)⟩
      ·rw [if_neg c6] at H
       exact absurd H (by simp)
     ·rw [if_neg c5] at H
      exact absurd H (by simp)
    ·rw [if_neg c4] at H
     have c4b0 : decide (x5_1 < (l0.length : Int)) = false := decide_eq_false c4
     clear c4
     obtain rfl := Option.some.inj H
     go_wp2
     repeat (go_quiet (fail); try go_wp2)
     go_ret
     exact ⟨by first|rfl|(simp; done)|(simp [*]; done),by repeat (first|exact Drawn0.refl _|apply Drawn0.step)⟩
 ·rw [if_neg c3] at H
  have c3b0 : ((l0.length : Int) == (l1.length : Int)) = false := beq_eq_false_iff_ne.mpr c3
  have c3b1 : ((l0.length : Int) != (l1.length : Int)) = true := bne_iff_ne.mpr c3
  have c3b2 : (l0.length == l1.length) = false := by first|simpa using c3|(simp at c3 ⊢; omega)
  obtain rfl := Option.some.inj H
  go_enter Tryz.func40,Tryz.ntmps40
  go_wp2
  repeat (go_quiet (fail); try go_wp2)
  go_ret
  exact ⟨by first|rfl|(simp; done)|(simp [*]; done),by repeat (first|exact Drawn0.refl _|apply Drawn0.step)⟩

/-! ### flagstoneref3_Equal: function 19 -/
def flagstoneref3_Equal.f (k : Nat) (a0_0 : Int) (a0_1 : Int) (a0_2 : ByteArray) (l0_3 : List ByteArray) (a1_0 : Int) (a1_1 : Int) (a1_2 : ByteArray) (l1_3 : List ByteArray) : Option (Bool) := if a0_0 = a1_0 then (if a0_1 = a1_1 then (if a0_2.toList = a1_2.toList then ((flagstoneref1_Same.f k l0_3 l1_3).bind fun t212 => (some t212)) else (some false)) else (some false)) else (some false)
theorem flagstoneref3_Equal.mono : ∀ a0 a1 a2 a3 a4 a5 a6 a7 k, LeO (flagstoneref3_Equal.f k a0 a1 a2 a3 a4 a5 a6 a7) (flagstoneref3_Equal.f (k + 1) a0 a1 a2 a3 a4 a5 a6 a7) := by
 intro a0 a1 a2 a3 a4 a5 a6 a7 k
 unfold flagstoneref3_Equal.f
 repeat' first
   | (with_reducible exact flagstoneref1_Same.mono _ _ _)
   | (with_reducible exact LeO.refl _)
   | (with_reducible exact LeO.none _)
   | (with_reducible refine LeO.ite ?_ ?_)
   | (with_reducible refine LeO.bind ?_ (fun _=>?_))
   | exact flagstoneref1_Same.mono _ _ _
   | exact LeO.none _
   | refine LeO.ite ?_ ?_
   | refine LeO.bind ?_ (fun _=>?_)
set_option maxHeartbeats 8000000 in
set_option maxRecDepth 100000 in
theorem flagstoneref3_Equal.calls (k : Nat) (a0_0 : Int) (a0_1 : Int) (a0_2 : ByteArray) (A0_3 : Option Addr) (c0_3 : Nat) (l0_3 : List ByteArray) (a1_0 : Int) (a1_1 : Int) (a1_2 : ByteArray) (A1_3 : Option Addr) (c1_3 : Nat) (l1_3 : List ByteArray) (r : Bool) (w : World) (hr0_3 : Kd.C Kd.string w A0_3 l0_3.length l0_3) (hc0_3 : l0_3.length ≤ c0_3) (hr1_3 : Kd.C Kd.string w A1_3 l1_3.length l1_3) (hc1_3 : l1_3.length ≤ c1_3) (h : flagstoneref3_Equal.f k a0_0 a0_1 a0_2 l0_3 a1_0 a1_1 a1_2 l1_3 = some r) :
  Calls Tryz.prog 19 #[.agg #[.int .i64 a0_0,.int .i64 a0_1,.string a0_2,.slice A0_3 l0_3.length c0_3],.agg #[.int .i64 a1_0,.int .i64 a1_1,.string a1_2,.slice A1_3 l1_3.length c1_3]] w fun e w'=>e = .returned (.bool r) ∧ Below w.heap.size w w' := by
 have hu24 := Tryz.underlying24; have HR0_3 := Aside0.mk hr0_3; have HC0_3 := Aside0.mk hc0_3; clear hr0_3 hc0_3; have HR1_3 := Aside0.mk hr1_3; have HC1_3 := Aside0.mk hc1_3; clear hr1_3 hc1_3
 have HB := Aside0.mk (Below.refl w.heap.size w)
 have H : (if a0_0 = a1_0 then (if a0_1 = a1_1 then (if a0_2.toList = a1_2.toList then ((flagstoneref1_Same.f k l0_3 l1_3).bind fun t212=>(some t212)) else (some false)) else (some false)) else (some false)) = some r := h
 clear h
 by_cases c3 : a0_0 = a1_0
 ·rw [if_pos c3] at H
  have c3b0 : (a0_0 == a1_0) = true := beq_iff_eq.mpr c3
  have c3b1 : (a0_0 != a1_0) = false := bne_eq_false_iff_eq.mpr c3
  clear c3
  by_cases c4 : a0_1 = a1_1
  ·rw [if_pos c4] at H
   have c4b0 : (a0_1 == a1_1) = true := beq_iff_eq.mpr c4
   have c4b1 : (a0_1 != a1_1) = false := bne_eq_false_iff_eq.mpr c4
   clear c4
   by_cases c5 : a0_2.toList = a1_2.toList
   ·rw [if_pos c5] at H
    have c5b0 : (a0_2.toList == a1_2.toList) = true := beq_iff_eq.mpr c5
    have c5b1 : (a0_2.toList != a1_2.toList) = false := bne_eq_false_iff_eq.mpr c5
    clear c5; replace H := Option.bind_eq_some_iff.mp H; obtain ⟨t212,A60,H⟩ := H
    replace H : (some t212) = some r := H
    have A6 := Aside0.mk A60; clear A60
    obtain rfl := Option.some.inj H
    go_enter Tryz.func19,Tryz.ntmps19
    go_wp2_with (first|((with_reducible refine gate_dst (N := 2) rfl ?_); refine box_event ?hg (N := 2) ?hd (cs := #[.int .i64 a0_0,.int .i64 a0_1,.string a0_2,.slice A0_3 l0_3.length c0_3]) (t := 24) ?hr ?_;(case hd=>rfl);(case hg=>rfl);(case hr=>first|(go_simp; done)|(go_simp; rfl)); intro gb210 hg w7 hbox hb; have n0_ := Aside0.mk (below_step (by repeat (first|(with_reducible first|exact HB.out|apply zE|apply zB|apply zC)|exact HB.out)) hb); have n1_ := Aside0.mk (hbox); have n2_ := Aside0.mk ((by rw [hg]; exact (below_size (by repeat (first|(with_reducible first|exact HB.out|apply zE|apply zB|apply zC)|exact HB.out))) : w.heap.size ≤ gb210)); have n3_ := Aside0.mk ((by rw [hg]; exact (below_size (by repeat (first|(with_reducible first|exact HB.out|apply zE|apply zB|apply zC)|exact HB.out))) : w.heap.size ≤ gb210)); clear HB; have HB := n0_; have BK210 := n1_; have GW210 := n2_; have GE210 := n3_; clear n0_ n1_ n2_ n3_ hb hbox hg)|((with_reducible refine gate_dst (N := 3) rfl ?_); refine box_event ?hg (N := 3) ?hd (cs := #[.int .i64 a1_0,.int .i64 a1_1,.string a1_2,.slice A1_3 l1_3.length c1_3]) (t := 24) ?hr ?_;(case hd=>rfl);(case hg=>rfl);(case hr=>first|(go_simp; done)|(go_simp; rfl)); intro gb211 hg w8 hbox hb; have n0_ := Aside0.mk (blk_below (g := gb210) (o := .cells #[.int .i64 a0_0,.int .i64 a0_1,.string a0_2,.slice A0_3 l0_3.length c0_3] 24 (0,0)) (by (with_reducible repeat (first|refine zN ?_ _|refine zD ?_|refine zA ?_ _)); exact BK210.out) hb); have n1_ := Aside0.mk (below_step (by repeat (first|(with_reducible first|exact HB.out|apply zE|apply zB|apply zC|refine zJ ?_ GE210.out)|exact HB.out)) hb); have n2_ := Aside0.mk (hbox); have n3_ := Aside0.mk ((by rw [hg]; exact (below_size (by repeat (first|(with_reducible first|exact HB.out|apply zE|apply zB|apply zC|refine zJ ?_ GE210.out)|exact HB.out))) : w.heap.size ≤ gb211)); have n4_ := Aside0.mk ((by rw [hg]; exact (below_size (by repeat (first|(with_reducible first|exact HB.out|apply zE|apply zB|apply zC|refine zJ ?_ GE210.out)|exact HB.out))) : w.heap.size ≤ gb211)); have n5_ := Aside0.mk ((by rw [hg]; exact Nat.ne_of_lt (blk_lt (g := gb210) (o := .cells #[.int .i64 a0_0,.int .i64 a0_1,.string a0_2,.slice A0_3 l0_3.length c0_3] 24 (0,0)) (by (with_reducible repeat (first|refine zN ?_ _|refine zD ?_|refine zA ?_ _)); exact BK210.out)) : gb210 ≠ gb211)); have n6_ := Aside0.mk ((by rw [hg]; exact Nat.ne_of_gt (blk_lt (g := gb210) (o := .cells #[.int .i64 a0_0,.int .i64 a0_1,.string a0_2,.slice A0_3 l0_3.length c0_3] 24 (0,0)) (by (with_reducible repeat (first|refine zN ?_ _|refine zD ?_|refine zA ?_ _)); exact BK210.out)) : gb211 ≠ gb210)); clear BK210 HB; have BK210 := n0_; have HB := n1_; have BK211 := n2_; have GW211 := n3_; have GE211 := n4_; have NB210_211 := n5_; have NB211_210 := n6_; clear n0_ n1_ n2_ n3_ n4_ n5_ n6_ hb hbox hg; have hnb9 := NB210_211.out; have hnc9 := NB211_210.out; have hcz10_0 : w8.cell? ⟨gb210,0,none⟩ = some (.int .i64 a0_0):=(blk_cell BK210.out 0).trans rfl; have hcz10_1 : w8.cell? ⟨gb210,1,none⟩ = some (.int .i64 a0_1):=(blk_cell BK210.out 1).trans rfl; have hcz10_2 : w8.cell? ⟨gb210,2,none⟩ = some (.string a0_2):=(blk_cell BK210.out 2).trans rfl; have hcz10_3 : w8.cell? ⟨gb210,3,none⟩ = some (.slice A0_3 l0_3.length c0_3):=(blk_cell BK210.out 3).trans rfl; have hfz10_0 := blk_frozen BK210.out 0; have hfz10_1 := blk_frozen BK210.out 1; have hfz10_2 := blk_frozen BK210.out 2; have hfz10_3 := blk_frozen BK210.out 3; have hcz11_0 : w8.cell? ⟨gb211,0,none⟩ = some (.int .i64 a1_0):=(blk_cell BK211.out 0).trans rfl; have hcz11_1 : w8.cell? ⟨gb211,1,none⟩ = some (.int .i64 a1_1):=(blk_cell BK211.out 1).trans rfl; have hcz11_2 : w8.cell? ⟨gb211,2,none⟩ = some (.string a1_2):=(blk_cell BK211.out 2).trans rfl; have hcz11_3 : w8.cell? ⟨gb211,3,none⟩ = some (.slice A1_3 l1_3.length c1_3):=(blk_cell BK211.out 3).trans rfl; have hfz11_0 := blk_frozen BK211.out 0; have hfz11_1 := blk_frozen BK211.out 1; have hfz11_2 := blk_frozen BK211.out 2; have hfz11_3 := blk_frozen BK211.out 3)|(go_at_call 40;(with_reducible refine (flagstoneref1_Same.calls k _ _ l0_3 _ _ l1_3 t212 _ ?side1 ?side2 ?side3 ?side4 A6.out).mono ?_);(case side1=>repeat (first|exact (Kd.C_below HR0_3.out HB.out)|(with_reducible refine Kd.C_alloc ?_ _)|(with_reducible refine Kd.C_drewN ?_ _)|(with_reducible refine Kd.C_drew ?_)));(case side2=>exact HC0_3.out);(case side3=>repeat (first|exact (Kd.C_below HR1_3.out HB.out)|(with_reducible refine Kd.C_alloc ?_ _)|(with_reducible refine Kd.C_drewN ?_ _)|(with_reducible refine Kd.C_drew ?_)));(case side4=>exact HC1_3.out); rintro e w' ⟨rfl,⟨nd,rfl⟩⟩))
    go_ret
    exact ⟨by first|rfl|(simp [errW_none,errW_some]<;>rfl)|(simp [*,errW_none,errW_some]<;>rfl),by repeat (first|(with_reducible first|exact HB.out|apply zE|apply zB|apply zC|refine zJ ?_ GE210.out|refine zJ ?_ GE211.out)|exact HB.out)⟩
   ·rw [if_neg c5] at H
    have c5b0 : (a0_2.toList == a1_2.toList) = false := beq_eq_false_iff_ne.mpr c5
    have c5b1 : (a0_2.toList != a1_2.toList) = true := bne_iff_ne.mpr c5
    obtain rfl := Option.some.inj H
    go_enter Tryz.func19,Tryz.ntmps19
    go_wp2_with (first|((with_reducible refine gate_dst (N := 2) rfl ?_); refine box_event ?hg (N := 2) ?hd (cs := #[.int .i64 a0_0,.int .i64 a0_1,.string a0_2,.slice A0_3 l0_3.length c0_3]) (t := 24) ?hr ?_;(case hd=>rfl);(case hg=>rfl);(case hr=>first|(go_simp; done)|(go_simp; rfl)); intro gb210 hg w12 hbox hb; have n0_ := Aside0.mk (below_step (by repeat (first|(with_reducible first|exact HB.out|apply zE|apply zB|apply zC)|exact HB.out)) hb); have n1_ := Aside0.mk (hbox); have n2_ := Aside0.mk ((by rw [hg]; exact (below_size (by repeat (first|(with_reducible first|exact HB.out|apply zE|apply zB|apply zC)|exact HB.out))) : w.heap.size ≤ gb210)); have n3_ := Aside0.mk ((by rw [hg]; exact (below_size (by repeat (first|(with_reducible first|exact HB.out|apply zE|apply zB|apply zC)|exact HB.out))) : w.heap.size ≤ gb210)); clear HB; have HB := n0_; have BK210 := n1_; have GW210 := n2_; have GE210 := n3_; clear n0_ n1_ n2_ n3_ hb hbox hg)|((with_reducible refine gate_dst (N := 3) rfl ?_); refine box_event ?hg (N := 3) ?hd (cs := #[.int .i64 a1_0,.int .i64 a1_1,.string a1_2,.slice A1_3 l1_3.length c1_3]) (t := 24) ?hr ?_;(case hd=>rfl);(case hg=>rfl);(case hr=>first|(go_simp; done)|(go_simp; rfl)); intro gb211 hg w13 hbox hb; have n0_ := Aside0.mk (blk_below (g := gb210) (o := .cells #[.int .i64 a0_0,.int .i64 a0_1,.string a0_2,.slice A0_3 l0_3.length c0_3] 24 (0,0)) (by (with_reducible repeat (first|refine zN ?_ _|refine zD ?_|refine zA ?_ _)); exact BK210.out) hb); have n1_ := Aside0.mk (below_step (by repeat (first|(with_reducible first|exact HB.out|apply zE|apply zB|apply zC|refine zJ ?_ GE210.out)|exact HB.out)) hb); have n2_ := Aside0.mk (hbox); have n3_ := Aside0.mk ((by rw [hg]; exact (below_size (by repeat (first|(with_reducible first|exact HB.out|apply zE|apply zB|apply zC|refine zJ ?_ GE210.out)|exact HB.out))) : w.heap.size ≤ gb211)); have n4_ := Aside0.mk ((by rw [hg]; exact (below_size (by repeat (first|(with_reducible first|exact HB.out|apply zE|apply zB|apply zC|refine zJ ?_ GE210.out)|exact HB.out))) : w.heap.size ≤ gb211)); have n5_ := Aside0.mk ((by rw [hg]; exact Nat.ne_of_lt (blk_lt (g := gb210) (o := .cells #[.int .i64 a0_0,.int .i64 a0_1,.string a0_2,.slice A0_3 l0_3.length c0_3] 24 (0,0)) (by (with_reducible repeat (first|refine zN ?_ _|refine zD ?_|refine zA ?_ _)); exact BK210.out)) : gb210 ≠ gb211)); have n6_ := Aside0.mk ((by rw [hg]; exact Nat.ne_of_gt (blk_lt (g := gb210) (o := .cells #[.int .i64 a0_0,.int .i64 a0_1,.string a0_2,.slice A0_3 l0_3.length c0_3] 24 (0,0)) (by (with_reducible repeat (first|refine zN ?_ _|refine zD ?_|refine zA ?_ _)); exact BK210.out)) : gb211 ≠ gb210)); clear BK210 HB; have BK210 := n0_; have HB := n1_; have BK211 := n2_; have GW211 := n3_; have GE211 := n4_; have NB210_211 := n5_; have NB211_210 := n6_; clear n0_ n1_ n2_ n3_ n4_ n5_ n6_ hb hbox hg; have hnb14 := NB210_211.out; have hnc14 := NB211_210.out; have hcz15_0 : w13.cell? ⟨gb210,0,none⟩ = some (.int .i64 a0_0):=(blk_cell BK210.out 0).trans rfl; have hcz15_1 : w13.cell? ⟨gb210,1,none⟩ = some (.int .i64 a0_1):=(blk_cell BK210.out 1).trans rfl; have hcz15_2 : w13.cell? ⟨gb210,2,none⟩ = some (.string a0_2):=(blk_cell BK210.out 2).trans rfl; have hcz15_3 : w13.cell? ⟨gb210,3,none⟩ = some (.slice A0_3 l0_3.length c0_3):=(blk_cell BK210.out 3).trans rfl; have hfz15_0 := blk_frozen BK210.out 0; have hfz15_1 := blk_frozen BK210.out 1; have hfz15_2 := blk_frozen BK210.out 2; have hfz15_3 := blk_frozen BK210.out 3; have hcz16_0 : w13.cell? ⟨gb211,0,none⟩ = some (.int .i64 a1_0):=(blk_cell BK211.out 0).trans rfl; have hcz16_1 : w13.cell? ⟨gb211,1,none⟩ = some (.int .i64 a1_1):=(blk_cell BK211.out 1).trans rfl; have hcz16_2 : w13.cell? ⟨gb211,2,none⟩ = some (.string a1_2):=(blk_cell BK211.out 2).trans rfl; have hcz16_3 : w13.cell? ⟨gb211,3,none⟩ = some (.slice A1_3 l1_3.length c1_3):=(blk_cell BK211.out 3).trans rfl; have hfz16_0 := blk_frozen BK211.out 0; have hfz16_1 := blk_frozen BK211.out 1; have hfz16_2 := blk_frozen BK211.out 2; have hfz16_3 := blk_frozen BK211.out 3))
    go_ret
    exact ⟨by first|rfl|(simp [errW_none,errW_some]<;>rfl)|(simp [*,errW_none,errW_some]<;>rfl),by repeat (first|(with_reducible first|exact HB.out|apply zE|apply zB|apply zC|refine zJ ?_ GE210.out|refine zJ ?_ GE211.out)|exact HB.out)⟩
  ·rw [if_neg c4] at H
   have c4b0 : (a0_1 == a1_1) = false := beq_eq_false_iff_ne.mpr c4
   have c4b1 : (a0_1 != a1_1) = true := bne_iff_ne.mpr c4
   obtain rfl := Option.some.inj H
   go_enter Tryz.func19,Tryz.ntmps19
   go_wp2_with (first|((with_reducible refine gate_dst (N := 2) rfl ?_); refine box_event ?hg (N := 2) ?hd (cs := #[.int .i64 a0_0,.int .i64 a0_1,.string a0_2,.slice A0_3 l0_3.length c0_3]) (t := 24) ?hr ?_;(case hd=>rfl);(case hg=>rfl);(case hr=>first|(go_simp; done)|(go_simp; rfl)); intro gb210 hg w17 hbox hb; have n0_ := Aside0.mk (below_step (by repeat (first|(with_reducible first|exact HB.out|apply zE|apply zB|apply zC)|exact HB.out)) hb); have n1_ := Aside0.mk (hbox); have n2_ := Aside0.mk ((by rw [hg]; exact (below_size (by repeat (first|(with_reducible first|exact HB.out|apply zE|apply zB|apply zC)|exact HB.out))) : w.heap.size ≤ gb210)); have n3_ := Aside0.mk ((by rw [hg]; exact (below_size (by repeat (first|(with_reducible first|exact HB.out|apply zE|apply zB|apply zC)|exact HB.out))) : w.heap.size ≤ gb210)); clear HB; have HB := n0_; have BK210 := n1_; have GW210 := n2_; have GE210 := n3_; clear n0_ n1_ n2_ n3_ hb hbox hg)|((with_reducible refine gate_dst (N := 3) rfl ?_); refine box_event ?hg (N := 3) ?hd (cs := #[.int .i64 a1_0,.int .i64 a1_1,.string a1_2,.slice A1_3 l1_3.length c1_3]) (t := 24) ?hr ?_;(case hd=>rfl);(case hg=>rfl);(case hr=>first|(go_simp; done)|(go_simp; rfl)); intro gb211 hg w18 hbox hb; have n0_ := Aside0.mk (blk_below (g := gb210) (o := .cells #[.int .i64 a0_0,.int .i64 a0_1,.string a0_2,.slice A0_3 l0_3.length c0_3] 24 (0,0)) (by (with_reducible repeat (first|refine zN ?_ _|refine zD ?_|refine zA ?_ _)); exact BK210.out) hb); have n1_ := Aside0.mk (below_step (by repeat (first|(with_reducible first|exact HB.out|apply zE|apply zB|apply zC|refine zJ ?_ GE210.out)|exact HB.out)) hb); have n2_ := Aside0.mk (hbox); have n3_ := Aside0.mk ((by rw [hg]; exact (below_size (by repeat (first|(with_reducible first|exact HB.out|apply zE|apply zB|apply zC|refine zJ ?_ GE210.out)|exact HB.out))) : w.heap.size ≤ gb211)); have n4_ := Aside0.mk ((by rw [hg]; exact (below_size (by repeat (first|(with_reducible first|exact HB.out|apply zE|apply zB|apply zC|refine zJ ?_ GE210.out)|exact HB.out))) : w.heap.size ≤ gb211)); have n5_ := Aside0.mk ((by rw [hg]; exact Nat.ne_of_lt (blk_lt (g := gb210) (o := .cells #[.int .i64 a0_0,.int .i64 a0_1,.string a0_2,.slice A0_3 l0_3.length c0_3] 24 (0,0)) (by (with_reducible repeat (first|refine zN ?_ _|refine zD ?_|refine zA ?_ _)); exact BK210.out)) : gb210 ≠ gb211)); have n6_ := Aside0.mk ((by rw [hg]; exact Nat.ne_of_gt (blk_lt (g := gb210) (o := .cells #[.int .i64 a0_0,.int .i64 a0_1,.string a0_2,.slice A0_3 l0_3.length c0_3] 24 (0,0)) (by (with_reducible repeat (first|refine zN ?_ _|refine zD ?_|refine zA ?_ _)); exact BK210.out)) : gb211 ≠ gb210)); clear BK210 HB; have BK210 := n0_; have HB := n1_; have BK211 := n2_; have GW211 := n3_; have GE211 := n4_; have NB210_211 := n5_; have NB211_210 := n6_; clear n0_ n1_ n2_ n3_ n4_ n5_ n6_ hb hbox hg; have hnb19 := NB210_211.out; have hnc19 := NB211_210.out; have hcz20_0 : w18.cell? ⟨gb210,0,none⟩ = some (.int .i64 a0_0):=(blk_cell BK210.out 0).trans rfl; have hcz20_1 : w18.cell? ⟨gb210,1,none⟩ = some (.int .i64 a0_1):=(blk_cell BK210.out 1).trans rfl; have hcz20_2 : w18.cell? ⟨gb210,2,none⟩ = some (.string a0_2):=(blk_cell BK210.out 2).trans rfl; have hcz20_3 : w18.cell? ⟨gb210,3,none⟩ = some (.slice A0_3 l0_3.length c0_3):=(blk_cell BK210.out 3).trans rfl; have hfz20_0 := blk_frozen BK210.out 0; have hfz20_1 := blk_frozen BK210.out 1; have hfz20_2 := blk_frozen BK210.out 2; have hfz20_3 := blk_frozen BK210.out 3; have hcz21_0 : w18.cell? ⟨gb211,0,none⟩ = some (.int .i64 a1_0):=(blk_cell BK211.out 0).trans rfl; have hcz21_1 : w18.cell? ⟨gb211,1,none⟩ = some (.int .i64 a1_1):=(blk_cell BK211.out 1).trans rfl; have hcz21_2 : w18.cell? ⟨gb211,2,none⟩ = some (.string a1_2):=(blk_cell BK211.out 2).trans rfl; have hcz21_3 : w18.cell? ⟨gb211,3,none⟩ = some (.slice A1_3 l1_3.length c1_3):=(blk_cell BK211.out 3).trans rfl; have hfz21_0 := blk_frozen BK211.out 0; have hfz21_1 := blk_frozen BK211.out 1; have hfz21_2 := blk_frozen BK211.out 2; have hfz21_3 := blk_frozen BK211.out 3))
   go_ret
   exact ⟨by first|rfl|(simp [errW_none,errW_some]<;>rfl)|(simp [*,errW_none,errW_some]<;>rfl),by repeat (first|(with_reducible first|exact HB.out|apply zE|apply zB|apply zC|refine zJ ?_ GE210.out|refine zJ ?_ GE211.out)|exact HB.out)⟩
 ·rw [if_neg c3] at H
  have c3b0 : (a0_0 == a1_0) = false := beq_eq_false_iff_ne.mpr c3
  have c3b1 : (a0_0 != a1_0) = true := bne_iff_ne.mpr c3
  obtain rfl := Option.some.inj H
  go_enter Tryz.func19,Tryz.ntmps19
  go_wp2_with (first|((with_reducible refine gate_dst (N := 2) rfl ?_); refine box_event ?hg (N := 2) ?hd (cs := #[.int .i64 a0_0,.int .i64 a0_1,.string a0_2,.slice A0_3 l0_3.length c0_3]) (t := 24) ?hr ?_;(case hd=>rfl);(case hg=>rfl);(case hr=>first|(go_simp; done)|(go_simp; rfl)); intro gb210 hg w22 hbox hb; have n0_ := Aside0.mk (below_step (by repeat (first|(with_reducible first|exact HB.out|apply zE|apply zB|apply zC)|exact HB.out)) hb); have n1_ := Aside0.mk (hbox); have n2_ := Aside0.mk ((by rw [hg]; exact (below_size (by repeat (first|(with_reducible first|exact HB.out|apply zE|apply zB|apply zC)|exact HB.out))) : w.heap.size ≤ gb210)); have n3_ := Aside0.mk ((by rw [hg]; exact (below_size (by repeat (first|(with_reducible first|exact HB.out|apply zE|apply zB|apply zC)|exact HB.out))) : w.heap.size ≤ gb210)); clear HB; have HB := n0_; have BK210 := n1_; have GW210 := n2_; have GE210 := n3_; clear n0_ n1_ n2_ n3_ hb hbox hg)|((with_reducible refine gate_dst (N := 3) rfl ?_); refine box_event ?hg (N := 3) ?hd (cs := #[.int .i64 a1_0,.int .i64 a1_1,.string a1_2,.slice A1_3 l1_3.length c1_3]) (t := 24) ?hr ?_;(case hd=>rfl);(case hg=>rfl);(case hr=>first|(go_simp; done)|(go_simp; rfl)); intro gb211 hg w23 hbox hb; have n0_ := Aside0.mk (blk_below (g := gb210) (o := .cells #[.int .i64 a0_0,.int .i64 a0_1,.string a0_2,.slice A0_3 l0_3.length c0_3] 24 (0,0)) (by (with_reducible repeat (first|refine zN ?_ _|refine zD ?_|refine zA ?_ _)); exact BK210.out) hb); have n1_ := Aside0.mk (below_step (by repeat (first|(with_reducible first|exact HB.out|apply zE|apply zB|apply zC|refine zJ ?_ GE210.out)|exact HB.out)) hb); have n2_ := Aside0.mk (hbox); have n3_ := Aside0.mk ((by rw [hg]; exact (below_size (by repeat (first|(with_reducible first|exact HB.out|apply zE|apply zB|apply zC|refine zJ ?_ GE210.out)|exact HB.out))) : w.heap.size ≤ gb211)); have n4_ := Aside0.mk ((by rw [hg]; exact (below_size (by repeat (first|(with_reducible first|exact HB.out|apply zE|apply zB|apply zC|refine zJ ?_ GE210.out)|exact HB.out))) : w.heap.size ≤ gb211)); have n5_ := Aside0.mk ((by rw [hg]; exact Nat.ne_of_lt (blk_lt (g := gb210) (o := .cells #[.int .i64 a0_0,.int .i64 a0_1,.string a0_2,.slice A0_3 l0_3.length c0_3] 24 (0,0)) (by (with_reducible repeat (first|refine zN ?_ _|refine zD ?_|refine zA ?_ _)); exact BK210.out)) : gb210 ≠ gb211)); have n6_ := Aside0.mk ((by rw [hg]; exact Nat.ne_of_gt (blk_lt (g := gb210) (o := .cells #[.int .i64 a0_0,.int .i64 a0_1,.string a0_2,.slice A0_3 l0_3.length c0_3] 24 (0,0)) (by (with_reducible repeat (first|refine zN ?_ _|refine zD ?_|refine zA ?_ _)); exact BK210.out)) : gb211 ≠ gb210)); clear BK210 HB; have BK210 := n0_; have HB := n1_; have BK211 := n2_; have GW211 := n3_; have GE211 := n4_; have NB210_211 := n5_; have NB211_210 := n6_; clear n0_ n1_ n2_ n3_ n4_ n5_ n6_ hb hbox hg; have hnb24 := NB210_211.out; have hnc24 := NB211_210.out; have hcz25_0 : w23.cell? ⟨gb210,0,none⟩ = some (.int .i64 a0_0):=(blk_cell BK210.out 0).trans rfl; have hcz25_1 : w23.cell? ⟨gb210,1,none⟩ = some (.int .i64 a0_1):=(blk_cell BK210.out 1).trans rfl; have hcz25_2 : w23.cell? ⟨gb210,2,none⟩ = some (.string a0_2):=(blk_cell BK210.out 2).trans rfl; have hcz25_3 : w23.cell? ⟨gb210,3,none⟩ = some (.slice A0_3 l0_3.length c0_3):=(blk_cell BK210.out 3).trans rfl; have hfz25_0 := blk_frozen BK210.out 0; have hfz25_1 := blk_frozen BK210.out 1; have hfz25_2 := blk_frozen BK210.out 2; have hfz25_3 := blk_frozen BK210.out 3; have hcz26_0 : w23.cell? ⟨gb211,0,none⟩ = some (.int .i64 a1_0):=(blk_cell BK211.out 0).trans rfl; have hcz26_1 : w23.cell? ⟨gb211,1,none⟩ = some (.int .i64 a1_1):=(blk_cell BK211.out 1).trans rfl; have hcz26_2 : w23.cell? ⟨gb211,2,none⟩ = some (.string a1_2):=(blk_cell BK211.out 2).trans rfl; have hcz26_3 : w23.cell? ⟨gb211,3,none⟩ = some (.slice A1_3 l1_3.length c1_3):=(blk_cell BK211.out 3).trans rfl; have hfz26_0 := blk_frozen BK211.out 0; have hfz26_1 := blk_frozen BK211.out 1; have hfz26_2 := blk_frozen BK211.out 2; have hfz26_3 := blk_frozen BK211.out 3))
  go_ret
  exact ⟨by first|rfl|(simp [errW_none,errW_some]<;>rfl)|(simp [*,errW_none,errW_some]<;>rfl),by repeat (first|(with_reducible first|exact HB.out|apply zE|apply zB|apply zC|refine zJ ?_ GE210.out|refine zJ ?_ GE211.out)|exact HB.out)⟩

end Go.Proofs.YtannjakcnnefhaaGreatDoor.U
