import Derived.Test.YtannjakcnnefhaaDoorCO0
import Derived.Test.YtannjakcnnefhaaDoorCO1
import Derived.Test.YtannjakcnnefhaaDoorCO2
-- printed by wip/hp.py (the session's driver of the print, with hand-proved contracts)
namespace Go.Proofs.YtannjakcnnefhaaDoor.O
open Go.RowKit Go.Proofs.YtannjakcnnefhaaDoorW.PrintWords Go.Proofs.YtannjakcnnefhaaDoorW.PrintLast Go.Proofs.YtannjakcnnefhaaDoorW.PrintMore
attribute [local go_sem] max2_int min2_int max_two min_two max_three min_three max_four min_four   -- for this text's walks alone
set_option linter.unusedVariables false
set_option linter.unusedSimpArgs false

/-! ### cmp_Compare_string: function 23 -/
/-- How two texts compare. -/
def cmpS (a b : ByteArray) : Int := if Op.bytesLess a.toList b.toList = true then -1 else if Op.bytesLess b.toList a.toList = true then 1 else 0
theorem isNaN_string (a : ByteArray) (w : World) : Calls Tryd.prog 38 #[.string a] w fun e w' => e = .returned (.bool false) ∧ w = w' := by
 have h : (a.toList == a.toList) = true := by simp
 have h2 : (a.toList != a.toList) = false := by simp
 go_enter Tryd.func38,Tryd.ntmps38
 go_wp2_with fail
 go_ret
 exact ⟨rfl,rfl⟩
set_option maxHeartbeats 1000000 in
theorem cmp_string_any (a b : ByteArray) (w : World) : Calls Tryd.prog 23 #[.string a, .string b] w fun e w' => e = .returned (.int .i64 (cmpS a b)) ∧ Drawn0 w w' := by
 have hsr := @str_gtr
 cases h1 : Op.bytesLess a.toList b.toList with
 | true =>
  have H := Aside0.mk (show cmpS a b = -1 by unfold cmpS; rw [if_pos h1])
  go_enter Tryd.func23,Tryd.ntmps23
  go_wp2_with (first|(go_at_call 38; refine (isNaN_string _ _).mono ?_; rintro e w' ⟨rfl,rfl⟩))
  go_ret
  exact ⟨congrArg (fun z=>Ending.returned (Value.int .i64 z)) H.out.symm,Drawn0.refl _⟩
 | false =>
  cases h2 : Op.bytesLess b.toList a.toList with
  | true =>
   have H := Aside0.mk (show cmpS a b = 1 by unfold cmpS; rw [if_neg (by simp [h1]),if_pos h2])
   go_enter Tryd.func23,Tryd.ntmps23
   go_wp2_with (first|(go_at_call 38; refine (isNaN_string _ _).mono ?_; rintro e w' ⟨rfl,rfl⟩))
   go_ret
   exact ⟨congrArg (fun z=>Ending.returned (Value.int .i64 z)) H.out.symm,Drawn0.refl _⟩
  | false =>
   have H := Aside0.mk (show cmpS a b = 0 by unfold cmpS; rw [if_neg (by simp [h1]),if_neg (by simp [h2])])
   go_enter Tryd.func23,Tryd.ntmps23
   go_wp2_with (first|(go_at_call 38; refine (isNaN_string _ _).mono ?_; rintro e w' ⟨rfl,rfl⟩))
   go_ret
   exact ⟨congrArg (fun z=>Ending.returned (Value.int .i64 z)) H.out.symm,Drawn0.refl _⟩
def cmp_Compare_string.f (a0 a1 : ByteArray) : Option Int := some (cmpS a0 a1)
theorem cmp_Compare_string.calls (a0 : ByteArray) (a1 : ByteArray) (r : Int) (w : World) (h : cmp_Compare_string.f a0 a1 = some r) :
  Calls Tryd.prog 23 #[.string a0,.string a1] w fun e w'=>e = .returned (.int .i64 r) ∧ Drawn0 w w' := by
 obtain rfl := Option.some.inj h
 exact cmp_string_any a0 a1 w

/-! ### value_Compare: function 9 -/
/-- The three numbers of a version, zeros if it is none. -/
def p3 (s : ByteArray) : Int × Int × Int := ((partsR (parts3 (dots s))).1, (partsR (parts3 (dots s))).2.1, (partsR (parts3 (dots s))).2.2.1)
/-- How two values without errors compare. -/
def cmpV (a0 a1 : Int) (a2 : ByteArray) (b0 b1 : Int) (b2 : ByteArray) : Option (Int × Int) :=
 if a0 ≠ b0 ∨ a0 = 1 ∨ a0 = 5 then some (0,8)
 else if a0 = 2 then some (Lib.compareInt a1 b1,0)
 else if a0 = 3 then some (cmpS a2 b2,0)
 else if a2.size < 4294967281 ∧ b2.size < 4294967281 then some (cmp3 (p3 a2) (p3 b2),0) else none
def value_Compare.f (k : Nat) (a0_0 a0_1 : Int) (a0_2 : ByteArray) (l0_3 : List ByteArray) (a1_0 a1_1 : Int) (a1_2 : ByteArray) (l1_3 : List ByteArray) : Option (Int × Int) :=
 (value_Check.f k a0_0 a0_1 a0_2 l0_3).bind fun e=>if e ≠ 0 then some (0,e) else (value_Check.f k a1_0 a1_1 a1_2 l1_3).bind fun f=>if f ≠ 0 then some (0,f) else cmpV a0_0 a0_1 a0_2 a1_0 a1_1 a1_2
theorem value_Compare.mono : ∀ a0 a1 a2 a3 a4 a5 a6 a7 k, LeO (value_Compare.f k a0 a1 a2 a3 a4 a5 a6 a7) (value_Compare.f (k + 1) a0 a1 a2 a3 a4 a5 a6 a7) := by
 intro a0 a1 a2 a3 a4 a5 a6 a7 k
 unfold value_Compare.f
 refine LeO.bind (value_Check.mono _ _ _ _ _) fun e=>?_
 split
 ·exact LeO.refl _
 ·refine LeO.bind (value_Check.mono _ _ _ _ _) fun f=>?_
  split
  ·exact LeO.refl _
  ·exact LeO.refl _
theorem box4 {W : World} {g t : Nat} {a b : Int} {s : ByteArray} {A : Option Addr} {n c : Nat} (h : W.heap[g]? = some (.cells #[.int .i64 a, .int .i64 b, .string s, .slice A n c] t (0, 0))) :
  W.cell? ⟨g,0,none⟩ = some (.int .i64 a) ∧ W.cell? ⟨g,1,none⟩ = some (.int .i64 b) ∧ W.cell? ⟨g,2,none⟩ = some (.string s) ∧ W.cell? ⟨g,3,none⟩ = some (.slice A n c) :=
 ⟨blk_cell h 0,blk_cell h 1,blk_cell h 2,blk_cell h 3⟩
set_option maxHeartbeats 16000000 in
set_option maxRecDepth 1000000 in
theorem value_Compare.calls (k : Nat) (a0_0 : Int) (a0_1 : Int) (a0_2 : ByteArray) (A0_3 : Option Addr) (c0_3 : Nat) (l0_3 : List ByteArray) (a1_0 : Int) (a1_1 : Int) (a1_2 : ByteArray) (A1_3 : Option Addr) (c1_3 : Nat) (l1_3 : List ByteArray) (r1 r2 : Int) (w : World) (hr0_3 : Kd.C Kd.string w A0_3 l0_3.length l0_3) (hc0_3 : l0_3.length ≤ c0_3) (hr1_3 : Kd.C Kd.string w A1_3 l1_3.length l1_3) (hc1_3 : l1_3.length ≤ c1_3) (hGL : GL w) (h : value_Compare.f k a0_0 a0_1 a0_2 l0_3 a1_0 a1_1 a1_2 l1_3 = some (r1, r2)) :
  Calls Tryd.prog 9 #[.agg #[.int .i64 a0_0,.int .i64 a0_1,.string a0_2,.slice A0_3 l0_3.length c0_3],.agg #[.int .i64 a1_0,.int .i64 a1_1,.string a1_2,.slice A1_3 l1_3.length c1_3]] w fun e w'=>e = .returned (.tuple #[.int .i64 r1,.int .i64 r2]) ∧ Below w.heap.size w w' := by
 have HR0 := Aside0.mk hr0_3; have HR1 := Aside0.mk hr1_3; have HC0 := Aside0.mk hc0_3; have HC1 := Aside0.mk hc1_3; have HGL := Aside0.mk hGL; clear hr0_3 hr1_3 hc0_3 hc1_3 hGL
 obtain ⟨e1,he1,h⟩ := Option.bind_eq_some_iff.1 h
 have HE1 := Aside0.mk he1; have HH := Aside0.mk h; clear he1 h
 have HB2 := Aside0.mk (zE (zE (Below.refl w.heap.size w) (.cells #[.int .i64 a0_0,.int .i64 a0_1,.string a0_2,.slice A0_3 l0_3.length c0_3] 31)) (.cells #[.int .i64 a1_0,.int .i64 a1_1,.string a1_2,.slice A1_3 l1_3.length c1_3] 31))
 have HKa := Aside0.mk (zA (blk_new w (.cells #[.int .i64 a0_0,.int .i64 a0_1,.string a0_2,.slice A0_3 l0_3.length c0_3] 31)) (.cells #[.int .i64 a1_0,.int .i64 a1_1,.string a1_2,.slice A1_3 l1_3.length c1_3] 31))
 have HKb := Aside0.mk (show (((w.alloc (.cells #[.int .i64 a0_0,.int .i64 a0_1,.string a0_2,.slice A0_3 l0_3.length c0_3] 31)).alloc (.cells #[.int .i64 a1_0,.int .i64 a1_1,.string a1_2,.slice A1_3 l1_3.length c1_3] 31))).heap[w.heap.size + 1]? = some (.cells #[.int .i64 a1_0,.int .i64 a1_1,.string a1_2,.slice A1_3 l1_3.length c1_3] 31) by
  have := blk_new (w.alloc (.cells #[.int .i64 a0_0,.int .i64 a0_1,.string a0_2,.slice A0_3 l0_3.length c0_3] 31)) (.cells #[.int .i64 a1_0,.int .i64 a1_1,.string a1_2,.slice A1_3 l1_3.length c1_3] 31)
  simpa using this)
 go_enter Tryd.func9,Tryd.ntmps9
 go_wp2_with fail
 refine (value_Check.calls k a0_0 a0_1 a0_2 A0_3 c0_3 l0_3 e1 _ (Kd.C_below HR0.out HB2.out) HC0.out (GL.below HGL.out HB2.out) HE1.out).mono ?_
 rintro e w1 ⟨rfl,hb⟩
 have HB3 := Aside0.mk (below_step HB2.out hb)
 have HKa1 := Aside0.mk (blk_below HKa.out hb)
 have HKb1 := Aside0.mk (blk_below HKb.out hb)
 clear hb HKa HKb HB2
 by_cases z1 : e1 = 0
 ·subst z1
  have h1 := HH.out
  rw [if_neg (fun h=>h rfl)] at h1
  obtain ⟨e2,he2,h1⟩ := Option.bind_eq_some_iff.1 h1
  have HE2 := Aside0.mk he2; have HH2 := Aside0.mk h1; clear h1 he2 HH
  obtain ⟨b0,b1,b2,b3⟩ := box4 HKb1.out
  go_wp2_with fail
  refine (value_Check.calls k a1_0 a1_1 a1_2 A1_3 c1_3 l1_3 e2 _ (Kd.C_below HR1.out HB3.out) HC1.out (GL.below HGL.out HB3.out) HE2.out).mono ?_
  rintro e w2 ⟨rfl,hb⟩
  have HB4 := Aside0.mk (below_step HB3.out hb)
  have HKa2 := Aside0.mk (blk_below HKa1.out hb)
  have HKb2 := Aside0.mk (blk_below HKb1.out hb)
  clear hb HKa1 HKb1 b0 b1 b2 b3 HB3
  by_cases z2 : e2 = 0
  ·subst z2
   have h1 := HH2.out
   rw [if_neg (fun h=>h rfl)] at h1
   obtain ⟨b0,b1,b2,b3⟩ := box4 HKb2.out
   obtain ⟨c0,c1,c2,c3⟩ := box4 HKa2.out
   unfold cmpV at h1
   by_cases t1 : a0_0 = a1_0
   ·subst t1
    by_cases t2 : a0_0 = 1
    ·have HR := Aside0.mk (show (0,8) = (r1,r2) by rw [if_pos (.inr (.inl t2))] at h1; exact Option.some.inj h1)
     have t2' : (a0_0 == 1) = true := by simpa using t2
     clear t2 h1 HH2
     go_wp2_with fail
     go_ret2
     exact ⟨ret_pair HR.out,HB4.out⟩
    ·by_cases t3 : a0_0 = 5
     ·have HR := Aside0.mk (show (0,8) = (r1,r2) by rw [if_pos (.inr (.inr t3))] at h1; exact Option.some.inj h1)
      have t3' : (a0_0 == 5) = true := by simpa using t3
      have t2' : (a0_0 == 1) = false := by simpa using t2
      clear t2 t3 h1 HH2
      go_wp2_with fail
      go_ret2
      exact ⟨ret_pair HR.out,HB4.out⟩
     ·rw [if_neg (fun h=>h.elim (fun h=>h rfl) (fun h=>h.elim t2 t3))] at h1
      have t2' : (a0_0 == 1) = false := by simpa using t2
      have t3' : (a0_0 == 5) = false := by simpa using t3
      by_cases t4 : a0_0 = 2
      ·have HR := Aside0.mk (show (Lib.compareInt a0_1 a1_1,0) = (r1,r2) by rw [if_pos t4] at h1; exact Option.some.inj h1)
       have t4' : (a0_0 == 2) = true := by simpa using t4
       clear t2 t3 t4 h1 HH2
       go_wp2_with (first|(go_at_call 22; refine (Tryd.cmp_Compare_int _ _ _).mono ?_; rintro e w' ⟨rfl,rfl⟩))
       go_ret2
       exact ⟨ret_pair HR.out,HB4.out⟩
      ·rw [if_neg t4] at h1
       have t4' : (a0_0 == 2) = false := by simpa using t4
       by_cases t5 : a0_0 = 3
       ·have HR := Aside0.mk (show (cmpS a0_2 a1_2,0) = (r1,r2) by rw [if_pos t5] at h1; exact Option.some.inj h1)
        have t5' : (a0_0 == 3) = true := by simpa using t5
        clear t2 t3 t4 t5 h1 HH2
        go_wp2_with fail
        refine (cmp_Compare_string.calls _ _ _ _ rfl).mono ?_
        rintro e w3 ⟨rfl,hd⟩
        have HB5 := Aside0.mk (below_step HB4.out hd.below)
        clear hd
        go_wp2_with fail
        go_ret2
        exact ⟨ret_pair HR.out,HB5.out⟩
       ·have t5' : (a0_0 == 3) = false := by simpa using t5
        rw [if_neg t5] at h1
        split at h1
        ·rename_i hsz
         obtain ⟨s1,s2⟩ := hsz
         have HR := Aside0.mk (show (cmp3 (p3 a0_2) (p3 a1_2),0) = (r1,r2) from Option.some.inj h1)
         clear t2 t3 t4 t5 h1 HH2
         obtain ⟨⟨x0,x1,x2,xb⟩,hx⟩ : ∃ p,p = partsR (parts3 (dots a0_2)):=⟨_,rfl⟩
         obtain ⟨⟨y0,y1,y2,yb⟩,hy⟩ : ∃ p,p = partsR (parts3 (dots a1_2)):=⟨_,rfl⟩
         have HX := Aside0.mk (show value_parts.f a0_2 = some (x0,x1,x2,xb) by unfold value_parts.f; rw [if_pos s1,hx])
         have HY := Aside0.mk (show value_parts.f a1_2 = some (y0,y1,y2,yb) by unfold value_parts.f; rw [if_pos s2,hy])
         have HPX := Aside0.mk (show p3 a0_2 = (x0,x1,x2) by unfold p3; rw [← hx])
         have HPY := Aside0.mk (show p3 a1_2 = (y0,y1,y2) by unfold p3; rw [← hy])
         clear hx hy s1 s2
         go_wp2_with fail
         refine (value_parts.calls a0_2 x0 x1 x2 xb _ (GL.below HGL.out HB4.out) HX.out).mono ?_
         rintro e w3 ⟨rfl,hb⟩
         have HB5 := Aside0.mk (below_step HB4.out hb)
         have HKb3 := Aside0.mk (blk_below HKb2.out hb)
         clear hb b0 b1 b2 b3 c0 c1 c2 c3
         obtain ⟨b0,b1,b2,b3⟩ := box4 HKb3.out
         have hlt3 := blk_lt HKb3.out
         go_wp2_with fail
         have HB6 := Aside0.mk (zE HB5.out (.cells #[.int .i64 x0,.int .i64 x1,.int .i64 x2] 22))
         refine (value_parts.calls a1_2 y0 y1 y2 yb _ (GL.below HGL.out HB6.out) HY.out).mono ?_
         rintro e w4 ⟨rfl,hb⟩
         have HKx := Aside0.mk (blk_below (blk_new w3 (.cells #[.int .i64 x0,.int .i64 x1,.int .i64 x2] 22)) hb)
         have HB7 := Aside0.mk (below_step HB6.out hb)
         clear hb b0 b1 b2 b3 HKb3 HB6 HKb2 HKa2
         have HKx2 := Aside0.mk (zA HKx.out (.cells #[.int .i64 y0,.int .i64 y1,.int .i64 y2] 22))
         have HKy2 := Aside0.mk (blk_new w4 (.cells #[.int .i64 y0,.int .i64 y1,.int .i64 y2] 22))
         have HCX := Aside0.mk (fun (j : Nat) (hj : j < 3)=>show (w4.alloc (.cells #[.int .i64 y0,.int .i64 y1,.int .i64 y2] 22)).cell? ⟨w3.heap.size,j,none⟩ = some (.int .i64 (([x0,x1,x2] : List Int).getD j 0)) by
          rw [blk_cell HKx2.out j]
          rcases (show j = 0 ∨ j = 1 ∨ j = 2 by omega) with rfl|rfl|rfl<;>rfl)
         have HCY := Aside0.mk (fun (j : Nat) (hj : j < 3)=>show (w4.alloc (.cells #[.int .i64 y0,.int .i64 y1,.int .i64 y2] 22)).cell? ⟨w4.heap.size,j,none⟩ = some (.int .i64 (([y0,y1,y2] : List Int).getD j 0)) by
          rw [blk_cell HKy2.out j]
          rcases (show j = 0 ∨ j = 1 ∨ j = 2 by omega) with rfl|rfl|rfl<;>rfl)
         have x0' := HCX.out 0 (by omega)
         have y0' := HCY.out 0 (by omega)
         go_wp2_with fail
         go_quiet ((go_at_call 25; exact Calls.quiet_of_same (slices_Compare3 w3.heap.size w4.heap.size x0 x1 x2 y0 y1 y2 _ HCX.out HCY.out)))
         go_wp2_with fail
         go_ret2
         exact ⟨ret_pair (by rw [← HR.out,HPX.out,HPY.out]),zB (zE HB7.out _) _⟩
        ·cases h1
   ·have HR := Aside0.mk (show (0,8) = (r1,r2) by rw [if_pos (.inl t1)] at h1; exact Option.some.inj h1)
    have t1' : (a0_0 != a1_0) = true := by simpa using t1
    clear t1 h1 HH2
    go_wp2_with fail
    go_ret2
    exact ⟨ret_pair HR.out,HB4.out⟩
  ·have z2' : (e2 != 0) = true := by simpa using z2
   have HR := Aside0.mk (show (0,e2) = (r1,r2) by have := HH2.out; rw [if_pos z2] at this; exact Option.some.inj this)
   clear z2 HH2
   go_wp2_with fail
   go_ret2
   exact ⟨ret_pair HR.out,HB4.out⟩
 ·have z1' : (e1 != 0) = true := by simpa using z1
  have HR := Aside0.mk (show (0,e1) = (r1,r2) by have := HH.out; rw [if_pos z1] at this; exact Option.some.inj this)
  clear z1 HH
  go_wp2_with fail
  go_ret2
  exact ⟨ret_pair HR.out,HB3.out⟩

/-! ### text_Number: function 31 -/
theorem below_grown_itoa (w : World) (k : Nat) (os : Array Obj) : Below w.heap.size w (Go.Sort.grow (w.drewN k) os) := by
 refine ⟨rfl,rfl,rfl,?_,fun i hi=>?_⟩
 ·show w.heap.size ≤ (w.heap ++ os).size
  rw [Array.size_append]; omega
 ·show (w.heap ++ os)[i]? = w.heap[i]?
  rw [Array.getElem?_append_left hi]
def text_Number.f (a0 : Int) : Option ByteArray := if -9223372036854775808 ≤ a0 ∧ a0 ≤ 9223372036854775807 then some ⟨(Lib.itoa a0).toArray⟩ else none
set_option maxHeartbeats 1000000 in
theorem text_Number.calls (a0 : Int) (r : ByteArray) (w : World) (hGL : GL w) (h : text_Number.f a0 = some r) :
  Calls Tryd.prog 31 #[.int .i64 a0] w fun e w'=>e = .returned (.string r) ∧ Below w.heap.size w w' := by
 unfold text_Number.f at h
 split at h
 ·rename_i hb
  obtain rfl := Option.some.inj h
  have HT := Aside0.mk hGL.uint64pow10
  obtain ⟨b0,b1⟩ := hb
  clear h hGL
  go_enter Tryd.func31,Tryd.ntmps31
  go_wp2_with fail
  refine (Tryd.strconv_Itoa a0 b0 b1 w HT.out).mono ?_
  rintro e w' ⟨rfl,k,os,hw⟩
  have HB := Aside0.mk (show Below w.heap.size w w' by rw [hw]; exact below_grown_itoa w k os)
  clear hw
  go_wp2_with fail
  go_ret
  exact ⟨rfl,HB.out⟩
 ·cases h

/-! ### value_Format: function 19 -/
/-- The source form of a value without an error. -/
def fmtV (a0 a1 : Int) (a2 : ByteArray) (l : List ByteArray) : Option (ByteArray × Int) :=
 if a0 = 1 then (if a1 = 0 then some (ba [102,97,108,115,101],0) else if a1 = 1 then some (ba [116,114,117,101],0) else none)
 else if a0 = 2 then (text_Number.f a1).map fun s=>(s,0)
 else if a0 = 3 then (if a2.size ≤ 9223372036854775807 then some (quoteR a2) else none)
 else if a0 = 4 then some (a2,0)
 else if l.length ≤ 20 ∧ ∀ x ∈ l,x.size ≤ 9223372036854775807 then some (ba (listL l),0) else none
def value_Format.f (k : Nat) (a0_0 a0_1 : Int) (a0_2 : ByteArray) (l0_3 : List ByteArray) : Option (ByteArray × Int) :=
 (value_Check.f k a0_0 a0_1 a0_2 l0_3).bind fun e=>if e ≠ 0 then some (ba [],e) else fmtV a0_0 a0_1 a0_2 l0_3
theorem value_Format.mono : ∀ a0 a1 a2 a3 k, LeO (value_Format.f k a0 a1 a2 a3) (value_Format.f (k + 1) a0 a1 a2 a3) := by
 intro a0 a1 a2 a3 k
 unfold value_Format.f
 refine LeO.bind (value_Check.mono _ _ _ _ _) fun e=>?_
 split
 ·exact LeO.refl _
 ·exact LeO.refl _
theorem box4f {W : World} {g t : Nat} {a b : Int} {s : ByteArray} {A : Option Addr} {n c : Nat} (h : W.heap[g]? = some (.cells #[.int .i64 a, .int .i64 b, .string s, .slice A n c] t (0, 0))) :
  W.cell? ⟨g,0,none⟩ = some (.int .i64 a) ∧ W.cell? ⟨g,1,none⟩ = some (.int .i64 b) ∧ W.cell? ⟨g,2,none⟩ = some (.string s) ∧ W.cell? ⟨g,3,none⟩ = some (.slice A n c) :=
 ⟨blk_cell h 0,blk_cell h 1,blk_cell h 2,blk_cell h 3⟩
theorem ret_sp {a a' : ByteArray} {b b' : Int} (h : (a, b) = (a', b')) : Ending.returned (.tuple #[.string a, .int .i64 b]) = .returned (.tuple #[.string a', .int .i64 b']) := by
 obtain ⟨rfl,rfl⟩ := Prod.mk.inj h
 rfl
theorem infoStr : (Tryd.prog.info? 9).map (fun i => (i.zero, i.size, i.bytes)) = some (some (.string ByteArray.empty), 1, 16) := by kernel_rfl
/-- Where value.Format stands in a list. -/
structure FIn (w wr : World) (l : List ByteArray) (box : Obj) (q : Nat) (v : Value) : Prop where
 own : wr.ownsRow w.heap.size 9 1 v q (pw_strs ((l.take q).map fun s=>(quoteR s).1))
 below : Below w.heap.size w wr
 box : wr.heap[w.heap.size]? = some box
 nil : q = 0 → v = .slice none 0 0
theorem two_index0 (a b : ByteArray) (w : World) : (Instr.index 62 (.agg #[.string a, .string b]) (.int .i64 0)).run Tryd.prog w = .ok (.string a) w := by
 have hu := Tryd.underlying62; have hz := Tryd.underlying9
 simp [Instr.index,run_underlying hu,asIntOf,go_sem]
theorem two_index1 (a b : ByteArray) (w : World) : (Instr.index 62 (.agg #[.string a, .string b]) (.int .i64 1)).run Tryd.prog w = .ok (.string b) w := by
 have hu := Tryd.underlying62; have hz := Tryd.underlying9
 simp [Instr.index,run_underlying hu,asIntOf,go_sem]
set_option maxHeartbeats 16000000 in
set_option maxRecDepth 1000000 in
theorem value_Format.calls (k : Nat) (a0_0 : Int) (a0_1 : Int) (a0_2 : ByteArray) (A0_3 : Option Addr) (c0_3 : Nat) (l0_3 : List ByteArray) (r1 : ByteArray) (r2 : Int) (w : World) (hr0_3 : Kd.C Kd.string w A0_3 l0_3.length l0_3) (hc0_3 : l0_3.length ≤ c0_3) (hGL : GL w) (h : value_Format.f k a0_0 a0_1 a0_2 l0_3 = some (r1, r2)) :
  Calls Tryd.prog 19 #[.agg #[.int .i64 a0_0,.int .i64 a0_1,.string a0_2,.slice A0_3 l0_3.length c0_3]] w fun e w'=>e = .returned (.tuple #[.string r1,.int .i64 r2]) ∧ Below w.heap.size w w' := by
 have HR0 := Aside0.mk hr0_3; have HC0 := Aside0.mk hc0_3; have HGL := Aside0.mk hGL; clear hr0_3 hc0_3 hGL
 obtain ⟨e1,he1,h⟩ := Option.bind_eq_some_iff.1 h
 have HE1 := Aside0.mk he1; have HH := Aside0.mk h; clear he1 h
 have HB2 := Aside0.mk (zE (Below.refl w.heap.size w) (.cells #[.int .i64 a0_0,.int .i64 a0_1,.string a0_2,.slice A0_3 l0_3.length c0_3] 31))
 have HKa := Aside0.mk (blk_new w (.cells #[.int .i64 a0_0,.int .i64 a0_1,.string a0_2,.slice A0_3 l0_3.length c0_3] 31))
 go_enter Tryd.func19,Tryd.ntmps19
 go_wp2_with fail
 refine (value_Check.calls k a0_0 a0_1 a0_2 A0_3 c0_3 l0_3 e1 _ (Kd.C_below HR0.out HB2.out) HC0.out (GL.below HGL.out HB2.out) HE1.out).mono ?_
 rintro e w1 ⟨rfl,hb⟩
 have HB3 := Aside0.mk (below_step HB2.out hb)
 have HKa1 := Aside0.mk (blk_below HKa.out hb)
 clear hb HKa HB2
 by_cases z1 : e1 = 0
 ·subst z1
  have h1 := HH.out
  rw [if_neg (fun h=>h rfl)] at h1
  obtain ⟨c0,c1,c2,c3⟩ := box4f HKa1.out
  unfold fmtV at h1
  by_cases t1 : a0_0 = 1
  ·rw [if_pos t1] at h1
   have t1' : (a0_0 == 1) = true := by simpa using t1
   by_cases u0 : a0_1 = 0
   ·subst u0
    have HR := Aside0.mk (Option.some.inj h1)
    have hix := two_index0 ⟨#[102,97,108,115,101]⟩ ⟨#[116,114,117,101]⟩
    clear t1 h1 HH
    go_wp2_with fail
    go_ret2
    exact ⟨ret_sp HR.out,HB3.out⟩
   ·rw [if_neg u0] at h1
    by_cases u1 : a0_1 = 1
    ·subst u1
     have HR := Aside0.mk (Option.some.inj h1)
     have hix := two_index1 ⟨#[102,97,108,115,101]⟩ ⟨#[116,114,117,101]⟩
     clear t1 h1 HH u0
     go_wp2_with fail
     go_ret2
     exact ⟨ret_sp HR.out,HB3.out⟩
    ·rw [if_neg u1] at h1
     cases h1
  ·rw [if_neg t1] at h1
   have t1' : (a0_0 == 1) = false := by simpa using t1
   by_cases t2 : a0_0 = 2
   ·rw [if_pos t2] at h1
    have t2' : (a0_0 == 2) = true := by simpa using t2
    obtain ⟨s,hs,h1⟩ := Option.map_eq_some_iff.1 h1
    have HR := Aside0.mk h1; have HS := Aside0.mk hs; clear t1 t2 h1 HH hs
    go_wp2_with fail
    refine (text_Number.calls a0_1 s _ (GL.below HGL.out HB3.out) HS.out).mono ?_
    rintro e w2 ⟨rfl,hb⟩
    have HB4 := Aside0.mk (below_step HB3.out hb)
    clear hb
    go_wp2_with fail
    go_ret2
    exact ⟨ret_sp HR.out,HB4.out⟩
   ·rw [if_neg t2] at h1
    have t2' : (a0_0 == 2) = false := by simpa using t2
    by_cases t3 : a0_0 = 3
    ·rw [if_pos t3] at h1
     have t3' : (a0_0 == 3) = true := by simpa using t3
     split at h1
     ·rename_i hsz
      have HR := Aside0.mk (Option.some.inj h1)
      have HSZ := Aside0.mk hsz; clear t1 t2 t3 h1 HH hsz
      go_wp2_with fail
      refine (text_Quote_any a0_2 _ HSZ.out (GL.below HGL.out HB3.out).utf8).mono ?_
      rintro e w2 ⟨rfl,hb⟩
      have HB4 := Aside0.mk (below_step HB3.out hb)
      clear hb
      go_wp2_with fail
      go_ret2
      exact ⟨ret_sp HR.out,HB4.out⟩
     ·cases h1
    ·rw [if_neg t3] at h1
     have t3' : (a0_0 == 3) = false := by simpa using t3
     by_cases t4 : a0_0 = 4
     ·rw [if_pos t4] at h1
      have t4' : (a0_0 == 4) = true := by simpa using t4
      have HR := Aside0.mk (Option.some.inj h1)
      clear t1 t2 t3 t4 h1 HH
      go_wp2_with fail
      go_ret2
      exact ⟨ret_sp HR.out,HB3.out⟩
     ·rw [if_neg t4] at h1
      have t4' : (a0_0 == 4) = false := by simpa using t4
      split at h1
      ·rename_i hlen
       have HR := Aside0.mk (Option.some.inj h1)
       have HLen := Aside0.mk hlen; clear t1 t2 t3 t4 h1 HH hlen; have hmax := Kd.C_max HR0.out
       have HQ := Aside0.mk (show ∀ x ∈ l0_3.map (fun s=>(quoteR s).1),x.size ≤ 402 from fun x hx=>by
        obtain ⟨s,-,rfl⟩ := List.mem_map.1 hx
        rw [← data_length]
        exact quoteR_len s)
       obtain ⟨i0,hi0,hi1,hi2,hi3⟩ := info_parts infoStr
       have HI0 := Aside0.mk hi0; clear hi0
       go_wp2_with fail
       go_loopw [5,42] (fun v5 v42 wr=>∃ q : Nat,v42 = .int .i64 (q : Int) ∧ q ≤ l0_3.length ∧ Aside0 (FIn w wr l0_3 (.cells #[.int .i64 a0_0,.int .i64 a0_1,.string a0_2,.slice A0_3 l0_3.length c0_3] 31 (0,0)) q v5)) (fun _ v42 _=>l0_3.length - (intOf v42).toNat)
       case atStart=>exact ⟨0,rfl,by omega,⟨own_nil _ _ _ _,HB3.out,HKa1.out,fun _=>rfl⟩⟩
       case round =>
        obtain ⟨q,rfl,hq,HJ⟩ := hrel
        by_cases hlt : q < l0_3.length
        ·obtain ⟨ad,ea,hx⟩ := Kd.at_string (Kd.C_below HR0.out HJ.out.below) (q : Int) (by omega) (by omega)
         cases ea
         have hd : decide ((q : Int) < (l0_3.length : Int)) = true := decide_eq_true (by omega)
         obtain ⟨x,hxx⟩ : ∃ x,x = rdOf ByteArray.empty l0_3 (q : Int):=⟨_,rfl⟩
         rw [← hxx,show (q : Int).toNat = q by omega] at hx
         have HX := Aside0.mk (show x = l0_3[q] by rw [hxx]; unfold rdOf; simp [hlt])
         clear hxx
         go_wp2_with fail
         refine (text_Quote_any x _ (by rw [HX.out]; exact HLen.out.2 _ (List.getElem_mem _)) (GL.below HGL.out HJ.out.below).utf8).mono ?_
         rintro e w2 ⟨rfl,hb⟩
         have HJ2 := Aside0.mk (show FIn w w2 l0_3 (.cells #[.int .i64 a0_0,.int .i64 a0_1,.string a0_2,.slice (some ad) l0_3.length c0_3] 31 (0,0)) q u5 from ⟨pw_own_below HJ.out.own hb,below_step HJ.out.below hb,blk_below HJ.out.box hb,HJ.out.nil⟩)
         clear hb hx HJ
         have h20 : l0_3.length ≤ 20 := HLen.out.1
         have hu29 := Tryd.underlying29
         have hl1 : (pw_strs ((l0_3.take q).map fun s=>(quoteR s).1)).length = q * 1 := by simp [pw_strs,Nat.min_eq_left hq]
         have HL1 := Aside0.mk hl1; have HZ := Aside0.mk HJ2.out.below.size; clear hl1; have h3 := HJ2.out.own
         rcases h3.2 with ⟨rfl,h0⟩|⟨g,cap,cur,rfl,hb,hg,hn,hmx,hcs,hcur⟩
         ·subst h0
          clear h3
          go_wp2_with (at_builtin; refine wpList_append_grows _ rfl (.tmp 56) (.tmp 58) 29 rfl 9 i0 _ 1 16 Tryd.underlying29 HI0.out hi1 hi2 hi3 rfl (by decide) none 0 0 [] rfl (fun _=>⟨rfl,rfl⟩) rfl (fun _ h=>by cases h) ⟨w2.heap.size,0,none⟩ 1 1 [.string (quoteR x).1] rfl rfl (World.news_of_block (blk_new w2 (.cells #[.string (quoteR x).1] 9))) (by simp [Value.oneCell']) (by omega) (by decide) (by decide) ?_; intro v' w3 hown hgr)
          go_roundw
          case rel =>
           refine ⟨1,rfl,by omega,⟨?_,?_,?_,fun h=>by omega⟩⟩
           ·have h5 := own_weaken hown (base' := w.heap.size) (by simp; have := HZ.out; have := HJ2.out.below.size; omega)
            rw [List.take_succ_eq_append_getElem hlt,List.map_append,pw_strs,List.map_append]
            have h6 : (quoteR x).1 = (quoteR l0_3[0]).1 := by rw [HX.out]
            rw [h6] at h5
            exact h5
           ·exact pw_below_grown (zE HJ2.out.below _) none (by simp; have := HJ2.out.below.size; omega) hgr (fun g hg=>by cases hg)
           ·exact blk_grown (zA HJ2.out.box _) hgr (by simp)
          case measure=>simp [intOf]; omega
         ·have hq0 : ¬ q = 0 := fun e=>by have := HJ2.out.nil e; cases this
          have HCur := Aside0.mk hcur; have HG := Aside0.mk hg; have HCS := Aside0.mk hcs; clear hcur hg hcs h3
          go_wp2_with (at_builtin; refine wpList_append_grows _ rfl (.tmp 56) (.tmp 58) 29 rfl 9 i0 _ 1 16 Tryd.underlying29 HI0.out hi1 hi2 hi3 rfl (by decide) (some ⟨g,0,none⟩) q q (pw_strs ((l0_3.take q).map fun s=>(quoteR s).1)) rfl (fun h=>by cases h) HL1.out ?hc ⟨w2.heap.size,0,none⟩ 1 1 [.string (quoteR x).1] rfl rfl (World.news_of_block (blk_new w2 (.cells #[.string (quoteR x).1] 9))) (by simp [Value.oneCell']) (by omega) (by unfold maxLen; omega) (by omega) ?_; rotate_left; intro v' w3 hown hgr)
          case hc =>
           rintro b hb2 j u hj
           obtain rfl := Option.some.inj hb2
           exact pw_cell_below (zE (Below.refl w2.heap.size w2) _) (HJ2.out.own.cells (g := g) rfl j u hj)
          go_roundw
          case rel =>
           refine ⟨q + 1,by go_num,by omega,⟨?_,?_,?_,fun h=>by omega⟩⟩
           ·have h5 := own_weaken hown (base' := w.heap.size) (by simp; have := HZ.out; have := HJ2.out.below.size; omega)
            rw [List.take_succ_eq_append_getElem hlt,List.map_append,pw_strs,List.map_append]
            have h6 : (quoteR x).1 = (quoteR l0_3[q]).1 := by rw [HX.out]
            rw [h6] at h5
            exact h5
           ·exact pw_below_grown (zE HJ2.out.below _) none (by simp; have := HJ2.out.below.size; omega) hgr (fun g hg=>by cases hg)
           ·exact blk_grown (zA HJ2.out.box _) hgr (by simp)
          case measure=>simp [intOf]; omega
        ·obtain rfl : q = l0_3.length := by omega
         have h20 : l0_3.length ≤ 20 := HLen.out.1
         have HT := Aside0.mk (show (l0_3.take l0_3.length).map (fun s=>(quoteR s).1) = l0_3.map (fun s=>(quoteR s).1) by rw [List.take_length])
         have HJL := Aside0.mk (show (Lib.join (l0_3.map fun s=>(quoteR s).1.data.toList) [44,32]).length ≤ 8484 by
          have h1 := join_len [44,32] 402 (l0_3.map fun s=>(quoteR s).1.data.toList) (fun x hx=>by
           obtain ⟨s,-,rfl⟩ := List.mem_map.1 hx
           exact quoteR_len s)
          rw [List.length_map] at h1
          have h2 : (l0_3.length + 1) * (402 + [44,32].length) ≤ 21 * 404 := Nat.mul_le_mul (by omega) (by decide)
          omega)
         have HLL := Aside0.mk (show ((l0_3.map fun s=>(quoteR s).1).map (·.data.toList)) = l0_3.map fun s=>(quoteR s).1.data.toList by rw [List.map_map]; rfl)
         have h3 := HJ.out.own; have HZ := Aside0.mk HJ.out.below.size
         rcases h3.2 with ⟨rfl,h0⟩|⟨g,cap,cur,rfl,hb,hg,hn,hmx,hcs,hcur⟩
         ·have HE := Aside0.mk (show l0_3 = [] from List.eq_nil_of_length_eq_zero h0)
          clear h3
          go_wp2_with fail
          refine (Tryd.strings_Join_none _ _ _ _).mono ?_
          rintro e w2 ⟨rfl,rfl⟩
          go_wp2_with fail
          go_ret2
          exact ⟨ret_sp (by rw [← HR.out,HE.out]; rfl),HJ.out.below⟩
         ·have hlt2 := blk_lt hg
          have HG := Aside0.mk hg; clear hcur hg hcs h3
          go_wp2_with fail
          have hcalls := Tryd.strings_Join g 0 cap (l0_3.map fun s=>(quoteR s).1) ⟨#[44,32]⟩ wr (fun j x hx=>by
           have := HJ.out.own.cells (g := g) rfl j (.string x) (by rw [HT.out,pw_strs,List.getElem?_map,hx]; rfl)
           rwa [Nat.zero_add,← add_plain]) hlt2 (by rw [List.length_map]; omega) (by rw [List.length_map]; exact hn) (by
           rw [HLL.out]
           have := HJL.out
           show (Lib.join _ [44,32]).length ≤ _
           omega)
          rw [List.length_map,HLL.out] at hcalls
          refine hcalls.mono ?_
          rintro e w2 ⟨rfl,hb2⟩
          have HB5 := Aside0.mk (below_step HJ.out.below hb2)
          have HR2 := Aside0.mk (show (ba (listL l0_3),(0 : Int)) = (r1,r2) from HR.out)
          obtain ⟨jn,hjn⟩ : ∃ jn,jn = Lib.join (l0_3.map fun s=>(quoteR s).1.data.toList) [44,32]:=⟨_,rfl⟩
          have hjl : jn.length ≤ 8484 := by rw [hjn]; exact HJL.out
          have HJN := Aside0.mk hjn
          have e44 : (⟨#[44,32]⟩ : ByteArray).data.toList = [44,32] := rfl
          rw [e44,← hjn]
          clear hcalls hb2 hjn e44
          go_wp2_with fail
          go_ret2
          refine ⟨ret_sp ?_,HB5.out⟩
          rw [← HR2.out]
          refine Prod.ext ?_ rfl
          show _ = ba (listL l0_3)
          unfold listL
          rw [← HJN.out]
          apply ByteArray.ext
          simp [ba]
      ·cases h1
 ·have z1' : (e1 != 0) = true := by simpa using z1
  have HR := Aside0.mk (show (ba [],e1) = (r1,r2) by have := HH.out; rw [if_pos z1] at this; exact Option.some.inj this)
  clear z1 HH
  go_wp2_with fail
  go_ret2
  exact ⟨ret_sp HR.out,HB3.out⟩

/-! ### text_ParseNumber: function 40 -/
def text_ParseNumber.f (a0 : ByteArray) : Option (Int × Int) := if a0.size ≤ 281474976710656 then some (pnum a0.data.toList) else none
theorem text_ParseNumber.calls (a0 : ByteArray) (r1 r2 : Int) (w : World) (hGL : GL w) (h : text_ParseNumber.f a0 = some (r1, r2)) :
  Calls Tryd.prog 40 #[.string a0] w fun e w'=>e = .returned (.tuple #[.int .i64 r1,.int .i64 r2]) ∧ Below w.heap.size w w' := by
 unfold text_ParseNumber.f at h
 split at h
 ·rename_i hb
  refine (text_ParseNumber_any a0 w hb hGL.ErrRange).mono fun e w' he=>⟨?_,he.2⟩
  rw [he.1,Option.some.inj h]
 ·cases h

/-! ### stringslite_HasPrefix: function 59 -/
def stringslite_HasPrefix.f (a0 : ByteArray) (a1 : ByteArray) : Option (Bool) := if (a0.size : Int) ≥ (a1.size : Int) then (if 0 ≤ (a1.size : Int) then (if (a1.size : Int) ≤ (a0.size : Int) then (some ((a0.extract 0 ((a1.size : Int) : Int).toNat).toList == a1.toList)) else (none)) else (none)) else (some false)
set_option maxHeartbeats 8000000 in
set_option maxRecDepth 100000 in
theorem stringslite_HasPrefix.calls (a0 : ByteArray) (a1 : ByteArray) (r : Bool) (w : World) (h : stringslite_HasPrefix.f a0 a1 = some r) :
  Calls Tryd.prog 59 #[.string a0,.string a1] w fun e w'=>e = .returned (.bool r) ∧ Drawn0 w w' := by
 have H : (if (a0.size : Int) ≥ (a1.size : Int) then (if 0 ≤ (a1.size : Int) then (if (a1.size : Int) ≤ (a0.size : Int) then (some ((a0.extract 0 ((a1.size : Int) : Int).toNat).toList == a1.toList)) else (none)) else (none)) else (some false)) = some r := h
 clear h
 by_cases c3 : (a0.size : Int) ≥ (a1.size : Int)
 ·rw [if_pos c3] at H
  have c3b0 : decide ((a1.size : Int) ≤ (a0.size : Int)) = true := decide_eq_true c3
  have c3b1 : decide (a1.size ≤ a0.size) = true := decide_eq_true (Int.ofNat_le.mp c3)
  clear c3
  by_cases c4 : 0 ≤ (a1.size : Int)
  ·rw [if_pos c4] at H
   have c4b0 := eq_true c4
   have c4b1 : decide (0 ≤ (a1.size : Int)) = true := decide_eq_true c4
   clear c4
   by_cases c5 : (a1.size : Int) ≤ (a0.size : Int)
   ·rw [if_pos c5] at H
    have c5b0 := eq_true c5
    have c5b1 : decide ((a1.size : Int) ≤ (a0.size : Int)) = true := decide_eq_true c5
    clear c5
    obtain rfl := Option.some.inj H
    go_enter Tryd.func59,Tryd.ntmps59
    go_wp2
    go_ret
    exact ⟨by first|rfl|(simp; done)|(simp [*]; done),by repeat (first|exact Drawn0.refl _|apply Drawn0.step)⟩
   ·rw [if_neg c5] at H
    exact absurd H (by simp)
  ·rw [if_neg c4] at H
   exact absurd H (by simp)
 ·rw [if_neg c3] at H
  have c3b0 : decide ((a1.size : Int) ≤ (a0.size : Int)) = false := decide_eq_false c3
  have c3b1 : decide (a1.size ≤ a0.size) = false := decide_eq_false (fun h=>c3 (Int.ofNat_le.mpr h))
  clear c3
  obtain rfl := Option.some.inj H
  go_enter Tryd.func59,Tryd.ntmps59
  go_wp2
  go_ret
  exact ⟨by first|rfl|(simp; done)|(simp [*]; done),by repeat (first|exact Drawn0.refl _|apply Drawn0.step)⟩

/-! ### strings_HasPrefix: function 48 -/
def strings_HasPrefix.f (a0 : ByteArray) (a1 : ByteArray) : Option (Bool) := (stringslite_HasPrefix.f a0 a1).bind fun t114 => (some t114)
set_option maxHeartbeats 8000000 in
set_option maxRecDepth 100000 in
theorem strings_HasPrefix.calls (a0 : ByteArray) (a1 : ByteArray) (r : Bool) (w : World) (h : strings_HasPrefix.f a0 a1 = some r) :
  Calls Tryd.prog 48 #[.string a0,.string a1] w fun e w'=>e = .returned (.bool r) ∧ Drawn0 w w' := by
 have H : ((stringslite_HasPrefix.f a0 a1).bind fun t114=>(some t114)) = some r := h
 clear h; replace H := Option.bind_eq_some_iff.mp H; obtain ⟨t114,A30,H⟩ := H
 replace H : (some t114) = some r := H
 have A3 := Aside0.mk A30; clear A30
 obtain rfl := Option.some.inj H
 go_enter Tryd.func48,Tryd.ntmps48
 go_wp2_with (first|((with_reducible refine gate_callee (f := 59) rfl ?_); refine goesL_ (some 7) rfl rfl Tryd.func59 (by kernel_rfl) rfl #[.string a0,.string a1] rfl (by (try simp only [List.map_toArray,List.map_cons,List.map_nil]); first|done|rfl|(simp only [List.length_drop,List.length_take]; rfl)) ?_;(with_reducible refine (stringslite_HasPrefix.calls a0 a1 t114 _ A3.out).mono ?_); rintro e w' ⟨rfl,⟨nd,rfl⟩⟩; refine ⟨_,rfl,?_⟩))
 go_ret
 exact ⟨by first|rfl|(simp; done)|(simp [*]; done),by repeat (first|exact Drawn0.refl _|apply Drawn0.step)⟩

/-! ### text_Unquote: function 49 -/
def text_Unquote.f (a0 : ByteArray) : Option (ByteArray × Int) := if a0.size ≤ 140737488355328 then some (unquoteR a0) else none
theorem text_Unquote.calls (a0 : ByteArray) (r1 : ByteArray) (r2 : Int) (w : World) (hGL : GL w) (h : text_Unquote.f a0 = some (r1, r2)) :
  Calls Tryd.prog 49 #[.string a0] w fun e w'=>e = .returned (.tuple #[.string r1,.int .i64 r2]) ∧ Below w.heap.size w w' := by
 unfold text_Unquote.f at h
 split at h
 ·rename_i hb
  refine (text_Unquote_any a0 w hb hGL.utf8).mono fun e w' he=>⟨?_,he.2⟩
  rw [he.1,Option.some.inj h]
 ·cases h

/-! ### value_quoted: function 60 -/
def value_quoted.l0 : Nat → ByteArray → Bool → Int → Option (Int)
 | 0,_,_,_=>none
 | k + 1,x0,x3,x4=>if x4 < (x0.size : Int) then (if x3 = true then (value_quoted.l0 k x0 false (wrap64 (x4 + 1))) else (if 0 ≤ x4 then (if (bt x0 x4) = 92 then (value_quoted.l0 k x0 true (wrap64 (x4 + 1))) else (if (bt x0 x4) = 34 then (some (wrap64 (x4 + 1))) else (value_quoted.l0 k x0 x3 (wrap64 (x4 + 1))))) else (none))) else (some (x0.size : Int))
def value_quoted.f (k : Nat) (a0 : ByteArray) : Option (Int) := value_quoted.l0 k a0 false 1
theorem value_quoted.mono_l : ∀ k, (∀ y0 y1 y2, LeO (value_quoted.l0 k y0 y1 y2) (value_quoted.l0 (k + 1) y0 y1 y2))
 | 0=>fun _ _ _ r h=>by simp [value_quoted.l0] at h
 | k + 1=>by
  have ih0 := value_quoted.mono_l k
  ·intro y0 y1 y2
   unfold value_quoted.l0
   repeat' first
   | (with_reducible exact ih0 _ _ _)
   | (with_reducible exact LeO.refl _)
   | (with_reducible exact LeO.none _)
   | (with_reducible refine LeO.ite ?_ ?_)
   | (with_reducible refine LeO.bind ?_ (fun _=>?_))
   | exact ih0 _ _ _
   | exact LeO.none _
   | refine LeO.ite ?_ ?_
   | refine LeO.bind ?_ (fun _=>?_)
theorem value_quoted.mono : ∀ a0 k, LeO (value_quoted.f k a0) (value_quoted.f (k + 1) a0) := by
 intro a0 k
 have ih0 := value_quoted.mono_l k
 unfold value_quoted.f
 repeat' first
   | (with_reducible exact ih0 _ _ _)
   | (with_reducible exact LeO.refl _)
   | (with_reducible exact LeO.none _)
   | (with_reducible refine LeO.ite ?_ ?_)
   | (with_reducible refine LeO.bind ?_ (fun _=>?_))
   | exact ih0 _ _ _
   | exact LeO.none _
   | refine LeO.ite ?_ ?_
   | refine LeO.bind ?_ (fun _=>?_)
set_option maxHeartbeats 8000000 in
set_option maxRecDepth 100000 in
theorem value_quoted.calls (k : Nat) (a0 : ByteArray) (r : Int) (w : World) (h : value_quoted.f k a0 = some r) :
  Calls Tryd.prog 60 #[.string a0] w fun e w'=>e = .returned (.int .i64 r) ∧ Drawn0 w w' := by
 have H : (value_quoted.l0 k a0 false 1) = some r := h
 clear h; have H' := Aside0.mk H; clear H
 go_enter Tryd.func60,Tryd.ntmps60
 go_wp2
 go_loopg [3,4] k (fun kq v3 v4 w'=>∃ (x3_1 : Bool) (x4_1 : Int),v3 = .bool x3_1 ∧ v4 = .int .i64 x4_1 ∧ Aside0 (value_quoted.l0 kq a0 x3_1 x4_1 = some r) ∧ Aside0 (kq ≤ k) ∧ Drawn0 w w')
 case atStart=>exact ⟨(false),(1),(by first|rfl|(simp; done)|(simp [*]; done)),(by first|rfl|(simp; done)|(simp [*]; done)),H',⟨Nat.le_refl _⟩,by repeat (first|exact Drawn0.refl _|apply Drawn0.step)⟩
 case round =>
  clear H'
  obtain ⟨x3_1,x4_1,rfl,rfl,HA,HK1,⟨m1,rfl⟩⟩ := hrel
  cases gk with
  | zero=>exact absurd HA.out (by simp [value_quoted.l0])
  | succ k1 =>
   have H := HA.out; clear HA
   simp only [value_quoted.l0] at H
   by_cases c2 : x4_1 < (a0.size : Int)
   ·rw [if_pos c2] at H
    have c2b0 : decide (x4_1 < (a0.size : Int)) = true := decide_eq_true c2
    clear c2
    by_cases c3 : x3_1 = true
    ·subst c3
     have H1 : (value_quoted.l0 k1 a0 false (wrap64 (x4_1 + 1))) = some r := by rw [if_pos rfl] at H; exact H
     clear H; have H := H1; clear H1; have H' := Aside0.mk H; clear H
     go_wp2
     go_roundg k1
     case measure=>have := HK1.out; omega
     case rel=>exact ⟨(false),(wrap64 (x4_1 + 1)),(by first|rfl|(simp; done)|(simp [*]; done)),(by first|rfl|(simp; done)|(simp [*]; done)),H',⟨by have := HK1.out; omega⟩,by repeat (first|exact Drawn0.refl _|apply Drawn0.step)⟩
    ·replace c3 := Bool.eq_false_iff.mpr c3
     subst c3
     have H1 : (if 0 ≤ x4_1 then (if (bt a0 x4_1) = 92 then (value_quoted.l0 k1 a0 true (wrap64 (x4_1 + 1))) else (if (bt a0 x4_1) = 34 then (some (wrap64 (x4_1 + 1))) else (value_quoted.l0 k1 a0 false (wrap64 (x4_1 + 1))))) else (none)) = some r := by rw [if_neg (show ¬ (false = true) by decide)] at H; exact H
     clear H; have H := H1; clear H1
     by_cases c4 : 0 ≤ x4_1
     ·rw [if_pos c4] at H
      have c4b0 : decide (0 ≤ x4_1) = true := decide_eq_true c4
      clear c4
      by_cases c6 : (bt a0 x4_1) = 92
      ·rw [if_pos c6] at H
       have c6b0 : ((bt a0 x4_1) == 92) = true := beq_iff_eq.mpr c6
       have c6b1 : ((bt a0 x4_1) != 92) = false := bne_eq_false_iff_eq.mpr c6
       clear c6; have H' := Aside0.mk H; clear H
       have p5 : 0 ≤ (x4_1 : Int) := of_decide_eq_true (by first|(with_reducible assumption)|assumption)
       have q5 : x4_1 < (a0.size : Int) := of_decide_eq_true (by first|(with_reducible assumption)|assumption)
       have hx5 := bt_at a0 x4_1
       replace p5 := eq_true p5
       replace q5 := eq_true q5
       go_wp2
       go_roundg k1
       case measure=>have := HK1.out; omega
       case rel=>exact ⟨(true),(wrap64 (x4_1 + 1)),(by first|rfl|(simp; done)|(simp [*]; done)),(by first|rfl|(simp; done)|(simp [*]; done)),H',⟨by have := HK1.out; omega⟩,by repeat (first|exact Drawn0.refl _|apply Drawn0.step)⟩
      ·rw [if_neg c6] at H
       have c6b0 : ((bt a0 x4_1) == 92) = false := beq_eq_false_iff_ne.mpr c6
       have c6b1 : ((bt a0 x4_1) != 92) = true := bne_iff_ne.mpr c6
       by_cases c8 : (bt a0 x4_1) = 34
       ·rw [if_pos c8] at H
        have c8b0 : ((bt a0 x4_1) == 34) = true := beq_iff_eq.mpr c8
        have c8b1 : ((bt a0 x4_1) != 34) = false := bne_eq_false_iff_eq.mpr c8
        clear c8
        obtain rfl := Option.some.inj H
        have p5 : 0 ≤ (x4_1 : Int) := of_decide_eq_true (by first|(with_reducible assumption)|assumption)
        have q5 : x4_1 < (a0.size : Int) := of_decide_eq_true (by first|(with_reducible assumption)|assumption)
        have hx5 := bt_at a0 x4_1
        replace p5 := eq_true p5
        replace q5 := eq_true q5
        have p7 : 0 ≤ (x4_1 : Int) := of_decide_eq_true (by first|(with_reducible assumption)|assumption)
        have q7 : x4_1 < (a0.size : Int) := of_decide_eq_true (by first|(with_reducible assumption)|assumption)
        have hx7 := bt_at a0 x4_1
        replace p7 := eq_true p7
        replace q7 := eq_true q7
        go_wp2
        go_ret
        exact ⟨by first|rfl|(simp; done)|(simp [*]; done),by repeat (first|exact Drawn0.refl _|apply Drawn0.step)⟩
       ·rw [if_neg c8] at H
        have c8b0 : ((bt a0 x4_1) == 34) = false := beq_eq_false_iff_ne.mpr c8
        have c8b1 : ((bt a0 x4_1) != 34) = true := bne_iff_ne.mpr c8
        have H' := Aside0.mk H; clear H
        have p5 : 0 ≤ (x4_1 : Int) := of_decide_eq_true (by first|(with_reducible assumption)|assumption)
        have q5 : x4_1 < (a0.size : Int) := of_decide_eq_true (by first|(with_reducible assumption)|assumption)
        have hx5 := bt_at a0 x4_1
        replace p5 := eq_true p5
        replace q5 := eq_true q5
        have p7 : 0 ≤ (x4_1 : Int) := of_decide_eq_true (by first|(with_reducible assumption)|assumption)
        have q7 : x4_1 < (a0.size : Int) := of_decide_eq_true (by first|(with_reducible assumption)|assumption)
        have hx7 := bt_at a0 x4_1
        replace p7 := eq_true p7
        replace q7 := eq_true q7
        go_wp2
        go_roundg k1
        case measure=>have := HK1.out; omega
        case rel=>exact ⟨(false),(wrap64 (x4_1 + 1)),(by first|rfl|(simp; done)|(simp [*]; done)),(by first|rfl|(simp; done)|(simp [*]; done)),H',⟨by have := HK1.out; omega⟩,by repeat (first|exact Drawn0.refl _|apply Drawn0.step)⟩
     ·rw [if_neg c4] at H
      exact absurd H (by simp)
   ·rw [if_neg c2] at H
    have c2b0 : decide (x4_1 < (a0.size : Int)) = false := decide_eq_false c2
    clear c2
    obtain rfl := Option.some.inj H
    go_wp2
    go_ret
    exact ⟨by first|rfl|(simp; done)|(simp [*]; done),by repeat (first|exact Drawn0.refl _|apply Drawn0.step)⟩

/-! ### stringslite_TrimPrefix: function 72 -/
def stringslite_TrimPrefix.f (a0 : ByteArray) (a1 : ByteArray) : Option (ByteArray) := (stringslite_HasPrefix.f a0 a1).bind fun t115 => (if t115 = true then (if 0 ≤ (a1.size : Int) then (if (a1.size : Int) ≤ (a0.size : Int) then (some (a0.extract ((a1.size : Int) : Int).toNat a0.size)) else (none)) else (none)) else (some a0))
set_option maxHeartbeats 8000000 in
set_option maxRecDepth 100000 in
theorem stringslite_TrimPrefix.calls (a0 : ByteArray) (a1 : ByteArray) (r : ByteArray) (w : World) (h : stringslite_TrimPrefix.f a0 a1 = some r) :
  Calls Tryd.prog 72 #[.string a0,.string a1] w fun e w'=>e = .returned (.string r) ∧ Drawn0 w w' := by
 have H : ((stringslite_HasPrefix.f a0 a1).bind fun t115=>(if t115 = true then (if 0 ≤ (a1.size : Int) then (if (a1.size : Int) ≤ (a0.size : Int) then (some (a0.extract ((a1.size : Int) : Int).toNat a0.size)) else (none)) else (none)) else (some a0))) = some r := h
 clear h; replace H := Option.bind_eq_some_iff.mp H; obtain ⟨t115,A30,H⟩ := H
 replace H : (if t115 = true then (if 0 ≤ (a1.size : Int) then (if (a1.size : Int) ≤ (a0.size : Int) then (some (a0.extract ((a1.size : Int) : Int).toNat a0.size)) else (none)) else (none)) else (some a0)) = some r := H
 have A3 := Aside0.mk A30; clear A30
 by_cases c4 : t115 = true
 ·subst c4
  have H1 : (if 0 ≤ (a1.size : Int) then (if (a1.size : Int) ≤ (a0.size : Int) then (some (a0.extract ((a1.size : Int) : Int).toNat a0.size)) else (none)) else (none)) = some r := by rw [if_pos rfl] at H; exact H
  clear H; have H := H1; clear H1
  by_cases c5 : 0 ≤ (a1.size : Int)
  ·rw [if_pos c5] at H
   have c5b0 := eq_true c5
   have c5b1 : decide (0 ≤ (a1.size : Int)) = true := decide_eq_true c5
   clear c5
   by_cases c6 : (a1.size : Int) ≤ (a0.size : Int)
   ·rw [if_pos c6] at H
    have c6b0 := eq_true c6
    have c6b1 : decide ((a1.size : Int) ≤ (a0.size : Int)) = true := decide_eq_true c6
    clear c6
    obtain rfl := Option.some.inj H
    go_enter Tryd.func72,Tryd.ntmps72
    go_wp2_with (first|((with_reducible refine gate_callee (f := 59) rfl ?_); refine goesL_ (some 7) rfl rfl Tryd.func59 (by kernel_rfl) rfl #[.string a0,.string a1] rfl (by (try simp only [List.map_toArray,List.map_cons,List.map_nil]); first|done|rfl|(simp only [List.length_drop,List.length_take]; rfl)) ?_;(with_reducible refine (stringslite_HasPrefix.calls a0 a1 true _ A3.out).mono ?_); rintro e w' ⟨rfl,⟨nd,rfl⟩⟩; refine ⟨_,rfl,?_⟩))
    go_ret
    exact ⟨by first|rfl|(simp; done)|(simp [*]; done),by repeat (first|exact Drawn0.refl _|apply Drawn0.step)⟩
   ·rw [if_neg c6] at H
    exact absurd H (by simp)
  ·rw [if_neg c5] at H
   exact absurd H (by simp)
 ·replace c4 := Bool.eq_false_iff.mpr c4
  subst c4
  have H1 : (some a0) = some r := by rw [if_neg (show ¬ (false = true) by decide)] at H; exact H
  clear H; have H := H1; clear H1
  obtain rfl := Option.some.inj H
  go_enter Tryd.func72,Tryd.ntmps72
  go_wp2_with (first|((with_reducible refine gate_callee (f := 59) rfl ?_); refine goesL_ (some 7) rfl rfl Tryd.func59 (by kernel_rfl) rfl #[.string a0,.string a1] rfl (by (try simp only [List.map_toArray,List.map_cons,List.map_nil]); first|done|rfl|(simp only [List.length_drop,List.length_take]; rfl)) ?_;(with_reducible refine (stringslite_HasPrefix.calls a0 a1 false _ A3.out).mono ?_); rintro e w' ⟨rfl,⟨nd,rfl⟩⟩; refine ⟨_,rfl,?_⟩))
  go_ret
  exact ⟨by first|rfl|(simp; done)|(simp [*]; done),by repeat (first|exact Drawn0.refl _|apply Drawn0.step)⟩

/-! ### strings_TrimPrefix: function 61 -/
def strings_TrimPrefix.f (a0 : ByteArray) (a1 : ByteArray) : Option (ByteArray) := (stringslite_TrimPrefix.f a0 a1).bind fun t116 => (some t116)
set_option maxHeartbeats 8000000 in
set_option maxRecDepth 100000 in
theorem strings_TrimPrefix.calls (a0 : ByteArray) (a1 : ByteArray) (r : ByteArray) (w : World) (h : strings_TrimPrefix.f a0 a1 = some r) :
  Calls Tryd.prog 61 #[.string a0,.string a1] w fun e w'=>e = .returned (.string r) ∧ Drawn0 w w' := by
 have H : ((stringslite_TrimPrefix.f a0 a1).bind fun t116=>(some t116)) = some r := h
 clear h; replace H := Option.bind_eq_some_iff.mp H; obtain ⟨t116,A30,H⟩ := H
 replace H : (some t116) = some r := H
 have A3 := Aside0.mk A30; clear A30
 obtain rfl := Option.some.inj H
 go_enter Tryd.func61,Tryd.ntmps61
 go_wp2_with (first|((with_reducible refine gate_callee (f := 72) rfl ?_); refine goesL_ (some 7) rfl rfl Tryd.func72 (by kernel_rfl) rfl #[.string a0,.string a1] rfl (by (try simp only [List.map_toArray,List.map_cons,List.map_nil]); first|done|rfl|(simp only [List.length_drop,List.length_take]; rfl)) ?_;(with_reducible refine (stringslite_TrimPrefix.calls a0 a1 t116 _ A3.out).mono ?_); rintro e w' ⟨rfl,⟨nd,rfl⟩⟩; refine ⟨_,rfl,?_⟩))
 go_ret
 exact ⟨by first|rfl|(simp; done)|(simp [*]; done),by repeat (first|exact Drawn0.refl _|apply Drawn0.step)⟩

end Go.Proofs.YtannjakcnnefhaaDoor.O
