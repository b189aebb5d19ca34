import Derived.Test.YtannjakcnnefhaaGreatDoorCU0
import Derived.Test.YtannjakcnnefhaaGreatDoorCU2
-- printed by wip/hp.py (the session's driver of the print, with hand-proved contracts)
namespace Go.Proofs.YtannjakcnnefhaaGreatDoor.U
open Go.RowKit Go.Proofs.YtannjakcnnefhaaGreatDoorW.PrintWords Go.Proofs.YtannjakcnnefhaaGreatDoorW.PrintLast Go.Proofs.YtannjakcnnefhaaGreatDoorW.PrintMore
attribute [local go_sem] max2_int min2_int max_two min_two max_three min_three max_four min_four   -- for this text's walks alone
set_option linter.unusedVariables false
set_option linter.unusedSimpArgs false

/-! ### text_Number: function 34 -/
theorem below_grown_itoa (w : World) (k : Nat) (os : Array Obj) : Below w.heap.size w (Go.Sort.grow (w.drewN k) os) := by
 refine ⟨rfl,rfl,rfl,?_,fun i hi=>?_⟩
 ·show w.heap.size ≤ (w.heap ++ os).size
  rw [Array.size_append]; omega
 ·show (w.heap ++ os)[i]? = w.heap[i]?
  rw [Array.getElem?_append_left hi]
def text_Number.f (a0 : Int) : Option ByteArray := if -9223372036854775808 ≤ a0 ∧ a0 ≤ 9223372036854775807 then some ⟨(Lib.itoa a0).toArray⟩ else none
set_option maxHeartbeats 1000000 in
theorem text_Number.calls (a0 : Int) (r : ByteArray) (w : World) (hGL : GL w) (h : text_Number.f a0 = some r) :
  Calls Tryz.prog 34 #[.int .i64 a0] w fun e w'=>e = .returned (.string r) ∧ Below w.heap.size w w' := by
 unfold text_Number.f at h
 split at h
 ·rename_i hb
  obtain rfl := Option.some.inj h
  have HT := Aside0.mk hGL.uint64pow10
  obtain ⟨b0,b1⟩ := hb
  clear h hGL
  go_enter Tryz.func34,Tryz.ntmps34
  go_wp2_with fail
  refine (Tryz.strconv_Itoa a0 b0 b1 w HT.out).mono ?_
  rintro e w' ⟨rfl,k,os,hw⟩
  have HB := Aside0.mk (show Below w.heap.size w w' by rw [hw]; exact below_grown_itoa w k os)
  clear hw
  go_wp2_with fail
  go_ret
  exact ⟨rfl,HB.out⟩
 ·cases h

/-! ### value_Format: function 16 -/
/-- The source form of a value without an error. -/
def fmtV (a0 a1 : Int) (a2 : ByteArray) (l : List ByteArray) : Option (ByteArray × Int) :=
 if a0 = 1 then (if a1 = 0 then some (ba [102,97,108,115,101],0) else if a1 = 1 then some (ba [116,114,117,101],0) else none)
 else if a0 = 2 then (text_Number.f a1).map fun s=>(s,0)
 else if a0 = 3 then (if a2.size ≤ 9223372036854775807 then some (quoteR a2) else none)
 else if a0 = 4 then some (a2,0)
 else if l.length ≤ 20 ∧ ∀ x ∈ l,x.size ≤ 9223372036854775807 then some (ba (listL l),0) else none
def value_Format.f (k : Nat) (a0_0 a0_1 : Int) (a0_2 : ByteArray) (l0_3 : List ByteArray) : Option (ByteArray × Int) :=
 (value_Check.f k a0_0 a0_1 a0_2 l0_3).bind fun e=>if e ≠ 0 then some (ba [],e) else fmtV a0_0 a0_1 a0_2 l0_3
theorem value_Format.mono : ∀ a0 a1 a2 a3 k, LeO (value_Format.f k a0 a1 a2 a3) (value_Format.f (k + 1) a0 a1 a2 a3) := by
 intro a0 a1 a2 a3 k
 unfold value_Format.f
 refine LeO.bind (value_Check.mono _ _ _ _ _) fun e=>?_
 split
 ·exact LeO.refl _
 ·exact LeO.refl _
theorem box4f {W : World} {g t : Nat} {a b : Int} {s : ByteArray} {A : Option Addr} {n c : Nat} (h : W.heap[g]? = some (.cells #[.int .i64 a, .int .i64 b, .string s, .slice A n c] t (0, 0))) :
  W.cell? ⟨g,0,none⟩ = some (.int .i64 a) ∧ W.cell? ⟨g,1,none⟩ = some (.int .i64 b) ∧ W.cell? ⟨g,2,none⟩ = some (.string s) ∧ W.cell? ⟨g,3,none⟩ = some (.slice A n c) :=
 ⟨blk_cell h 0,blk_cell h 1,blk_cell h 2,blk_cell h 3⟩
theorem ret_sp {a a' : ByteArray} {b b' : Int} (h : (a, b) = (a', b')) : Ending.returned (.tuple #[.string a, .int .i64 b]) = .returned (.tuple #[.string a', .int .i64 b']) := by
 obtain ⟨rfl,rfl⟩ := Prod.mk.inj h
 rfl
theorem infoStr : (Tryz.prog.info? 9).map (fun i => (i.zero, i.size, i.bytes)) = some (some (.string ByteArray.empty), 1, 16) := by kernel_rfl
/-- Where value.Format stands in a list. -/
structure FIn (w wr : World) (l : List ByteArray) (box : Obj) (q : Nat) (v : Value) : Prop where
 own : wr.ownsRow w.heap.size 9 1 v q (pw_strs ((l.take q).map fun s=>(quoteR s).1))
 below : Below w.heap.size w wr
 box : wr.heap[w.heap.size]? = some box
 nil : q = 0 → v = .slice none 0 0
theorem two_index0 (a b : ByteArray) (w : World) : (Instr.index 58 (.agg #[.string a, .string b]) (.int .i64 0)).run Tryz.prog w = .ok (.string a) w := by
 have hu := Tryz.underlying58; have hz := Tryz.underlying9
 simp [Instr.index,run_underlying hu,asIntOf,go_sem]
theorem two_index1 (a b : ByteArray) (w : World) : (Instr.index 58 (.agg #[.string a, .string b]) (.int .i64 1)).run Tryz.prog w = .ok (.string b) w := by
 have hu := Tryz.underlying58; have hz := Tryz.underlying9
 simp [Instr.index,run_underlying hu,asIntOf,go_sem]
set_option maxHeartbeats 16000000 in
set_option maxRecDepth 1000000 in
theorem value_Format.calls (k : Nat) (a0_0 : Int) (a0_1 : Int) (a0_2 : ByteArray) (A0_3 : Option Addr) (c0_3 : Nat) (l0_3 : List ByteArray) (r1 : ByteArray) (r2 : Int) (w : World) (hr0_3 : Kd.C Kd.string w A0_3 l0_3.length l0_3) (hc0_3 : l0_3.length ≤ c0_3) (hGL : GL w) (h : value_Format.f k a0_0 a0_1 a0_2 l0_3 = some (r1, r2)) :
  Calls Tryz.prog 16 #[.agg #[.int .i64 a0_0,.int .i64 a0_1,.string a0_2,.slice A0_3 l0_3.length c0_3]] w fun e w'=>e = .returned (.tuple #[.string r1,.int .i64 r2]) ∧ Below w.heap.size w w' := by
 have HR0 := Aside0.mk hr0_3; have HC0 := Aside0.mk hc0_3; have HGL := Aside0.mk hGL; clear hr0_3 hc0_3 hGL
 obtain ⟨e1,he1,h⟩ := Option.bind_eq_some_iff.1 h
 have HE1 := Aside0.mk he1; have HH := Aside0.mk h; clear he1 h
 have HB2 := Aside0.mk (zE (Below.refl w.heap.size w) (.cells #[.int .i64 a0_0,.int .i64 a0_1,.string a0_2,.slice A0_3 l0_3.length c0_3] 24))
 have HKa := Aside0.mk (blk_new w (.cells #[.int .i64 a0_0,.int .i64 a0_1,.string a0_2,.slice A0_3 l0_3.length c0_3] 24))
 go_enter Tryz.func16,Tryz.ntmps16
 go_wp2_with fail
 refine (value_Check.calls k a0_0 a0_1 a0_2 A0_3 c0_3 l0_3 e1 _ (Kd.C_below HR0.out HB2.out) HC0.out (GL.below HGL.out HB2.out) HE1.out).mono ?_
 rintro e w1 ⟨rfl,hb⟩
 have HB3 := Aside0.mk (below_step HB2.out hb)
 have HKa1 := Aside0.mk (blk_below HKa.out hb)
 clear hb HKa HB2
 by_cases z1 : e1 = 0
 ·subst z1
  have h1 := HH.out
  rw [if_neg (fun h=>h rfl)] at h1
  obtain ⟨c0,c1,c2,c3⟩ := box4f HKa1.out
  unfold fmtV at h1
  by_cases t1 : a0_0 = 1
  ·rw [if_pos t1] at h1
   have t1' : (a0_0 == 1) = true := by simpa using t1
   by_cases u0 : a0_1 = 0
   ·subst u0
    have HR := Aside0.mk (Option.some.inj h1)
    have hix := two_index0 ⟨#[102,97,108,115,101]⟩ ⟨#[116,114,117,101]⟩
    clear t1 h1 HH
    go_wp2_with fail
    go_ret2
    exact ⟨ret_sp HR.out,HB3.out⟩
   ·rw [if_neg u0] at h1
    by_cases u1 : a0_1 = 1
    ·subst u1
     have HR := Aside0.mk (Option.some.inj h1)
     have hix := two_index1 ⟨#[102,97,108,115,101]⟩ ⟨#[116,114,117,101]⟩
     clear t1 h1 HH u0
     go_wp2_with fail
     go_ret2
     exact ⟨ret_sp HR.out,HB3.out⟩
    ·rw [if_neg u1] at h1
     cases h1
  ·rw [if_neg t1] at h1
   have t1' : (a0_0 == 1) = false := by simpa using t1
   by_cases t2 : a0_0 = 2
   ·rw [if_pos t2] at h1
    have t2' : (a0_0 == 2) = true := by simpa using t2
    obtain ⟨s,hs,h1⟩ := Option.map_eq_some_iff.1 h1
    have HR := Aside0.mk h1; have HS := Aside0.mk hs; clear t1 t2 h1 HH hs
    go_wp2_with fail
    refine (text_Number.calls a0_1 s _ (GL.below HGL.out HB3.out) HS.out).mono ?_
    rintro e w2 ⟨rfl,hb⟩
    have HB4 := Aside0.mk (below_step HB3.out hb)
    clear hb
    go_wp2_with fail
    go_ret2
    exact ⟨ret_sp HR.out,HB4.out⟩
   ·rw [if_neg t2] at h1
    have t2' : (a0_0 == 2) = false := by simpa using t2
    by_cases t3 : a0_0 = 3
    ·rw [if_pos t3] at h1
     have t3' : (a0_0 == 3) = true := by simpa using t3
     split at h1
     ·rename_i hsz
      have HR := Aside0.mk (Option.some.inj h1)
      have HSZ := Aside0.mk hsz; clear t1 t2 t3 h1 HH hsz
      go_wp2_with fail
      refine (text_Quote_any a0_2 _ HSZ.out (GL.below HGL.out HB3.out).utf8).mono ?_
      rintro e w2 ⟨rfl,hb⟩
      have HB4 := Aside0.mk (below_step HB3.out hb)
      clear hb
      go_wp2_with fail
      go_ret2
      exact ⟨ret_sp HR.out,HB4.out⟩
     ·cases h1
    ·rw [if_neg t3] at h1
     have t3' : (a0_0 == 3) = false := by simpa using t3
     by_cases t4 : a0_0 = 4
     ·rw [if_pos t4] at h1
      have t4' : (a0_0 == 4) = true := by simpa using t4
      have HR := Aside0.mk (Option.some.inj h1)
      clear t1 t2 t3 t4 h1 HH
      go_wp2_with fail
      go_ret2
      exact ⟨ret_sp HR.out,HB3.out⟩
     ·rw [if_neg t4] at h1
      have t4' : (a0_0 == 4) = false := by simpa using t4
      split at h1
      ·rename_i hlen
       have HR := Aside0.mk (Option.some.inj h1)
       have HLen := Aside0.mk hlen; clear t1 t2 t3 t4 h1 HH hlen; have hmax := Kd.C_max HR0.out
       have HQ := Aside0.mk (show ∀ x ∈ l0_3.map (fun s=>(quoteR s).1),x.size ≤ 402 from fun x hx=>by
        obtain ⟨s,-,rfl⟩ := List.mem_map.1 hx
        rw [← data_length]
        exact quoteR_len s)
       obtain ⟨i0,hi0,hi1,hi2,hi3⟩ := info_parts infoStr
       have HI0 := Aside0.mk hi0; clear hi0
       go_wp2_with fail
       go_loopw [5,42] (fun v5 v42 wr=>∃ q : Nat,v42 = .int .i64 (q : Int) ∧ q ≤ l0_3.length ∧ Aside0 (FIn w wr l0_3 (.cells #[.int .i64 a0_0,.int .i64 a0_1,.string a0_2,.slice A0_3 l0_3.length c0_3] 24 (0,0)) q v5)) (fun _ v42 _=>l0_3.length - (intOf v42).toNat)
       case atStart=>exact ⟨0,rfl,by omega,⟨own_nil _ _ _ _,HB3.out,HKa1.out,fun _=>rfl⟩⟩
       case round =>
        obtain ⟨q,rfl,hq,HJ⟩ := hrel
        by_cases hlt : q < l0_3.length
        ·obtain ⟨ad,ea,hx⟩ := Kd.at_string (Kd.C_below HR0.out HJ.out.below) (q : Int) (by omega) (by omega)
         cases ea
         have hd : decide ((q : Int) < (l0_3.length : Int)) = true := decide_eq_true (by omega)
         obtain ⟨x,hxx⟩ : ∃ x,x = rdOf ByteArray.empty l0_3 (q : Int):=⟨_,rfl⟩
         rw [← hxx,show (q : Int).toNat = q by omega] at hx
         have HX := Aside0.mk (show x = l0_3[q] by rw [hxx]; unfold rdOf; simp [hlt])
         clear hxx
         go_wp2_with fail
         refine (text_Quote_any x _ (by rw [HX.out]; exact HLen.out.2 _ (List.getElem_mem _)) (GL.below HGL.out HJ.out.below).utf8).mono ?_
         rintro e w2 ⟨rfl,hb⟩
         have HJ2 := Aside0.mk (show FIn w w2 l0_3 (.cells #[.int .i64 a0_0,.int .i64 a0_1,.string a0_2,.slice (some ad) l0_3.length c0_3] 24 (0,0)) q u5 from ⟨pw_own_below HJ.out.own hb,below_step HJ.out.below hb,blk_below HJ.out.box hb,HJ.out.nil⟩)
         clear hb hx HJ
         have h20 : l0_3.length ≤ 20 := HLen.out.1
         have hu29 := Tryz.underlying22
         have hl1 : (pw_strs ((l0_3.take q).map fun s=>(quoteR s).1)).length = q * 1 := by simp [pw_strs,Nat.min_eq_left hq]
         have HL1 := Aside0.mk hl1; have HZ := Aside0.mk HJ2.out.below.size; clear hl1; have h3 := HJ2.out.own
         rcases h3.2 with ⟨rfl,h0⟩|⟨g,cap,cur,rfl,hb,hg,hn,hmx,hcs,hcur⟩
         ·subst h0
          clear h3
          go_wp2_with (at_builtin; refine wpList_append_grows _ rfl (.tmp 56) (.tmp 58) 22 rfl 9 i0 _ 1 16 Tryz.underlying22 HI0.out hi1 hi2 hi3 rfl (by decide) none 0 0 [] rfl (fun _=>⟨rfl,rfl⟩) rfl (fun _ h=>by cases h) ⟨w2.heap.size,0,none⟩ 1 1 [.string (quoteR x).1] rfl rfl (World.news_of_block (blk_new w2 (.cells #[.string (quoteR x).1] 9))) (by simp [Value.oneCell']) (by omega) (by decide) (by decide) ?_; intro v' w3 hown hgr)
          go_roundw
          case rel =>
           refine ⟨1,rfl,by omega,⟨?_,?_,?_,fun h=>by omega⟩⟩
           ·have h5 := own_weaken hown (base' := w.heap.size) (by simp; have := HZ.out; have := HJ2.out.below.size; omega)
            rw [List.take_succ_eq_append_getElem hlt,List.map_append,pw_strs,List.map_append]
            have h6 : (quoteR x).1 = (quoteR l0_3[0]).1 := by rw [HX.out]
            rw [h6] at h5
            exact h5
           ·exact pw_below_grown (zE HJ2.out.below _) none (by simp; have := HJ2.out.below.size; omega) hgr (fun g hg=>by cases hg)
           ·exact blk_grown (zA HJ2.out.box _) hgr (by simp)
          case measure=>simp [intOf]; omega
         ·have hq0 : ¬ q = 0 := fun e=>by have := HJ2.out.nil e; cases this
          have HCur := Aside0.mk hcur; have HG := Aside0.mk hg; have HCS := Aside0.mk hcs; clear hcur hg hcs h3
          go_wp2_with (at_builtin; refine wpList_append_grows _ rfl (.tmp 56) (.tmp 58) 22 rfl 9 i0 _ 1 16 Tryz.underlying22 HI0.out hi1 hi2 hi3 rfl (by decide) (some ⟨g,0,none⟩) q q (pw_strs ((l0_3.take q).map fun s=>(quoteR s).1)) rfl (fun h=>by cases h) HL1.out ?hc ⟨w2.heap.size,0,none⟩ 1 1 [.string (quoteR x).1] rfl rfl (World.news_of_block (blk_new w2 (.cells #[.string (quoteR x).1] 9))) (by simp [Value.oneCell']) (by omega) (by unfold maxLen; omega) (by omega) ?_; rotate_left; intro v' w3 hown hgr)
          case hc =>
           rintro b hb2 j u hj
           obtain rfl := Option.some.inj hb2
           exact pw_cell_below (zE (Below.refl w2.heap.size w2) _) (HJ2.out.own.cells (g := g) rfl j u hj)
          go_roundw
          case rel =>
           refine ⟨q + 1,by go_num,by omega,⟨?_,?_,?_,fun h=>by omega⟩⟩
           ·have h5 := own_weaken hown (base' := w.heap.size) (by simp; have := HZ.out; have := HJ2.out.below.size; omega)
            rw [List.take_succ_eq_append_getElem hlt,List.map_append,pw_strs,List.map_append]
            have h6 : (quoteR x).1 = (quoteR l0_3[q]).1 := by rw [HX.out]
            rw [h6] at h5
            exact h5
           ·exact pw_below_grown (zE HJ2.out.below _) none (by simp; have := HJ2.out.below.size; omega) hgr (fun g hg=>by cases hg)
           ·exact blk_grown (zA HJ2.out.box _) hgr (by simp)
          case measure=>simp [intOf]; omega
        ·obtain rfl : q = l0_3.length := by omega
         have h20 : l0_3.length ≤ 20 := HLen.out.1
         have HT := Aside0.mk (show (l0_3.take l0_3.length).map (fun s=>(quoteR s).1) = l0_3.map (fun s=>(quoteR s).1) by rw [List.take_length])
         have HJL := Aside0.mk (show (Lib.join (l0_3.map fun s=>(quoteR s).1.data.toList) [44,32]).length ≤ 8484 by
          have h1 := join_len [44,32] 402 (l0_3.map fun s=>(quoteR s).1.data.toList) (fun x hx=>by
           obtain ⟨s,-,rfl⟩ := List.mem_map.1 hx
           exact quoteR_len s)
          rw [List.length_map] at h1
          have h2 : (l0_3.length + 1) * (402 + [44,32].length) ≤ 21 * 404 := Nat.mul_le_mul (by omega) (by decide)
          omega)
         have HLL := Aside0.mk (show ((l0_3.map fun s=>(quoteR s).1).map (·.data.toList)) = l0_3.map fun s=>(quoteR s).1.data.toList by rw [List.map_map]; rfl)
         have h3 := HJ.out.own; have HZ := Aside0.mk HJ.out.below.size
         rcases h3.2 with ⟨rfl,h0⟩|⟨g,cap,cur,rfl,hb,hg,hn,hmx,hcs,hcur⟩
         ·have HE := Aside0.mk (show l0_3 = [] from List.eq_nil_of_length_eq_zero h0)
          clear h3
          go_wp2_with fail
          refine (Tryz.strings_Join_none _ _ _ _).mono ?_
          rintro e w2 ⟨rfl,rfl⟩
          go_wp2_with fail
          go_ret2
          exact ⟨ret_sp (by rw [← HR.out,HE.out]; rfl),HJ.out.below⟩
         ·have hlt2 := blk_lt hg
          have HG := Aside0.mk hg; clear hcur hg hcs h3
          go_wp2_with fail
          have hcalls := Tryz.strings_Join g 0 cap (l0_3.map fun s=>(quoteR s).1) ⟨#[44,32]⟩ wr (fun j x hx=>by
           have := HJ.out.own.cells (g := g) rfl j (.string x) (by rw [HT.out,pw_strs,List.getElem?_map,hx]; rfl)
           rwa [Nat.zero_add,← add_plain]) hlt2 (by rw [List.length_map]; omega) (by rw [List.length_map]; exact hn) (by
           rw [HLL.out]
           have := HJL.out
           show (Lib.join _ [44,32]).length ≤ _
           omega)
          rw [List.length_map,HLL.out] at hcalls
          refine hcalls.mono ?_
          rintro e w2 ⟨rfl,hb2⟩
          have HB5 := Aside0.mk (below_step HJ.out.below hb2)
          have HR2 := Aside0.mk (show (ba (listL l0_3),(0 : Int)) = (r1,r2) from HR.out)
          obtain ⟨jn,hjn⟩ : ∃ jn,jn = Lib.join (l0_3.map fun s=>(quoteR s).1.data.toList) [44,32]:=⟨_,rfl⟩
          have hjl : jn.length ≤ 8484 := by rw [hjn]; exact HJL.out
          have HJN := Aside0.mk hjn
          have e44 : (⟨#[44,32]⟩ : ByteArray).data.toList = [44,32] := rfl
          rw [e44,← hjn]
          clear hcalls hb2 hjn e44
          go_wp2_with fail
          go_ret2
          refine ⟨ret_sp ?_,HB5.out⟩
          rw [← HR2.out]
          refine Prod.ext ?_ rfl
          show _ = ba (listL l0_3)
          unfold listL
          rw [← HJN.out]
          apply ByteArray.ext
          simp [ba]
      ·cases h1
 ·have z1' : (e1 != 0) = true := by simpa using z1
  have HR := Aside0.mk (show (ba [],e1) = (r1,r2) by have := HH.out; rw [if_pos z1] at this; exact Option.some.inj this)
  clear z1 HH
  go_wp2_with fail
  go_ret2
  exact ⟨ret_sp HR.out,HB3.out⟩

/-! ### text_ParseNumber: function 51 -/
def text_ParseNumber.f (a0 : ByteArray) : Option (Int × Int) := if a0.size ≤ 281474976710656 then some (pnum a0.data.toList) else none
theorem text_ParseNumber.calls (a0 : ByteArray) (r1 r2 : Int) (w : World) (hGL : GL w) (h : text_ParseNumber.f a0 = some (r1, r2)) :
  Calls Tryz.prog 51 #[.string a0] w fun e w'=>e = .returned (.tuple #[.int .i64 r1,.int .i64 r2]) ∧ Below w.heap.size w w' := by
 unfold text_ParseNumber.f at h
 split at h
 ·rename_i hb
  refine (text_ParseNumber_any a0 w hb hGL.ErrRange).mono fun e w' he=>⟨?_,he.2⟩
  rw [he.1,Option.some.inj h]
 ·cases h

/-! ### stringslite_HasPrefix: function 71 -/
def stringslite_HasPrefix.f (a0 : ByteArray) (a1 : ByteArray) : Option (Bool) := if (a0.size : Int) ≥ (a1.size : Int) then (if 0 ≤ (a1.size : Int) then (if (a1.size : Int) ≤ (a0.size : Int) then (some ((a0.extract 0 ((a1.size : Int) : Int).toNat).toList == a1.toList)) else (none)) else (none)) else (some false)
set_option maxHeartbeats 8000000 in
set_option maxRecDepth 100000 in
theorem stringslite_HasPrefix.calls (a0 : ByteArray) (a1 : ByteArray) (r : Bool) (w : World) (h : stringslite_HasPrefix.f a0 a1 = some r) :
  Calls Tryz.prog 71 #[.string a0,.string a1] w fun e w'=>e = .returned (.bool r) ∧ Drawn0 w w' := by
 have H : (if (a0.size : Int) ≥ (a1.size : Int) then (if 0 ≤ (a1.size : Int) then (if (a1.size : Int) ≤ (a0.size : Int) then (some ((a0.extract 0 ((a1.size : Int) : Int).toNat).toList == a1.toList)) else (none)) else (none)) else (some false)) = some r := h
 clear h
 by_cases c3 : (a0.size : Int) ≥ (a1.size : Int)
 ·rw [if_pos c3] at H
  have c3b0 : decide ((a1.size : Int) ≤ (a0.size : Int)) = true := decide_eq_true c3
  have c3b1 : decide (a1.size ≤ a0.size) = true := decide_eq_true (Int.ofNat_le.mp c3)
  clear c3
  by_cases c4 : 0 ≤ (a1.size : Int)
  ·rw [if_pos c4] at H
   have c4b0 := eq_true c4
   have c4b1 : decide (0 ≤ (a1.size : Int)) = true := decide_eq_true c4
   clear c4
   by_cases c5 : (a1.size : Int) ≤ (a0.size : Int)
   ·rw [if_pos c5] at H
    have c5b0 := eq_true c5
    have c5b1 : decide ((a1.size : Int) ≤ (a0.size : Int)) = true := decide_eq_true c5
    clear c5
    obtain rfl := Option.some.inj H
    go_enter Tryz.func71,Tryz.ntmps71
    go_wp2
    go_ret
    exact ⟨by first|rfl|(simp; done)|(simp [*]; done),by repeat (first|exact Drawn0.refl _|apply Drawn0.step)⟩
   ·rw [if_neg c5] at H
    exact absurd H (by simp)
  ·rw [if_neg c4] at H
   exact absurd H (by simp)
 ·rw [if_neg c3] at H
  have c3b0 : decide ((a1.size : Int) ≤ (a0.size : Int)) = false := decide_eq_false c3
  have c3b1 : decide (a1.size ≤ a0.size) = false := decide_eq_false (fun h=>c3 (Int.ofNat_le.mpr h))
  clear c3
  obtain rfl := Option.some.inj H
  go_enter Tryz.func71,Tryz.ntmps71
  go_wp2
  go_ret
  exact ⟨by first|rfl|(simp; done)|(simp [*]; done),by repeat (first|exact Drawn0.refl _|apply Drawn0.step)⟩

/-! ### strings_HasPrefix: function 57 -/
def strings_HasPrefix.f (a0 : ByteArray) (a1 : ByteArray) : Option (Bool) := (stringslite_HasPrefix.f a0 a1).bind fun t114 => (some t114)
set_option maxHeartbeats 8000000 in
set_option maxRecDepth 100000 in
theorem strings_HasPrefix.calls (a0 : ByteArray) (a1 : ByteArray) (r : Bool) (w : World) (h : strings_HasPrefix.f a0 a1 = some r) :
  Calls Tryz.prog 57 #[.string a0,.string a1] w fun e w'=>e = .returned (.bool r) ∧ Drawn0 w w' := by
 have H : ((stringslite_HasPrefix.f a0 a1).bind fun t114=>(some t114)) = some r := h
 clear h; replace H := Option.bind_eq_some_iff.mp H; obtain ⟨t114,A30,H⟩ := H
 replace H : (some t114) = some r := H
 have A3 := Aside0.mk A30; clear A30
 obtain rfl := Option.some.inj H
 go_enter Tryz.func57,Tryz.ntmps57
 go_wp2_with (first|((with_reducible refine gate_callee (f := 71) rfl ?_); refine goesL_ (some 7) rfl rfl Tryz.func71 (by kernel_rfl) rfl #[.string a0,.string a1] rfl (by (try simp only [List.map_toArray,List.map_cons,List.map_nil]); first|done|rfl|(simp only [List.length_drop,List.length_take]; rfl)) ?_;(with_reducible refine (stringslite_HasPrefix.calls a0 a1 t114 _ A3.out).mono ?_); rintro e w' ⟨rfl,⟨nd,rfl⟩⟩; refine ⟨_,rfl,?_⟩))
 go_ret
 exact ⟨by first|rfl|(simp; done)|(simp [*]; done),by repeat (first|exact Drawn0.refl _|apply Drawn0.step)⟩

/-! ### text_Unquote: function 58 -/
def text_Unquote.f (a0 : ByteArray) : Option (ByteArray × Int) := if a0.size ≤ 140737488355328 then some (unquoteR a0) else none
theorem text_Unquote.calls (a0 : ByteArray) (r1 : ByteArray) (r2 : Int) (w : World) (hGL : GL w) (h : text_Unquote.f a0 = some (r1, r2)) :
  Calls Tryz.prog 58 #[.string a0] w fun e w'=>e = .returned (.tuple #[.string r1,.int .i64 r2]) ∧ Below w.heap.size w w' := by
 unfold text_Unquote.f at h
 split at h
 ·rename_i hb
  refine (text_Unquote_any a0 w hb hGL.utf8).mono fun e w' he=>⟨?_,he.2⟩
  rw [he.1,Option.some.inj h]
 ·cases h

/-! ### value_quoted: function 72 -/
def value_quoted.l0 : Nat → ByteArray → Bool → Int → Option (Int)
 | 0,_,_,_=>none
 | k + 1,x0,x3,x4=>if x4 < (x0.size : Int) then (if x3 = true then (value_quoted.l0 k x0 false (wrap64 (x4 + 1))) else (if 0 ≤ x4 then (if (bt x0 x4) = 92 then (value_quoted.l0 k x0 true (wrap64 (x4 + 1))) else (if (bt x0 x4) = 34 then (some (wrap64 (x4 + 1))) else (value_quoted.l0 k x0 x3 (wrap64 (x4 + 1))))) else (none))) else (some (x0.size : Int))
def value_quoted.f (k : Nat) (a0 : ByteArray) : Option (Int) := value_quoted.l0 k a0 false 1
theorem value_quoted.mono_l : ∀ k, (∀ y0 y1 y2, LeO (value_quoted.l0 k y0 y1 y2) (value_quoted.l0 (k + 1) y0 y1 y2))
 | 0=>fun _ _ _ r h=>by simp [value_quoted.l0] at h
 | k + 1=>by
  have ih0 := value_quoted.mono_l k
  ·intro y0 y1 y2
   unfold value_quoted.l0
   repeat' first
   | (with_reducible exact ih0 _ _ _)
   | (with_reducible exact LeO.refl _)
   | (with_reducible exact LeO.none _)
   | (with_reducible refine LeO.ite ?_ ?_)
   | (with_reducible refine LeO.bind ?_ (fun _=>?_))
   | exact ih0 _ _ _
   | exact LeO.none _
   | refine LeO.ite ?_ ?_
   | refine LeO.bind ?_ (fun _=>?_)
theorem value_quoted.mono : ∀ a0 k, LeO (value_quoted.f k a0) (value_quoted.f (k + 1) a0) := by
 intro a0 k
 have ih0 := value_quoted.mono_l k
 unfold value_quoted.f
 repeat' first
   | (with_reducible exact ih0 _ _ _)
   | (with_reducible exact LeO.refl _)
   | (with_reducible exact LeO.none _)
   | (with_reducible refine LeO.ite ?_ ?_)
   | (with_reducible refine LeO.bind ?_ (fun _=>?_))
   | exact ih0 _ _ _
   | exact LeO.none _
   | refine LeO.ite ?_ ?_
   | refine LeO.bind ?_ (fun _=>?_)
set_option maxHeartbeats 8000000 in
set_option maxRecDepth 100000 in
theorem value_quoted.calls (k : Nat) (a0 : ByteArray) (r : Int) (w : World) (h : value_quoted.f k a0 = some r) :
  Calls Tryz.prog 72 #[.string a0] w fun e w'=>e = .returned (.int .i64 r) ∧ Drawn0 w w' := by
 have H : (value_quoted.l0 k a0 false 1) = some r := h
 clear h; have H' := Aside0.mk H; clear H
 go_enter Tryz.func72,Tryz.ntmps72
 go_wp2
 go_loopg [3,4] k (fun kq v3 v4 w'=>∃ (x3_1 : Bool) (x4_1 : Int),v3 = .bool x3_1 ∧ v4 = .int .i64 x4_1 ∧ Aside0 (value_quoted.l0 kq a0 x3_1 x4_1 = some r) ∧ Aside0 (kq ≤ k) ∧ Drawn0 w w')
 case atStart=>exact ⟨(false),(1),(by first|rfl|(simp; done)|(simp [*]; done)),(by first|rfl|(simp; done)|(simp [*]; done)),H',⟨Nat.le_refl _⟩,by repeat (first|exact Drawn0.refl _|apply Drawn0.step)⟩
 case round =>
  clear H'
  obtain ⟨x3_1,x4_1,rfl,rfl,HA,HK1,⟨m1,rfl⟩⟩ := hrel
  cases gk with
  | zero=>exact absurd HA.out (by simp [value_quoted.l0])
  | succ k1 =>
   have H := HA.out; clear HA
   simp only [value_quoted.l0] at H
   by_cases c2 : x4_1 < (a0.size : Int)
   ·rw [if_pos c2] at H
    have c2b0 : decide (x4_1 < (a0.size : Int)) = true := decide_eq_true c2
    clear c2
    by_cases c3 : x3_1 = true
    ·subst c3
     have H1 : (value_quoted.l0 k1 a0 false (wrap64 (x4_1 + 1))) = some r := by rw [if_pos rfl] at H; exact H
     clear H; have H := H1; clear H1; have H' := Aside0.mk H; clear H
     go_wp2
     go_roundg k1
     case measure=>have := HK1.out; omega
     case rel=>exact ⟨(false),(wrap64 (x4_1 + 1)),(by first|rfl|(simp; done)|(simp [*]; done)),(by first|rfl|(simp; done)|(simp [*]; done)),H',⟨by have := HK1.out; omega⟩,by repeat (first|exact Drawn0.refl _|apply Drawn0.step)⟩
    ·replace c3 := Bool.eq_false_iff.mpr c3
     subst c3
     have H1 : (if 0 ≤ x4_1 then (if (bt a0 x4_1) = 92 then (value_quoted.l0 k1 a0 true (wrap64 (x4_1 + 1))) else (if (bt a0 x4_1) = 34 then (some (wrap64 (x4_1 + 1))) else (value_quoted.l0 k1 a0 false (wrap64 (x4_1 + 1))))) else (none)) = some r := by rw [if_neg (show ¬ (false = true) by decide)] at H; exact H
     clear H; have H := H1; clear H1
     by_cases c4 : 0 ≤ x4_1
     ·rw [if_pos c4] at H
      have c4b0 : decide (0 ≤ x4_1) = true := decide_eq_true c4
      clear c4
      by_cases c6 : (bt a0 x4_1) = 92
      ·rw [if_pos c6] at H
       have c6b0 : ((bt a0 x4_1) == 92) = true := beq_iff_eq.mpr c6
       have c6b1 : ((bt a0 x4_1) != 92) = false := bne_eq_false_iff_eq.mpr c6
       clear c6; have H' := Aside0.mk H; clear H
       have p5 : 0 ≤ (x4_1 : Int) := of_decide_eq_true (by first|(with_reducible assumption)|assumption)
       have q5 : x4_1 < (a0.size : Int) := of_decide_eq_true (by first|(with_reducible assumption)|assumption)
       have hx5 := bt_at a0 x4_1
       replace p5 := eq_true p5
       replace q5 := eq_true q5
       go_wp2
       go_roundg k1
       case measure=>have := HK1.out; omega
       case rel=>exact ⟨(true),(wrap64 (x4_1 + 1)),(by first|rfl|(simp; done)|(simp [*]; done)),(by first|rfl|(simp; done)|(simp [*]; done)),H',⟨by have := HK1.out; omega⟩,by repeat (first|exact Drawn0.refl _|apply Drawn0.step)⟩
      ·rw [if_neg c6] at H
       have c6b0 : ((bt a0 x4_1) == 92) = false := beq_eq_false_iff_ne.mpr c6
       have c6b1 : ((bt a0 x4_1) != 92) = true := bne_iff_ne.mpr c6
       by_cases c8 : (bt a0 x4_1) = 34
       ·rw [if_pos c8] at H
        have c8b0 : ((bt a0 x4_1) == 34) = true := beq_iff_eq.mpr c8
        have c8b1 : ((bt a0 x4_1) != 34) = false := bne_eq_false_iff_eq.mpr c8
        clear c8
        obtain rfl := Option.some.inj H
        have p5 : 0 ≤ (x4_1 : Int) := of_decide_eq_true (by first|(with_reducible assumption)|assumption)
        have q5 : x4_1 < (a0.size : Int) := of_decide_eq_true (by first|(with_reducible assumption)|assumption)
        have hx5 := bt_at a0 x4_1
        replace p5 := eq_true p5
        replace q5 := eq_true q5
        have p7 : 0 ≤ (x4_1 : Int) := of_decide_eq_true (by first|(with_reducible assumption)|assumption)
        have q7 : x4_1 < (a0.size : Int) := of_decide_eq_true (by first|(with_reducible assumption)|assumption)
        have hx7 := bt_at a0 x4_1
        replace p7 := eq_true p7
        replace q7 := eq_true q7
        go_wp2
        go_ret
        exact ⟨by first|rfl|(simp; done)|(simp [*]; done),by repeat (first|exact Drawn0.refl _|apply Drawn0.step)⟩
       ·rw [if_neg c8] at H
        have c8b0 : ((bt a0 x4_1) == 34) = false := beq_eq_false_iff_ne.mpr c8
        have c8b1 : ((bt a0 x4_1) != 34) = true := bne_iff_ne.mpr c8
        have H' := Aside0.mk H; clear H
        have p5 : 0 ≤ (x4_1 : Int) := of_decide_eq_true (by first|(with_reducible assumption)|assumption)
        have q5 : x4_1 < (a0.size : Int) := of_decide_eq_true (by first|(with_reducible assumption)|assumption)
        have hx5 := bt_at a0 x4_1
        replace p5 := eq_true p5
        replace q5 := eq_true q5
        have p7 : 0 ≤ (x4_1 : Int) := of_decide_eq_true (by first|(with_reducible assumption)|assumption)
        have q7 : x4_1 < (a0.size : Int) := of_decide_eq_true (by first|(with_reducible assumption)|assumption)
        have hx7 := bt_at a0 x4_1
        replace p7 := eq_true p7
        replace q7 := eq_true q7
        go_wp2
        go_roundg k1
        case measure=>have := HK1.out; omega
        case rel=>exact ⟨(false),(wrap64 (x4_1 + 1)),(by first|rfl|(simp; done)|(simp [*]; done)),(by first|rfl|(simp; done)|(simp [*]; done)),H',⟨by have := HK1.out; omega⟩,by repeat (first|exact Drawn0.refl _|apply Drawn0.step)⟩
     ·rw [if_neg c4] at H
      exact absurd H (by simp)
   ·rw [if_neg c2] at H
    have c2b0 : decide (x4_1 < (a0.size : Int)) = false := decide_eq_false c2
    clear c2
    obtain rfl := Option.some.inj H
    go_wp2
    go_ret
    exact ⟨by first|rfl|(simp; done)|(simp [*]; done),by repeat (first|exact Drawn0.refl _|apply Drawn0.step)⟩

/-! ### stringslite_TrimPrefix: function 83 -/
def stringslite_TrimPrefix.f (a0 : ByteArray) (a1 : ByteArray) : Option (ByteArray) := (stringslite_HasPrefix.f a0 a1).bind fun t115 => (if t115 = true then (if 0 ≤ (a1.size : Int) then (if (a1.size : Int) ≤ (a0.size : Int) then (some (a0.extract ((a1.size : Int) : Int).toNat a0.size)) else (none)) else (none)) else (some a0))
set_option maxHeartbeats 8000000 in
set_option maxRecDepth 100000 in
theorem stringslite_TrimPrefix.calls (a0 : ByteArray) (a1 : ByteArray) (r : ByteArray) (w : World) (h : stringslite_TrimPrefix.f a0 a1 = some r) :
  Calls Tryz.prog 83 #[.string a0,.string a1] w fun e w'=>e = .returned (.string r) ∧ Drawn0 w w' := by
 have H : ((stringslite_HasPrefix.f a0 a1).bind fun t115=>(if t115 = true then (if 0 ≤ (a1.size : Int) then (if (a1.size : Int) ≤ (a0.size : Int) then (some (a0.extract ((a1.size : Int) : Int).toNat a0.size)) else (none)) else (none)) else (some a0))) = some r := h
 clear h; replace H := Option.bind_eq_some_iff.mp H; obtain ⟨t115,A30,H⟩ := H
 replace H : (if t115 = true then (if 0 ≤ (a1.size : Int) then (if (a1.size : Int) ≤ (a0.size : Int) then (some (a0.extract ((a1.size : Int) : Int).toNat a0.size)) else (none)) else (none)) else (some a0)) = some r := H
 have A3 := Aside0.mk A30; clear A30
 by_cases c4 : t115 = true
 ·subst c4
  have H1 : (if 0 ≤ (a1.size : Int) then (if (a1.size : Int) ≤ (a0.size : Int) then (some (a0.extract ((a1.size : Int) : Int).toNat a0.size)) else (none)) else (none)) = some r := by rw [if_pos rfl] at H; exact H
  clear H; have H := H1; clear H1
  by_cases c5 : 0 ≤ (a1.size : Int)
  ·rw [if_pos c5] at H
   have c5b0 := eq_true c5
   have c5b1 : decide (0 ≤ (a1.size : Int)) = true := decide_eq_true c5
   clear c5
   by_cases c6 : (a1.size : Int) ≤ (a0.size : Int)
   ·rw [if_pos c6] at H
    have c6b0 := eq_true c6
    have c6b1 : decide ((a1.size : Int) ≤ (a0.size : Int)) = true := decide_eq_true c6
    clear c6
    obtain rfl := Option.some.inj H
    go_enter Tryz.func83,Tryz.ntmps83
    go_wp2_with (first|((with_reducible refine gate_callee (f := 71) rfl ?_); refine goesL_ (some 7) rfl rfl Tryz.func71 (by kernel_rfl) rfl #[.string a0,.string a1] rfl (by (try simp only [List.map_toArray,List.map_cons,List.map_nil]); first|done|rfl|(simp only [List.length_drop,List.length_take]; rfl)) ?_;(with_reducible refine (stringslite_HasPrefix.calls a0 a1 true _ A3.out).mono ?_); rintro e w' ⟨rfl,⟨nd,rfl⟩⟩; refine ⟨_,rfl,?_⟩))
    go_ret
    exact ⟨by first|rfl|(simp; done)|(simp [*]; done),by repeat (first|exact Drawn0.refl _|apply Drawn0.step)⟩
   ·rw [if_neg c6] at H
    exact absurd H (by simp)
  ·rw [if_neg c5] at H
   exact absurd H (by simp)
 ·replace c4 := Bool.eq_false_iff.mpr c4
  subst c4
  have H1 : (some a0) = some r := by rw [if_neg (show ¬ (false = true) by decide)] at H; exact H
  clear H; have H := H1; clear H1
  obtain rfl := Option.some.inj H
  go_enter Tryz.func83,Tryz.ntmps83
  go_wp2_with (first|((with_reducible refine gate_callee (f := 71) rfl ?_); refine goesL_ (some 7) rfl rfl Tryz.func71 (by kernel_rfl) rfl #[.string a0,.string a1] rfl (by (try simp only [List.map_toArray,List.map_cons,List.map_nil]); first|done|rfl|(simp only [List.length_drop,List.length_take]; rfl)) ?_;(with_reducible refine (stringslite_HasPrefix.calls a0 a1 false _ A3.out).mono ?_); rintro e w' ⟨rfl,⟨nd,rfl⟩⟩; refine ⟨_,rfl,?_⟩))
  go_ret
  exact ⟨by first|rfl|(simp; done)|(simp [*]; done),by repeat (first|exact Drawn0.refl _|apply Drawn0.step)⟩

/-! ### strings_TrimPrefix: function 73 -/
def strings_TrimPrefix.f (a0 : ByteArray) (a1 : ByteArray) : Option (ByteArray) := (stringslite_TrimPrefix.f a0 a1).bind fun t116 => (some t116)
set_option maxHeartbeats 8000000 in
set_option maxRecDepth 100000 in
theorem strings_TrimPrefix.calls (a0 : ByteArray) (a1 : ByteArray) (r : ByteArray) (w : World) (h : strings_TrimPrefix.f a0 a1 = some r) :
  Calls Tryz.prog 73 #[.string a0,.string a1] w fun e w'=>e = .returned (.string r) ∧ Drawn0 w w' := by
 have H : ((stringslite_TrimPrefix.f a0 a1).bind fun t116=>(some t116)) = some r := h
 clear h; replace H := Option.bind_eq_some_iff.mp H; obtain ⟨t116,A30,H⟩ := H
 replace H : (some t116) = some r := H
 have A3 := Aside0.mk A30; clear A30
 obtain rfl := Option.some.inj H
 go_enter Tryz.func73,Tryz.ntmps73
 go_wp2_with (first|((with_reducible refine gate_callee (f := 83) rfl ?_); refine goesL_ (some 7) rfl rfl Tryz.func83 (by kernel_rfl) rfl #[.string a0,.string a1] rfl (by (try simp only [List.map_toArray,List.map_cons,List.map_nil]); first|done|rfl|(simp only [List.length_drop,List.length_take]; rfl)) ?_;(with_reducible refine (stringslite_TrimPrefix.calls a0 a1 t116 _ A3.out).mono ?_); rintro e w' ⟨rfl,⟨nd,rfl⟩⟩; refine ⟨_,rfl,?_⟩))
 go_ret
 exact ⟨by first|rfl|(simp; done)|(simp [*]; done),by repeat (first|exact Drawn0.refl _|apply Drawn0.step)⟩

/-! ### value_list: function 59 -/
mutual
def value_list.l0 : Nat → ByteArray → Int → Int → ByteArray → List ByteArray → Option (Int × Int × ByteArray × List ByteArray)
 | 0,_,_,_,_,_=>none
 | k + 1,x0,x119000,x119001,x119002,x119003=>if x0.toList = ([93] : List UInt8) then (value_list.j1 k x0 false x119000 x119001 x119002 x119003) else (value_list.j1 k x0 (decide ((x119003.length : Int) ≤ 20)) x119000 x119001 x119002 x119003)
def value_list.j1 : Nat → ByteArray → Bool → Int → Int → ByteArray → List ByteArray → Option (Int × Int × ByteArray × List ByteArray)
 | 0,_,_,_,_,_,_=>none
 | k + 1,x0,x15,x119000,x119001,x119002,x119003=>if x15 = true then ((value_quoted.f k x0).bind fun t119=>(if 0 ≤ t119 then (if t119 ≤ (x0.size : Int) then ((text_Unquote.f (x0.extract 0 (t119 : Int).toNat)).bind fun bt120=>(if bt120.2 = 0 then (if x119003.length < 8796093022208 then ((strings_TrimPrefix.f (x0.extract (t119 : Int).toNat x0.size) (⟨#[44,32]⟩ : ByteArray)).bind fun t125=>(value_list.l0 k t125 x119000 x119001 x119002 (x119003 ++ [bt120.1]))) else (none)) else (some (0,0,(⟨#[]⟩ : ByteArray),([] : List ByteArray))))) else (none)) else (none))) else (some (x119000,x119001,x119002,x119003))
end
def value_list.f (k : Nat) (a0 : ByteArray) : Option (Int × Int × ByteArray × List ByteArray) := value_list.l0 k a0 5 0 (⟨#[]⟩ : ByteArray) ([] : List ByteArray)
theorem value_list.mono_l : ∀ k, (∀ y0 y1 y2 y3 y4, LeO (value_list.l0 k y0 y1 y2 y3 y4) (value_list.l0 (k + 1) y0 y1 y2 y3 y4)) ∧ (∀ y0 y1 y2 y3 y4 y5, LeO (value_list.j1 k y0 y1 y2 y3 y4 y5) (value_list.j1 (k + 1) y0 y1 y2 y3 y4 y5))
 | 0=>⟨fun _ _ _ _ _ r h=>by simp [value_list.l0] at h,fun _ _ _ _ _ _ r h=>by simp [value_list.j1] at h⟩
 | k + 1=>by
  obtain ⟨ih0,ih1⟩ := value_list.mono_l k
  refine ⟨?_,?_⟩
  ·intro y0 y1 y2 y3 y4
   unfold value_list.l0
   repeat' first
   | (with_reducible exact ih0 _ _ _ _ _)
   | (with_reducible exact ih1 _ _ _ _ _ _)
   | (with_reducible exact value_quoted.mono _ _)
   | (with_reducible exact LeO.refl _)
   | (with_reducible exact LeO.none _)
   | (with_reducible refine LeO.ite ?_ ?_)
   | (with_reducible refine LeO.bind ?_ (fun _=>?_))
   | exact ih0 _ _ _ _ _
   | exact ih1 _ _ _ _ _ _
   | exact value_quoted.mono _ _
   | exact LeO.none _
   | refine LeO.ite ?_ ?_
   | refine LeO.bind ?_ (fun _=>?_)
  ·intro y0 y1 y2 y3 y4 y5
   unfold value_list.j1
   repeat' first
   | (with_reducible exact ih0 _ _ _ _ _)
   | (with_reducible exact ih1 _ _ _ _ _ _)
   | (with_reducible exact value_quoted.mono _ _)
   | (with_reducible exact LeO.refl _)
   | (with_reducible exact LeO.none _)
   | (with_reducible refine LeO.ite ?_ ?_)
   | (with_reducible refine LeO.bind ?_ (fun _=>?_))
   | exact ih0 _ _ _ _ _
   | exact ih1 _ _ _ _ _ _
   | exact value_quoted.mono _ _
   | exact LeO.none _
   | refine LeO.ite ?_ ?_
   | refine LeO.bind ?_ (fun _=>?_)
theorem value_list.mono : ∀ a0 k, LeO (value_list.f k a0) (value_list.f (k + 1) a0) := by
 intro a0 k
 obtain ⟨ih0,ih1⟩ := value_list.mono_l k
 unfold value_list.f
 repeat' first
   | (with_reducible exact ih0 _ _ _ _ _)
   | (with_reducible exact ih1 _ _ _ _ _ _)
   | (with_reducible exact value_quoted.mono _ _)
   | (with_reducible exact LeO.refl _)
   | (with_reducible exact LeO.none _)
   | (with_reducible refine LeO.ite ?_ ?_)
   | (with_reducible refine LeO.bind ?_ (fun _=>?_))
   | exact ih0 _ _ _ _ _
   | exact ih1 _ _ _ _ _ _
   | exact value_quoted.mono _ _
   | exact LeO.none _
   | refine LeO.ite ?_ ?_
   | refine LeO.bind ?_ (fun _=>?_)
set_option maxHeartbeats 8000000 in
set_option maxRecDepth 100000 in
theorem value_list.calls (k : Nat) (a0 : ByteArray) (r1 : Int) (r2 : Int) (r3 : ByteArray) (r4 : List ByteArray) (w : World) (hGL : GL w) (h : value_list.f k a0 = some (r1, r2, r3, r4)) :
  Calls Tryz.prog 59 #[.string a0] w fun e w'=>∃ v3_ : Value,e = .returned (.agg #[.int .i64 r1,.int .i64 r2,.string r3,v3_]) ∧ Kd.R Kd.string 9 w' w.heap.size (fun _=>True) v3_ r4 ∧ Below w.heap.size w w' := by
 have hu24 := Tryz.underlying24; have HGL := Aside0.mk hGL; clear hGL
 have HB := Aside0.mk (Below.refl w.heap.size w)
 have H : (value_list.l0 k a0 5 0 (⟨#[]⟩ : ByteArray) ([] : List ByteArray)) = some (r1,r2,r3,r4) := h
 clear h; have H' := Aside0.mk H; clear H
 go_enter Tryz.func59,Tryz.ntmps59
 go_wp2_with (first|((with_reducible refine gate_dst (N := 2) rfl ?_);(try (refine gate_guard (by rfl) ?_; dsimp only)); refine box_event ?hg (N := 2) ?hd (cs := #[.int .i64 0,.int .i64 0,.string (⟨#[]⟩ : ByteArray),.slice none 0 0]) (t := 24) ?hr ?_;(case hd=>rfl);(case hg=>rfl);(case hr=>first|(go_simp; done)|(go_simp; rfl)); intro gb117 hg w2 hbox hb; have n0_ := Aside0.mk (below_step (by repeat (first|(with_reducible first|exact HB.out|apply zE|apply zB|apply zC)|exact HB.out)) hb); have n1_ := Aside0.mk (hbox); have n2_ := Aside0.mk ((by rw [hg]; exact (below_size (by repeat (first|(with_reducible first|exact HB.out|apply zE|apply zB|apply zC)|exact HB.out))) : w.heap.size ≤ gb117)); have n3_ := Aside0.mk ((by rw [hg]; exact (below_size (by repeat (first|(with_reducible first|exact HB.out|apply zE|apply zB|apply zC)|exact HB.out))) : w.heap.size ≤ gb117)); clear HB; have HB := n0_; have BK117 := n1_; have GW117 := n2_; have GE117 := n3_; clear n0_ n1_ n2_ n3_ hb hbox hg)|((with_reducible refine gate_dst (N := 3) rfl ?_);(try (refine gate_guard (by rfl) ?_; dsimp only)); refine box_event ?hg (N := 3) ?hd (cs := #[.int .i64 0,.int .i64 0,.string (⟨#[]⟩ : ByteArray),.slice none 0 0]) (t := 24) ?hr ?_;(case hd=>rfl);(case hg=>rfl);(case hr=>first|(go_simp; done)|(go_simp; rfl)); intro gb118 hg w3 hbox hb; have n0_ := Aside0.mk (blk_below (g := gb117) (o := .cells #[.int .i64 0,.int .i64 0,.string (⟨#[]⟩ : ByteArray),.slice none 0 0] 24 (0,0)) (by (with_reducible repeat (first|refine zN ?_ _|refine zD ?_|refine zA ?_ _)); exact BK117.out) hb); have n1_ := Aside0.mk (below_step (by repeat (first|(with_reducible first|exact HB.out|apply zE|apply zB|apply zC|refine zJ ?_ GE117.out)|exact HB.out)) hb); have n2_ := Aside0.mk (hbox); have n3_ := Aside0.mk ((by rw [hg]; exact (below_size (by repeat (first|(with_reducible first|exact HB.out|apply zE|apply zB|apply zC|refine zJ ?_ GE117.out)|exact HB.out))) : w.heap.size ≤ gb118)); have n4_ := Aside0.mk ((by rw [hg]; exact (below_size (by repeat (first|(with_reducible first|exact HB.out|apply zE|apply zB|apply zC|refine zJ ?_ GE117.out)|exact HB.out))) : w.heap.size ≤ gb118)); have n5_ := Aside0.mk ((by rw [hg]; exact Nat.ne_of_lt (blk_lt (g := gb117) (o := .cells #[.int .i64 0,.int .i64 0,.string (⟨#[]⟩ : ByteArray),.slice none 0 0] 24 (0,0)) (by (with_reducible repeat (first|refine zN ?_ _|refine zD ?_|refine zA ?_ _)); exact BK117.out)) : gb117 ≠ gb118)); have n6_ := Aside0.mk ((by rw [hg]; exact Nat.ne_of_gt (blk_lt (g := gb117) (o := .cells #[.int .i64 0,.int .i64 0,.string (⟨#[]⟩ : ByteArray),.slice none 0 0] 24 (0,0)) (by (with_reducible repeat (first|refine zN ?_ _|refine zD ?_|refine zA ?_ _)); exact BK117.out)) : gb118 ≠ gb117)); clear BK117 HB; have BK117 := n0_; have HB := n1_; have BK118 := n2_; have GW118 := n3_; have GE118 := n4_; have NB117_118 := n5_; have NB118_117 := n6_; clear n0_ n1_ n2_ n3_ n4_ n5_ n6_ hb hbox hg; have hnb4 := NB118_117.out; have hnc4 := NB117_118.out; have hcz5_0 : w3.cell? ⟨gb118,0,none⟩ = some (.int .i64 0):=(blk_cell BK118.out 0).trans rfl; have hcz5_1 : w3.cell? ⟨gb118,1,none⟩ = some (.int .i64 0):=(blk_cell BK118.out 1).trans rfl; have hcz5_2 : w3.cell? ⟨gb118,2,none⟩ = some (.string (⟨#[]⟩ : ByteArray)):=(blk_cell BK118.out 2).trans rfl; have hcz5_3 : w3.cell? ⟨gb118,3,none⟩ = some (.slice none 0 0):=(blk_cell BK118.out 3).trans rfl; have hfz5_0 := blk_frozen BK118.out 0; have hfz5_1 := blk_frozen BK118.out 1; have hfz5_2 := blk_frozen BK118.out 2; have hfz5_3 := blk_frozen BK118.out 3))
 go_loopg [0] k (fun kq v0 w'=>∃ (x0_1 : ByteArray) (x118000_1 : Int) (x118001_1 : Int) (x118002_1 : ByteArray) (x119003_1 : List ByteArray) (u119003 : Value),v0 = .string x0_1 ∧ Aside0 (value_list.l0 kq x0_1 5 0 (⟨#[]⟩ : ByteArray) x119003_1 = some (r1,r2,r3,r4)) ∧ Aside0 (kq ≤ k) ∧ Aside0 (Kd.R Kd.string 9 w' w.heap.size (fun _=>True) u119003 x119003_1) ∧ Aside0 (w'.heap[gb117]? = some (.cells #[.int .i64 x118000_1,.int .i64 x118001_1,.string x118002_1,(.slice none 0 0)] 24 (0,0))) ∧ Aside0 (w'.heap[gb118]? = some (.cells #[.int .i64 5,.int .i64 0,.string (⟨#[]⟩ : ByteArray),u119003] 24 (0,0))) ∧ Aside0 (Below w.heap.size w w'))
 case atStart=>exact ⟨(a0),(0),(0),((⟨#[]⟩ : ByteArray)),(([] : List ByteArray)),(.slice none 0 0),(by first|rfl|(simp; done)|(simp [*]; done)),H',⟨Nat.le_refl _⟩,⟨by first|exact Kd.R_nil _ _ _ _ _|exact Kd.N_nil _ _ _ _ _|exact Kd.V_nil _ _ _ _ _|exact Kd.Q_nil _ _ _ _ _|exact Kd.S_nil _ _ _ _ _⟩,⟨by (with_reducible repeat (first|refine zN ?_ _|refine zD ?_|refine zA ?_ _)); refine blk_far ?_ NB117_118.out _;(with_reducible repeat (first|refine zN ?_ _|refine zD ?_|refine zA ?_ _)); refine blk_far ?_ NB117_118.out _;(with_reducible repeat (first|refine zN ?_ _|refine zD ?_|refine zA ?_ _)); refine blk_far ?_ NB117_118.out _;(with_reducible repeat (first|refine zN ?_ _|refine zD ?_|refine zA ?_ _)); refine blk_far ?_ NB117_118.out _;(with_reducible repeat (first|refine zN ?_ _|refine zD ?_|refine zA ?_ _)); exact BK117.out⟩,⟨by (with_reducible repeat (first|refine zN ?_ _|refine zD ?_|refine zA ?_ _)); refine blk_put (cs := #[.int .i64 5,.int .i64 0,.string (⟨#[]⟩ : ByteArray),.slice none 0 0]) ?_ 3 _ rfl;(with_reducible repeat (first|refine zN ?_ _|refine zD ?_|refine zA ?_ _)); refine blk_put (cs := #[.int .i64 5,.int .i64 0,.string (⟨#[]⟩ : ByteArray),.slice none 0 0]) ?_ 2 _ rfl;(with_reducible repeat (first|refine zN ?_ _|refine zD ?_|refine zA ?_ _)); refine blk_put (cs := #[.int .i64 5,.int .i64 0,.string (⟨#[]⟩ : ByteArray),.slice none 0 0]) ?_ 1 _ rfl;(with_reducible repeat (first|refine zN ?_ _|refine zD ?_|refine zA ?_ _)); refine blk_put (cs := #[.int .i64 0,.int .i64 0,.string (⟨#[]⟩ : ByteArray),.slice none 0 0]) ?_ 0 _ rfl;(with_reducible repeat (first|refine zN ?_ _|refine zD ?_|refine zA ?_ _)); exact BK118.out⟩,⟨by repeat (first|(with_reducible first|exact HB.out|apply zE|apply zB|apply zC|refine zJ ?_ GE117.out|refine zJ ?_ GE118.out)|exact HB.out)⟩⟩
 case round =>
  clear H';(try clear p2);(try clear c4);(try clear c5);(try clear hcz5_0);(try clear hcz5_1);(try clear hcz5_2);(try clear hcz5_3);(try clear hfz5_0);(try clear hfz5_1);(try clear hfz5_2);(try clear hfz5_3)
  obtain ⟨x0_1,x118000_1,x118001_1,x118002_1,x119003_1,u119003,rfl,HA,HK1,HO_119003,BK117,BK118,HB⟩ := hrel
  cases gk with
  | zero=>exact absurd HA.out (by simp [value_list.l0])
  | succ k1 =>
   have H := HA.out; clear HA
   simp only [value_list.l0] at H
   have HC6 := Aside0.mk H; clear H
   go_upto_region 2 with (fail)
   go_cut [15] (fun v15 wc=>∃ (kq : Nat) (x15_5 : Bool),v15 = .bool x15_5 ∧ Aside0 (value_list.j1 kq x0_1 x15_5 5 0 (⟨#[]⟩ : ByteArray) x119003_1 = some (r1,r2,r3,r4)) ∧ Aside0 (kq ≤ k1) ∧ Aside0 (Kd.R Kd.string 9 wc w.heap.size (fun _=>True) u119003 x119003_1) ∧ Aside0 (wc.heap[gb117]? = some (.cells #[.int .i64 x118000_1,.int .i64 x118001_1,.string x118002_1,(.slice none 0 0)] 24 (0,0))) ∧ Aside0 (wc.heap[gb118]? = some (.cells #[.int .i64 5,.int .i64 0,.string (⟨#[]⟩ : ByteArray),u119003] 24 (0,0))) ∧ Aside0 (Below w.heap.size w wc))
   case first =>
    have H := HC6.out; clear HC6
    by_cases c7 : x0_1.toList = ([93] : List UInt8)
    ·rw [if_pos c7] at H
     have c7b0 : (x0_1.toList == ([93] : List UInt8)) = true := beq_iff_eq.mpr c7
     have c7b1 : (x0_1.toList != ([93] : List UInt8)) = false := bne_eq_false_iff_eq.mpr c7
     clear c7
     (first|rw [c7b0]|(simp only [i64_w,i32_w]; rw [c7b0])|skip)
     have H' := Aside0.mk H; clear H
     go_wp2
     go_meet
     case rel=>exact ⟨_,(false),(by first|rfl|(simp; done)|(simp [*]; done)),H',⟨by have := HK1.out; first|omega|exact Nat.le_refl _⟩,⟨by (with_reducible repeat (first|apply Kd.R_alloc|apply Kd.R_drewN|apply Kd.R_drew)); exact HO_119003.out⟩,⟨by (with_reducible repeat (first|refine zN ?_ _|refine zD ?_|refine zA ?_ _)); exact BK117.out⟩,⟨by (with_reducible repeat (first|refine zN ?_ _|refine zD ?_|refine zA ?_ _)); exact BK118.out⟩,⟨by repeat (first|(with_reducible first|exact HB.out|apply zE|apply zB|apply zC|refine zJ ?_ GE117.out|refine zJ ?_ GE118.out)|exact HB.out)⟩⟩
    ·rw [if_neg c7] at H
     have c7b0 : (x0_1.toList == ([93] : List UInt8)) = false := beq_eq_false_iff_ne.mpr c7
     have c7b1 : (x0_1.toList != ([93] : List UInt8)) = true := bne_iff_ne.mpr c7
     (first|rw [c7b0]|(simp only [i64_w,i32_w]; rw [c7b0])|skip)
     have H' := Aside0.mk H; clear H; have hnb8 := NB118_117.out; have hnc8 := NB117_118.out
     have hcz9_0 : wr.cell? ⟨gb118,0,none⟩ = some (.int .i64 5):=(blk_cell BK118.out 0).trans rfl
     have hcz9_1 : wr.cell? ⟨gb118,1,none⟩ = some (.int .i64 0):=(blk_cell BK118.out 1).trans rfl
     have hcz9_2 : wr.cell? ⟨gb118,2,none⟩ = some (.string (⟨#[]⟩ : ByteArray)):=(blk_cell BK118.out 2).trans rfl
     have hcz9_3 : wr.cell? ⟨gb118,3,none⟩ = some (u119003):=(blk_cell BK118.out 3).trans rfl
     have hfz9_0 := blk_frozen BK118.out 0
     have hfz9_1 := blk_frozen BK118.out 1
     have hfz9_2 := blk_frozen BK118.out 2
     have hfz9_3 := blk_frozen BK118.out 3
     obtain ⟨Ao10,co10,eo10⟩ := Kd.R_slice HO_119003.out
     subst eo10
     go_wp2
     go_meet
     case rel=>exact ⟨_,(decide ((x119003_1.length : Int) ≤ 20)),(by first|rfl|(simp; done)|(simp [*]; done)),H',⟨by have := HK1.out; first|omega|exact Nat.le_refl _⟩,⟨by (with_reducible repeat (first|apply Kd.R_alloc|apply Kd.R_drewN|apply Kd.R_drew)); exact HO_119003.out⟩,⟨by (with_reducible repeat (first|refine zN ?_ _|refine zD ?_|refine zA ?_ _)); exact BK117.out⟩,⟨by (with_reducible repeat (first|refine zN ?_ _|refine zD ?_|refine zA ?_ _)); exact BK118.out⟩,⟨by repeat (first|(with_reducible first|exact HB.out|apply zE|apply zB|apply zC|refine zJ ?_ GE117.out|refine zJ ?_ GE118.out)|exact HB.out)⟩⟩
   case rest =>
    clear HC6;(try clear p2);(try clear c4);(try clear c5);(try clear c7);(try clear c7b0);(try clear c7b1);(try clear c8);(try clear hcz5_0);(try clear hcz5_1);(try clear hcz5_2);(try clear hcz5_3);(try clear hcz9_0);(try clear hcz9_1);(try clear hcz9_2);(try clear hcz9_3);(try clear hfz5_0);(try clear hfz5_1);(try clear hfz5_2);(try clear hfz5_3);(try clear hfz9_0);(try clear hfz9_1);(try clear hfz9_2);(try clear hfz9_3);(try clear p2)
    obtain ⟨kq,x15_5,rfl,HA,HJ5,HO_119003,BK117,BK118,HB⟩ := hcut
    cases kq with
    | zero=>exact absurd HA.out (by simp [value_list.j1])
    | succ kj5 =>
     have H := HA.out; clear HA
     simp only [value_list.j1] at H
     by_cases c11 : x15_5 = true
     ·subst c11
      have H1 : ((value_quoted.f kj5 x0_1).bind fun t119=>(if 0 ≤ t119 then (if t119 ≤ (x0_1.size : Int) then ((text_Unquote.f (x0_1.extract 0 (t119 : Int).toNat)).bind fun bt120=>(if bt120.2 = 0 then (if x119003_1.length < 8796093022208 then ((strings_TrimPrefix.f (x0_1.extract (t119 : Int).toNat x0_1.size) (⟨#[44,32]⟩ : ByteArray)).bind fun t125=>(value_list.l0 kj5 t125 5 0 (⟨#[]⟩ : ByteArray) (x119003_1 ++ [bt120.1]))) else (none)) else (some (0,0,(⟨#[]⟩ : ByteArray),([] : List ByteArray))))) else (none)) else (none))) = some (r1,r2,r3,r4) := by rw [if_pos rfl] at H; exact H
      clear H; have H := H1; clear H1; replace H := Option.bind_eq_some_iff.mp H; obtain ⟨t119,A120,H⟩ := H
      replace H : (if 0 ≤ t119 then (if t119 ≤ (x0_1.size : Int) then ((text_Unquote.f (x0_1.extract 0 (t119 : Int).toNat)).bind fun bt120=>(if bt120.2 = 0 then (if x119003_1.length < 8796093022208 then ((strings_TrimPrefix.f (x0_1.extract (t119 : Int).toNat x0_1.size) (⟨#[44,32]⟩ : ByteArray)).bind fun t125=>(value_list.l0 kj5 t125 5 0 (⟨#[]⟩ : ByteArray) (x119003_1 ++ [bt120.1]))) else (none)) else (some (0,0,(⟨#[]⟩ : ByteArray),([] : List ByteArray))))) else (none)) else (none)) = some (r1,r2,r3,r4) := H
      have A12 := Aside0.mk A120; clear A120
      by_cases c13 : 0 ≤ t119
      ·rw [if_pos c13] at H
       have c13b0 := eq_true c13
       have c13b1 : decide (0 ≤ t119) = true := decide_eq_true c13
       clear c13
       by_cases c14 : t119 ≤ (x0_1.size : Int)
       ·rw [if_pos c14] at H
        have c14b0 := eq_true c14
        have c14b1 : decide (t119 ≤ (x0_1.size : Int)) = true := decide_eq_true c14
        clear c14; replace H := Option.bind_eq_some_iff.mp H
        obtain ⟨⟨t120,t121⟩,A150,H⟩ := H
        replace H : (if t121 = 0 then (if x119003_1.length < 8796093022208 then ((strings_TrimPrefix.f (x0_1.extract (t119 : Int).toNat x0_1.size) (⟨#[44,32]⟩ : ByteArray)).bind fun t125=>(value_list.l0 kj5 t125 5 0 (⟨#[]⟩ : ByteArray) (x119003_1 ++ [t120]))) else (none)) else (some (0,0,(⟨#[]⟩ : ByteArray),([] : List ByteArray)))) = some (r1,r2,r3,r4) := H
        have A15 := Aside0.mk A150; clear A150
        by_cases c16 : t121 = 0
        ·rw [if_pos c16] at H
         have c16b0 : (t121 == 0) = true := beq_iff_eq.mpr c16
         have c16b1 : (t121 != 0) = false := bne_eq_false_iff_eq.mpr c16
         clear c16
         by_cases c17 : x119003_1.length < 8796093022208
         ·rw [if_pos c17] at H
          have LMc17 := Aside0.mk c17; clear c17
          obtain ⟨y122,hy122⟩ : ∃ y_ : List ByteArray,y_ = (x119003_1 ++ [t120]):=⟨_,rfl⟩
          replace H : ((strings_TrimPrefix.f (x0_1.extract (t119 : Int).toNat x0_1.size) (⟨#[44,32]⟩ : ByteArray)).bind fun t125=>(value_list.l0 kj5 t125 5 0 (⟨#[]⟩ : ByteArray) y122)) = some (r1,r2,r3,r4) := by first|(rw [hy122]; with_reducible exact H)|(have H2_:=(Option.bind_some _ _).symm.trans H; rw [hy122]; with_reducible exact H2_)|(have H2_:=(Option.bind_some _ _).symm.trans H; with_reducible exact H2_)|with_reducible exact H|(rw [hy122]; exact H)|exact H
          have Ny122 := Aside0.mk hy122; clear hy122
          have c18b0 := eq_true (of_decide_eq_true (by first|(with_reducible assumption)|assumption) : 0 ≤ t119)
          have c19b0 := eq_true (of_decide_eq_true (by first|(with_reducible assumption)|assumption) : t119 ≤ (x0_1.size : Int))
          replace H := Option.bind_eq_some_iff.mp H; obtain ⟨t125,A200,H⟩ := H
          replace H : (value_list.l0 kj5 t125 5 0 (⟨#[]⟩ : ByteArray) y122) = some (r1,r2,r3,r4) := H
          have A20 := Aside0.mk A200; clear A200; have H' := Aside0.mk H; clear H
          go_wp2_with (first|((with_reducible refine gate_callee (f := 72) rfl ?_); refine goesL_ (some 17) rfl rfl Tryz.func72 (by kernel_rfl) rfl #[.string x0_1] rfl (by (try simp only [List.map_toArray,List.map_cons,List.map_nil]); first|done|rfl|(simp only [List.length_drop,List.length_take]; rfl)) ?_;(with_reducible refine (value_quoted.calls kj5 x0_1 t119 _ A12.out).mono ?_); rintro e w' ⟨rfl,⟨nd,rfl⟩⟩; refine ⟨_,rfl,?_⟩;(try (rw [drewN_self wc]; generalize hq_ : World.drewN wc _ = wc; have n0_ : Aside0 (Kd.R Kd.string 9 wc w.heap.size (fun _=>True) u119003 x119003_1):=⟨by rw [← hq_]; exact (by (with_reducible repeat (first|apply Kd.R_alloc|apply Kd.R_drewN|apply Kd.R_drew)); exact HO_119003.out)⟩; have n1_ : Aside0 (wc.heap[gb117]? = some (.cells #[.int .i64 x118000_1,.int .i64 x118001_1,.string x118002_1,.slice none 0 0] 24 (0,0))):=⟨by rw [← hq_]; exact (by (with_reducible repeat (first|refine zN ?_ _|refine zD ?_|refine zA ?_ _)); exact BK117.out)⟩; have n2_ : Aside0 (wc.heap[gb118]? = some (.cells #[.int .i64 5,.int .i64 0,.string (⟨#[]⟩ : ByteArray),u119003] 24 (0,0))):=⟨by rw [← hq_]; exact (by (with_reducible repeat (first|refine zN ?_ _|refine zD ?_|refine zA ?_ _)); exact BK118.out)⟩; have n3_ : Aside0 (Below w.heap.size w wc):=⟨by rw [← hq_]; exact (by repeat (first|(with_reducible first|exact HB.out|apply zE|apply zB|apply zC|refine zJ ?_ GE117.out|refine zJ ?_ GE118.out)|exact HB.out))⟩; clear HO_119003 BK117 BK118 HB hq_; have HO_119003 := n0_; have BK117 := n1_; have BK118 := n2_; have HB := n3_; clear n0_ n1_ n2_ n3_)))|((with_reducible refine gate_callee (f := 58) rfl ?_); refine goesL_ (some 22) rfl rfl Tryz.func58 (by kernel_rfl) rfl #[.string (x0_1.extract 0 (t119 : Int).toNat)] rfl (by (try simp only [List.map_toArray,List.map_cons,List.map_nil]); first|done|rfl|(simp only [List.length_drop,List.length_take]; rfl)) ?_;(with_reducible refine (text_Unquote.calls (x0_1.extract 0 (t119 : Int).toNat) t120 t121 _ ?side1 A15.out).mono ?_);(case side1=>exact GL.below HGL.out (by repeat (first|(with_reducible first|exact HB.out|apply zE|apply zB|apply zC|refine zJ ?_ GE117.out|refine zJ ?_ GE118.out)|exact HB.out))); rintro e w21 ⟨rfl,hb⟩; refine ⟨_,rfl,?_⟩; have n0_ := Aside0.mk (Kd.R_below (by (with_reducible repeat (first|apply Kd.R_alloc|apply Kd.R_drewN|apply Kd.R_drew)); exact HO_119003.out) hb); have n1_ := Aside0.mk (blk_below (g := gb117) (o := .cells #[.int .i64 x118000_1,.int .i64 x118001_1,.string x118002_1,.slice none 0 0] 24 (0,0)) (by (with_reducible repeat (first|refine zN ?_ _|refine zD ?_|refine zA ?_ _)); exact BK117.out) hb); have n2_ := Aside0.mk (blk_below (g := gb118) (o := .cells #[.int .i64 5,.int .i64 0,.string (⟨#[]⟩ : ByteArray),u119003] 24 (0,0)) (by (with_reducible repeat (first|refine zN ?_ _|refine zD ?_|refine zA ?_ _)); exact BK118.out) hb); have n3_ := Aside0.mk (below_step (by repeat (first|(with_reducible first|exact HB.out|apply zE|apply zB|apply zC|refine zJ ?_ GE117.out|refine zJ ?_ GE118.out)|exact HB.out)) hb); clear HO_119003 BK117 BK118 HB; have HO_119003 := n0_; have BK117 := n1_; have BK118 := n2_; have HB := n3_; clear n0_ n1_ n2_ n3_;(try clear hb);(try clear hb2);(try clear hk);(try clear hi);(try clear hge); have hnb22 := NB118_117.out; have hnc22 := NB117_118.out; have hcz23_0 : w21.cell? ⟨gb118,0,none⟩ = some (.int .i64 5):=(blk_cell BK118.out 0).trans rfl; have hcz23_1 : w21.cell? ⟨gb118,1,none⟩ = some (.int .i64 0):=(blk_cell BK118.out 1).trans rfl; have hcz23_2 : w21.cell? ⟨gb118,2,none⟩ = some (.string (⟨#[]⟩ : ByteArray)):=(blk_cell BK118.out 2).trans rfl; have hcz23_3 : w21.cell? ⟨gb118,3,none⟩ = some (u119003):=(blk_cell BK118.out 3).trans rfl; have hfz23_0 := blk_frozen BK118.out 0; have hfz23_1 := blk_frozen BK118.out 1; have hfz23_2 := blk_frozen BK118.out 2; have hfz23_3 := blk_frozen BK118.out 3)|((with_reducible refine gate_builtin (b := .append) (xs := #[.tmp 29,.tmp 31]) rfl ?_);(try (refine gate_guard (by rfl) ?_; dsimp only)); at_builtin; refine Kd.R_append Kd.string (w0 := w) w.heap.size rfl (.tmp 29) (.tmp 31) 22 9 (.string ⟨#[]⟩) 16 rfl Tryz.underlying22 info9 rfl (by decide) (by omega) u119003 x119003_1 t120 [.string t120] (fun _=>True) (fun _=>False) rfl rfl ?aP (fun _ hk=>hk.elim) ?aF ?aO ?aB ?aS ?aL ?_;(case aP=>exact rfl);(case aB=>exact (by repeat (first|(with_reducible first|exact HB.out|apply zE|apply zB|apply zC|refine zJ ?_ GE117.out|refine zJ ?_ GE118.out)|exact HB.out)));(case aF=>exact (fun _ _=>trivial));(case aO=>exact (by (with_reducible repeat (first|apply Kd.R_alloc|apply Kd.R_drewN|apply Kd.R_drew)); exact HO_119003.out));(case aS=>exact (below_size (by repeat (first|(with_reducible first|exact HB.out|apply zE|apply zB|apply zC|refine zJ ?_ GE117.out|refine zJ ?_ GE118.out)|exact HB.out))));(case aL=>have := LMc17.out; omega); intro v123 w24 ho hb hg hat; rw [← Ny122.out] at ho; have n0_ := Aside0.mk (blk_grown (g := gb117) (o := .cells #[.int .i64 x118000_1,.int .i64 x118001_1,.string x118002_1,.slice none 0 0] 24 (0,0)) (by (with_reducible repeat (first|refine zN ?_ _|refine zD ?_|refine zA ?_ _)); exact BK117.out) hg (Kd.R_ne HO_119003.out BK117.out (by decide))); have n1_ := Aside0.mk (blk_grown (g := gb118) (o := .cells #[.int .i64 5,.int .i64 0,.string (⟨#[]⟩ : ByteArray),u119003] 24 (0,0)) (by (with_reducible repeat (first|refine zN ?_ _|refine zD ?_|refine zA ?_ _)); exact BK118.out) hg (Kd.R_ne HO_119003.out BK118.out (by decide))); have n2_ := Aside0.mk (hb); have n3_ := Aside0.mk (ho); clear BK117 BK118 HB HO_119003; have BK117 := n0_; have BK118 := n1_; have HB := n2_; have HO124 := n3_; clear n0_ n1_ n2_ n3_ ho hb hg hat; obtain ⟨Ao25,co25,eo25⟩ := Kd.R_slice HO124.out; subst eo25; have hcz26_0 : w24.cell? ⟨gb118,0,none⟩ = some (.int .i64 5):=(blk_cell BK118.out 0).trans rfl; have hcz26_1 : w24.cell? ⟨gb118,1,none⟩ = some (.int .i64 0):=(blk_cell BK118.out 1).trans rfl; have hcz26_2 : w24.cell? ⟨gb118,2,none⟩ = some (.string (⟨#[]⟩ : ByteArray)):=(blk_cell BK118.out 2).trans rfl; have hcz26_3 : w24.cell? ⟨gb118,3,none⟩ = some (u119003):=(blk_cell BK118.out 3).trans rfl; have hfz26_0 := blk_frozen BK118.out 0; have hfz26_1 := blk_frozen BK118.out 1; have hfz26_2 := blk_frozen BK118.out 2; have hfz26_3 := blk_frozen BK118.out 3)|((with_reducible refine gate_callee (f := 73) rfl ?_); refine goesL_ (some 37) rfl rfl Tryz.func73 (by kernel_rfl) rfl #[.string (x0_1.extract (t119 : Int).toNat x0_1.size),.string (⟨#[44,32]⟩ : ByteArray)] rfl (by (try simp only [List.map_toArray,List.map_cons,List.map_nil]); first|done|rfl|(simp only [List.length_drop,List.length_take]; rfl)) ?_;(with_reducible refine (strings_TrimPrefix.calls (x0_1.extract (t119 : Int).toNat x0_1.size) (⟨#[44,32]⟩ : ByteArray) t125 _ A20.out).mono ?_); rintro e w' ⟨rfl,⟨nd,rfl⟩⟩; refine ⟨_,rfl,?_⟩))
          go_roundg kj5
          case measure=>have := HK1.out; have := HJ5.out; omega
          case rel=>exact ⟨(t125),(x118000_1),(x118001_1),(x118002_1),(y122),(.slice Ao25 y122.length co25),(by first|rfl|(simp; done)|(simp [*]; done)),H',⟨by have := HK1.out; have := HJ5.out; omega⟩,⟨by (with_reducible repeat (first|apply Kd.R_alloc|apply Kd.R_drewN|apply Kd.R_drew)); exact Kd.R_mono (Kd.R_far (p:=⟨gb118,3,none⟩) (Kd.R_types HO124.out BK118.out (by decide)) (fun _ hk=>hk.2) (.slice Ao25 y122.length co25)) (fun _ hk=>trivial)⟩,⟨by (with_reducible repeat (first|refine zN ?_ _|refine zD ?_|refine zA ?_ _)); refine blk_far ?_ NB117_118.out _;(with_reducible repeat (first|refine zN ?_ _|refine zD ?_|refine zA ?_ _)); exact BK117.out⟩,⟨by (with_reducible repeat (first|refine zN ?_ _|refine zD ?_|refine zA ?_ _)); refine blk_put (cs := #[.int .i64 5,.int .i64 0,.string (⟨#[]⟩ : ByteArray),u119003]) ?_ 3 _ rfl;(with_reducible repeat (first|refine zN ?_ _|refine zD ?_|refine zA ?_ _)); exact BK118.out⟩,⟨by repeat (first|(with_reducible first|exact HB.out|apply zE|apply zB|apply zC|refine zJ ?_ GE117.out|refine zJ ?_ GE118.out)|exact HB.out)⟩⟩
         ·rw [if_neg c17] at H
          exact absurd H (by simp)
        ·rw [if_neg c16] at H
         have c16b0 : (t121 == 0) = false := beq_eq_false_iff_ne.mpr c16
         have c16b1 : (t121 != 0) = true := bne_iff_ne.mpr c16
         simp only [Option.some.injEq,Prod.mk.injEq] at H
         obtain ⟨rfl,rfl,rfl,rfl⟩ := H
         go_wp2_with (first|((with_reducible refine gate_callee (f := 72) rfl ?_); refine goesL_ (some 17) rfl rfl Tryz.func72 (by kernel_rfl) rfl #[.string x0_1] rfl (by (try simp only [List.map_toArray,List.map_cons,List.map_nil]); first|done|rfl|(simp only [List.length_drop,List.length_take]; rfl)) ?_;(with_reducible refine (value_quoted.calls kj5 x0_1 t119 _ A12.out).mono ?_); rintro e w' ⟨rfl,⟨nd,rfl⟩⟩; refine ⟨_,rfl,?_⟩;(try (rw [drewN_self wc]; generalize hq_ : World.drewN wc _ = wc; have n0_ : Aside0 (Kd.R Kd.string 9 wc w.heap.size (fun _=>True) u119003 x119003_1):=⟨by rw [← hq_]; exact (by (with_reducible repeat (first|apply Kd.R_alloc|apply Kd.R_drewN|apply Kd.R_drew)); exact HO_119003.out)⟩; have n1_ : Aside0 (wc.heap[gb117]? = some (.cells #[.int .i64 x118000_1,.int .i64 x118001_1,.string x118002_1,.slice none 0 0] 24 (0,0))):=⟨by rw [← hq_]; exact (by (with_reducible repeat (first|refine zN ?_ _|refine zD ?_|refine zA ?_ _)); exact BK117.out)⟩; have n2_ : Aside0 (wc.heap[gb118]? = some (.cells #[.int .i64 5,.int .i64 0,.string (⟨#[]⟩ : ByteArray),u119003] 24 (0,0))):=⟨by rw [← hq_]; exact (by (with_reducible repeat (first|refine zN ?_ _|refine zD ?_|refine zA ?_ _)); exact BK118.out)⟩; have n3_ : Aside0 (Below w.heap.size w wc):=⟨by rw [← hq_]; exact (by repeat (first|(with_reducible first|exact HB.out|apply zE|apply zB|apply zC|refine zJ ?_ GE117.out|refine zJ ?_ GE118.out)|exact HB.out))⟩; clear HO_119003 BK117 BK118 HB hq_; have HO_119003 := n0_; have BK117 := n1_; have BK118 := n2_; have HB := n3_; clear n0_ n1_ n2_ n3_)))|((with_reducible refine gate_callee (f := 58) rfl ?_); refine goesL_ (some 22) rfl rfl Tryz.func58 (by kernel_rfl) rfl #[.string (x0_1.extract 0 (t119 : Int).toNat)] rfl (by (try simp only [List.map_toArray,List.map_cons,List.map_nil]); first|done|rfl|(simp only [List.length_drop,List.length_take]; rfl)) ?_;(with_reducible refine (text_Unquote.calls (x0_1.extract 0 (t119 : Int).toNat) t120 t121 _ ?side1 A15.out).mono ?_);(case side1=>exact GL.below HGL.out (by repeat (first|(with_reducible first|exact HB.out|apply zE|apply zB|apply zC|refine zJ ?_ GE117.out|refine zJ ?_ GE118.out)|exact HB.out))); rintro e w27 ⟨rfl,hb⟩; refine ⟨_,rfl,?_⟩; have n0_ := Aside0.mk (Kd.R_below (by (with_reducible repeat (first|apply Kd.R_alloc|apply Kd.R_drewN|apply Kd.R_drew)); exact HO_119003.out) hb); have n1_ := Aside0.mk (blk_below (g := gb117) (o := .cells #[.int .i64 x118000_1,.int .i64 x118001_1,.string x118002_1,.slice none 0 0] 24 (0,0)) (by (with_reducible repeat (first|refine zN ?_ _|refine zD ?_|refine zA ?_ _)); exact BK117.out) hb); have n2_ := Aside0.mk (blk_below (g := gb118) (o := .cells #[.int .i64 5,.int .i64 0,.string (⟨#[]⟩ : ByteArray),u119003] 24 (0,0)) (by (with_reducible repeat (first|refine zN ?_ _|refine zD ?_|refine zA ?_ _)); exact BK118.out) hb); have n3_ := Aside0.mk (below_step (by repeat (first|(with_reducible first|exact HB.out|apply zE|apply zB|apply zC|refine zJ ?_ GE117.out|refine zJ ?_ GE118.out)|exact HB.out)) hb); clear HO_119003 BK117 BK118 HB; have HO_119003 := n0_; have BK117 := n1_; have BK118 := n2_; have HB := n3_; clear n0_ n1_ n2_ n3_;(try clear hb);(try clear hb2);(try clear hk);(try clear hi);(try clear hge); have hnb28 := NB117_118.out; have hnc28 := NB118_117.out; have hcz29_0 : w27.cell? ⟨gb117,0,none⟩ = some (.int .i64 x118000_1):=(blk_cell BK117.out 0).trans rfl; have hcz29_1 : w27.cell? ⟨gb117,1,none⟩ = some (.int .i64 x118001_1):=(blk_cell BK117.out 1).trans rfl; have hcz29_2 : w27.cell? ⟨gb117,2,none⟩ = some (.string x118002_1):=(blk_cell BK117.out 2).trans rfl; have hcz29_3 : w27.cell? ⟨gb117,3,none⟩ = some (.slice none 0 0):=(blk_cell BK117.out 3).trans rfl; have hfz29_0 := blk_frozen BK117.out 0; have hfz29_1 := blk_frozen BK117.out 1; have hfz29_2 := blk_frozen BK117.out 2; have hfz29_3 := blk_frozen BK117.out 3))
         refine bodyPost_ret (results_cell_row rfl _ _ gb117 24 #[.int .i64 0,.int .i64 0,.string (⟨#[]⟩ : ByteArray),.slice none 0 0] (0,0) _ rfl (by (with_reducible repeat (first|refine zN ?_ _|refine zD ?_|refine zA ?_ _)); refine blk_put (cs := #[.int .i64 0,.int .i64 0,.string (⟨#[]⟩ : ByteArray),.slice none 0 0]) ?_ 3 _ rfl;(with_reducible repeat (first|refine zN ?_ _|refine zD ?_|refine zA ?_ _)); refine blk_put (cs := #[.int .i64 0,.int .i64 0,.string x118002_1,.slice none 0 0]) ?_ 2 _ rfl;(with_reducible repeat (first|refine zN ?_ _|refine zD ?_|refine zA ?_ _)); refine blk_put (cs := #[.int .i64 0,.int .i64 x118001_1,.string x118002_1,.slice none 0 0]) ?_ 1 _ rfl;(with_reducible repeat (first|refine zN ?_ _|refine zD ?_|refine zA ?_ _)); refine blk_put (cs := #[.int .i64 x118000_1,.int .i64 x118001_1,.string x118002_1,.slice none 0 0]) ?_ 0 _ rfl;(with_reducible repeat (first|refine zN ?_ _|refine zD ?_|refine zA ?_ _)); exact BK117.out) Tryz.underlying24 rfl (by kernel_rfl)) rfl ?_
         exact ⟨_,by first|rfl|(simp [errW_none,errW_some]<;>rfl)|(simp [*,errW_none,errW_some]<;>rfl),by first|exact Kd.R_nil _ _ _ _ _|exact Kd.N_nil _ _ _ _ _|exact Kd.V_nil _ _ _ _ _|exact Kd.Q_nil _ _ _ _ _|exact Kd.S_nil _ _ _ _ _,by repeat (first|(with_reducible first|exact HB.out|apply zE|apply zB|apply zC|refine zJ ?_ GE117.out|refine zJ ?_ GE118.out)|exact HB.out)⟩
       ·rw [if_neg c14] at H
        exact absurd H (by simp)
      ·rw [if_neg c13] at H
       exact absurd H (by simp)
     ·replace c11 := Bool.eq_false_iff.mpr c11
      subst c11
      have H1 : (some (5,0,(⟨#[]⟩ : ByteArray),x119003_1)) = some (r1,r2,r3,r4) := by rw [if_neg (show ¬ (false = true) by decide)] at H; exact H
      clear H; have H := H1; clear H1
      simp only [Option.some.injEq,Prod.mk.injEq] at H
      obtain ⟨rfl,rfl,rfl,rfl⟩ := H; have hnb30 := NB118_117.out; have hnc30 := NB117_118.out
      have hcz31_0 : wc.cell? ⟨gb118,0,none⟩ = some (.int .i64 5):=(blk_cell BK118.out 0).trans rfl
      have hcz31_1 : wc.cell? ⟨gb118,1,none⟩ = some (.int .i64 0):=(blk_cell BK118.out 1).trans rfl
      have hcz31_2 : wc.cell? ⟨gb118,2,none⟩ = some (.string (⟨#[]⟩ : ByteArray)):=(blk_cell BK118.out 2).trans rfl
      have hcz31_3 : wc.cell? ⟨gb118,3,none⟩ = some (u119003):=(blk_cell BK118.out 3).trans rfl
      have hfz31_0 := blk_frozen BK118.out 0
      have hfz31_1 := blk_frozen BK118.out 1
      have hfz31_2 := blk_frozen BK118.out 2
      have hfz31_3 := blk_frozen BK118.out 3
      have hcz32_0 : wc.cell? ⟨gb117,0,none⟩ = some (.int .i64 x118000_1):=(blk_cell BK117.out 0).trans rfl
      have hcz32_1 : wc.cell? ⟨gb117,1,none⟩ = some (.int .i64 x118001_1):=(blk_cell BK117.out 1).trans rfl
      have hcz32_2 : wc.cell? ⟨gb117,2,none⟩ = some (.string x118002_1):=(blk_cell BK117.out 2).trans rfl
      have hcz32_3 : wc.cell? ⟨gb117,3,none⟩ = some (.slice none 0 0):=(blk_cell BK117.out 3).trans rfl
      have hfz32_0 := blk_frozen BK117.out 0
      have hfz32_1 := blk_frozen BK117.out 1
      have hfz32_2 := blk_frozen BK117.out 2
      have hfz32_3 := blk_frozen BK117.out 3
      obtain ⟨Ao33,co33,eo33⟩ := Kd.R_slice HO_119003.out
      subst eo33
      go_wp2
      refine bodyPost_ret (results_cell_row rfl _ _ gb117 24 #[.int .i64 5,.int .i64 0,.string (⟨#[]⟩ : ByteArray),.slice Ao33 x119003_1.length co33] (0,0) _ rfl (by (with_reducible repeat (first|refine zN ?_ _|refine zD ?_|refine zA ?_ _)); refine blk_put (cs := #[.int .i64 5,.int .i64 0,.string (⟨#[]⟩ : ByteArray),.slice none 0 0]) ?_ 3 _ rfl;(with_reducible repeat (first|refine zN ?_ _|refine zD ?_|refine zA ?_ _)); refine blk_put (cs := #[.int .i64 5,.int .i64 0,.string x118002_1,.slice none 0 0]) ?_ 2 _ rfl;(with_reducible repeat (first|refine zN ?_ _|refine zD ?_|refine zA ?_ _)); refine blk_put (cs := #[.int .i64 5,.int .i64 x118001_1,.string x118002_1,.slice none 0 0]) ?_ 1 _ rfl;(with_reducible repeat (first|refine zN ?_ _|refine zD ?_|refine zA ?_ _)); refine blk_put (cs := #[.int .i64 x118000_1,.int .i64 x118001_1,.string x118002_1,.slice none 0 0]) ?_ 0 _ rfl;(with_reducible repeat (first|refine zN ?_ _|refine zD ?_|refine zA ?_ _)); exact BK117.out) Tryz.underlying24 rfl (by kernel_rfl)) rfl ?_
      exact ⟨_,by first|rfl|(simp [errW_none,errW_some]<;>rfl)|(simp [*,errW_none,errW_some]<;>rfl),by (with_reducible repeat (first|apply Kd.R_alloc|apply Kd.R_drewN|apply Kd.R_drew)); exact Kd.R_mono (Kd.R_far (p:=⟨gb117,3,none⟩) (Kd.R_far (p:=⟨gb117,2,none⟩) (Kd.R_far (p:=⟨gb117,1,none⟩) (Kd.R_far (p:=⟨gb117,0,none⟩) (Kd.R_types HO_119003.out BK117.out (by decide)) (fun _ hk=>hk.2) (.int .i64 5)) (fun _ hk=>hk.2) (.int .i64 0)) (fun _ hk=>hk.2) (.string (⟨#[]⟩ : ByteArray))) (fun _ hk=>hk.2) (.slice Ao33 x119003_1.length co33)) (fun _ hk=>trivial),by repeat (first|(with_reducible first|exact HB.out|apply zE|apply zB|apply zC|refine zJ ?_ GE117.out|refine zJ ?_ GE118.out)|exact HB.out)⟩

/-! ### strings_Contains: function 60 -/
def strings_Contains.f (a0 a1 : ByteArray) : Option Bool := match a1.data.toList with | [c] => some (decide (0 ≤ Lib.indexByte a0.data.toList c)) | _ => none
theorem strings_Contains.calls (a0 a1 : ByteArray) (r : Bool) (w : World) (h : strings_Contains.f a0 a1 = some r) :
  Calls Tryz.prog 60 #[.string a0,.string a1] w fun e w'=>e = .returned (.bool r) ∧ Drawn0 w w' := by
 unfold strings_Contains.f at h
 split at h
 ·rename_i c hc
  obtain rfl := Option.some.inj h
  obtain rfl : a1 = ⟨#[c]⟩ := by
   apply ByteArray.ext
   exact Array.toList_inj.1 hc
  refine (Tryz.strings_Contains_one a0 c w).mono ?_
  rintro e w' ⟨rfl,rfl⟩
  exact ⟨rfl,Drawn0.refl _⟩
 ·cases h

end Go.Proofs.YtannjakcnnefhaaGreatDoor.U
