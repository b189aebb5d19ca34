import Derived.Test.YtannjakcnnefhaaDoorProg
import Derived.Below
import Derived.Deep.Draws
import Derived.Deep.AppendLies
import Derived.Maps.AppendAt
import Derived.OwnWalk
import Derived.Laws.BytesArg
import Derived.Laws.MakeOwn
import Derived.Laws.OwnMore
import Derived.Deep.OwnRows
import Derived.Tactics
import Derived.Lib.ConvBytes
import Derived.Laws.Slices
import Derived.WalkKit
import Derived.KernelRfl
import Derived.RowKit3
import Derived.Deep.LoopGhost
import Derived.Deep.QuietTactic
import Derived.BigQuiet
import Derived.WideLaws
import Derived.Deep.DeepCutAuto
import Derived.Deep.CutBlock
import Derived.Deep.RegionHeld3
import Derived.Laws.Rows
import Derived.Lib.AppendStr
import Derived.ArgAppend
import Derived.Laws.IdiomCopy
import Derived.OrdersHeld
import Derived.Laws.BitsLemmas
import Derived.RowKit
import Derived.Test.YtannjakcnnefhaaDoorCStrOrd
import Derived.Test.YtannjakcnnefhaaDoorCGL
import Derived.Test.YtannjakcnnefhaaDoorCWCmp3
import Derived.Test.YtannjakcnnefhaaDoorCWUnquote
import Derived.Test.YtannjakcnnefhaaDoorCPFormat
import Derived.Test.YtannjakcnnefhaaDoorCNumPlain
import Derived.Lib.ItoaLen
import Derived.Lib.ItoaNum
import Derived.Test.YtannjakcnnefhaaDoorCShelf
import Derived.Laws.CopyOwn
import Derived.ChangeKeysEq
import Derived.StillTailTactics
import Derived.Test.YtannjakcnnefhaaDoorCW
-- printed by wip/hp.py (the session's driver of the print, with hand-proved contracts)
namespace Go.Proofs.YtannjakcnnefhaaDoor.O
open Go.RowKit Go.Proofs.YtannjakcnnefhaaDoorW.PrintWords Go.Proofs.YtannjakcnnefhaaDoorW.PrintLast Go.Proofs.YtannjakcnnefhaaDoorW.PrintMore
attribute [local go_sem] max2_int min2_int max_two min_two max_three min_three max_four min_four   -- for this text's walks alone
set_option linter.unusedVariables false
set_option linter.unusedSimpArgs false



def errW : Option Int → Value
 | none=>.nilIface
 | some c=>.iface 0 (.int .i64 c)
theorem errW_none : errW none = .nilIface := rfl
theorem errW_some (c : Int) : errW (some c) = .iface 0 (.int .i64 c) := rfl

theorem info5 : (Tryd.prog.info? 5).map (fun i => (i.zero, i.size, i.bytes)) = some (some (.int .u8 0), 1, 1) := by kernel_rfl
theorem info9 : (Tryd.prog.info? 9).map (fun i => (i.zero, i.size, i.bytes)) = some (some (.string ⟨#[]⟩), 1, 16) := by kernel_rfl
-- the values' own types
/-! #### struct type 22 -/
structure S22 where
 f0 : Int
 f1 : Int
 f2 : Int
def z22 : S22 := ⟨(0 : Int), (0 : Int), (0 : Int)⟩
def k22 : Kd S22 := Kd.iso (Kd.pair (Kd.int .i64) (Kd.pair (Kd.int .i64) (Kd.int .i64))) (fun x : S22 => (x.f0, x.f1, x.f2))
def rd_T22 (xs : List S22) (i : Int) : S22 := xs.getD i.toNat z22
def rd_L4 (xs : List (List ByteArray)) (i : Int) : (List ByteArray) := xs.getD i.toNat ([] : List ByteArray)
theorem at_L4 {w : World} {A : Option Addr} {n : Nat} {xs : List (List ByteArray)} (h : Kd.C (Kd.slice 9 Kd.string) w A n xs) (i : Int) (h0 : 0 ≤ i) (h1 : i < n) : ∃ ad A0 c0, A = some ad ∧ w.cell? (ad.add i.toNat) = some (.slice A0 (rd_L4 xs i).length c0) ∧ (rd_L4 xs i).length ≤ c0 ∧ Kd.string.C w A0 (rd_L4 xs i).length (rd_L4 xs i) := by
 obtain ⟨ad,c,e,_,hK,hc0⟩ := Kd.C_get h ([] : List ByteArray) i h0 h1
 have hc : ∀ j u,c[j]? = some u → w.cell? (ad.add (i.toNat * 1 + j)) = some u := hc0
 obtain ⟨A0,c0,rfl,l0,g0⟩ := hK
 exact ⟨ad,A0,c0,e,by have hq := hc 0 _ rfl; rwa [Nat.mul_one,Nat.add_zero] at hq,l0,g0⟩

/-! #### struct type 31 -/
structure S31 where
 f0 : Int
 f1 : Int
 f2 : ByteArray
 f3 : (List ByteArray)
def z31 : S31 := ⟨(0 : Int), (0 : Int), (⟨#[]⟩ : ByteArray), ([] : List ByteArray)⟩
def k31 : Kd S31 := Kd.iso (Kd.pair (Kd.int .i64) (Kd.pair (Kd.int .i64) (Kd.pair Kd.string (Kd.slice 9 Kd.string)))) (fun x : S31 => (x.f0, x.f1, x.f2, x.f3))
theorem k31_open {w : World} {x : S31} {cs : List Value} (h : k31.K w x cs) : ∃ A3 c3, cs = [.int .i64 x.f0, .int .i64 x.f1, .string x.f2, .slice A3 x.f3.length c3] ∧ x.f3.length ≤ c3 ∧ Kd.string.C w A3 x.f3.length x.f3 := by
 obtain ⟨_,_,rfl,rfl,⟨_,_,rfl,rfl,⟨_,_,rfl,rfl,⟨A3,c3,rfl,l3,g3⟩⟩⟩⟩ := h
 exact ⟨A3,c3,rfl,l3,g3⟩
theorem k31_mk (w : World) (x : S31) {A3 : Option Addr} {c3 : Nat} (l3 : x.f3.length ≤ c3) (g3 : Kd.string.C w A3 x.f3.length x.f3) : k31.K w x [.int .i64 x.f0, .int .i64 x.f1, .string x.f2, .slice A3 x.f3.length c3] := ⟨[.int .i64 x.f0], [.int .i64 x.f1, .string x.f2, .slice A3 x.f3.length c3], rfl, rfl, ⟨[.int .i64 x.f1], [.string x.f2, .slice A3 x.f3.length c3], rfl, rfl, ⟨[.string x.f2], [.slice A3 x.f3.length c3], rfl, rfl, ⟨A3, c3, rfl, l3, g3⟩⟩⟩⟩
theorem k31_openF {W : World} {ok : Nat → Prop} {x : S31} {cs : List Value} (h : Kd.FK k31 W ok x cs) : ∃ A3 c3, cs = [.int .i64 x.f0, .int .i64 x.f1, .string x.f2, .slice A3 x.f3.length c3] ∧ x.f3.length ≤ c3 ∧ Kd.F Kd.string W ok A3 x.f3.length x.f3 := by
 obtain ⟨A3,c3,rfl,l3,_⟩ := k31_open (Kd.FK_now h)
 exact ⟨A3,c3,rfl,l3,(fun W' hW=>by obtain ⟨A3_,c3_,he,l3_,g3_⟩ := k31_open (h W' hW); injection (Option.some.inj (show some (Value.slice A3 x.f3.length c3) = some (Value.slice A3_ x.f3.length c3_) from congrArg (fun l=>l[3]?) he)) with ha_ _ _; rw [ha_]; exact g3_)⟩
theorem k31_mkF (W : World) (ok : Nat → Prop) (x : S31) {A3 : Option Addr} {c3 : Nat} (l3 : x.f3.length ≤ c3) (g3 : Kd.F Kd.string W ok A3 x.f3.length x.f3) : Kd.FK k31 W ok x [.int .i64 x.f0, .int .i64 x.f1, .string x.f2, .slice A3 x.f3.length c3] := fun W2 hW => k31_mk W2 x l3 (g3 W2 hW)
def rd_T31 (xs : List S31) (i : Int) : S31 := xs.getD i.toNat z31
theorem at_T31 {w : World} {A : Option Addr} {n : Nat} {xs : List S31} (h : Kd.C k31 w A n xs) (i : Int) (h0 : 0 ≤ i) (h1 : i < n) : ∃ ad A3 c3, A = some ad ∧ w.cell? (ad.add (i.toNat * 4)) = some (.int .i64 (rd_T31 xs i).f0) ∧ w.cell? ⟨(ad.add (i.toNat * 4)).block, (ad.add (i.toNat * 4)).off + 1, none⟩ = some (.int .i64 (rd_T31 xs i).f1) ∧ w.cell? ⟨(ad.add (i.toNat * 4)).block, (ad.add (i.toNat * 4)).off + 2, none⟩ = some (.string (rd_T31 xs i).f2) ∧ w.cell? ⟨(ad.add (i.toNat * 4)).block, (ad.add (i.toNat * 4)).off + 3, none⟩ = some (.slice A3 (rd_T31 xs i).f3.length c3) ∧ (rd_T31 xs i).f3.length ≤ c3 ∧ Kd.string.C w A3 (rd_T31 xs i).f3.length (rd_T31 xs i).f3 := by
 obtain ⟨ad,c,e,_,hK,hc0⟩ := Kd.C_get h z31 i h0 h1
 have hc : ∀ j u,c[j]? = some u → w.cell? (ad.add (i.toNat * 4 + j)) = some u := hc0
 obtain ⟨A3,c3,rfl,l3,g3⟩ := k31_open hK
 exact ⟨ad,A3,c3,e,hc 0 _ rfl,by rw [← add_field _ _ 1 (by omega)]; exact hc 1 _ rfl,by rw [← add_field _ _ 2 (by omega)]; exact hc 2 _ rfl,by rw [← add_field _ _ 3 (by omega)]; exact hc 3 _ rfl,l3,g3⟩

theorem zN : type_of% @blk_drewN := @blk_drewN
theorem zD : type_of% @blk_drew := @blk_drew
theorem zA : type_of% @blk_alloc := @blk_alloc
theorem zB : type_of% @pw_below_drewN := @pw_below_drewN
theorem zC : type_of% @below_drew1 := @below_drew1
theorem zE : type_of% @below_alloc := @below_alloc
theorem zF : type_of% @keep_drewN := @keep_drewN
theorem zG : type_of% @keep_drew := @keep_drew
theorem zH : type_of% @keep_alloc := @keep_alloc
theorem zI : type_of% @keep_far := @keep_far
theorem zJ : type_of% @below_set := @below_set
end Go.Proofs.YtannjakcnnefhaaDoor.O
