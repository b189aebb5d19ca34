import Derived.Test.YtannjakcnnefhaaGreatDoorCUPLawCompares
import Derived.Test.YtannjakcnnefhaaGreatDoorCUOpenVal
set_option linter.unusedVariables false
set_option linter.unusedSimpArgs false
set_option linter.unusedVariables false
namespace Go.Proofs.YtannjakcnnefhaaGreatDoor.U
open Go Go.RowKit Go.Proofs.YtannjakcnnefhaaGreatDoor Go.Proofs.YtannjakcnnefhaaGreatDoorW.PrintWords
theorem compares_law (a b : Int) (s : ByteArray) (A : Option Addr) (c : Nat) (l : List ByteArray) (a' b' : Int) (s' : ByteArray) (A' : Option Addr) (c' : Nat) (l' : List ByteArray) (A1 : Option Addr) (c1 : Nat) (l1 : List Int) (w : World) (hr : Kd.C Kd.string w A l.length l) (hc : l.length ≤ c) (hg : GV ⟨a, b, s, l⟩) (hr' : Kd.C Kd.string w A' l'.length l') (hc' : l'.length ≤ c') (hg' : GV ⟨a', b', s', l'⟩) (hr1 : Kd.C (Kd.int .u8) w A1 l1.length l1) (hc1 : l1.length ≤ c1) (hl1 : ∀ x ∈ l1, 0 ≤ x ∧ x < 256) (hGL : GL w) :
    Calls Tryz.prog 6 #[.agg #[.int .i64 a, .int .i64 b, .string s, .slice A l.length c], .agg #[.int .i64 a', .int .i64 b', .string s', .slice A' l'.length c'], .slice A1 l1.length c1] w fun e w' => e = .returned (.bool true) ∧ Below w.heap.size w w' :=
  flagstonelaw3_ValueCompares.calls 5000 a b s (fun k => k < w.heap.size) A c l a' b' s' (fun k => k < w.heap.size) A' c' l' A1 c1 l1 true w (Laid.V_of_C Kd.heap_string hr hc) (Laid.V_of_C Kd.heap_string hr' hc') hr1 hc1 hGL (compares_true a b s l a' b' s' l' l1 (fun x hx => by have := hg.2.2.2.2 x hx; omega) (fun x hx => by have := hg'.2.2.2.2 x hx; omega) hl1) rfl
end Go.Proofs.YtannjakcnnefhaaGreatDoor.U
