import Derived.Test.YtefglphdiimhnaaDoorPHash
import Derived.Test.YtefglphdiimhnaaDoorOpenValue
set_option linter.unusedVariables false
namespace Go.Proofs.YtefglphdiimhnaaDoor.Q
open Go Go.RowKit Go.Proofs.YtefglphdiimhnaaDoor.Plain Go.Proofs.YtefglphdiimhnaaDoorW.PrintWords
theorem hashes_law (a0 a1 : ByteArray) (a b : Int) (s : ByteArray) (A2 : Option Addr) (c2 : Nat) (l2 : List ByteArray) (A3 : Option Addr) (c3 : Nat) (l3 : List Int) (w : World) (hr2 : Kd.C Kd.string w A2 l2.length l2) (hc2 : l2.length ≤ c2) (hr3 : Kd.C (Kd.int .u8) w A3 l3.length l3) (hc3 : l3.length ≤ c3)
    (hb : -9223372036854775808 ≤ b ∧ b ≤ 9223372036854775807) (hl3 : ∀ x ∈ l3, 0 ≤ x ∧ x < 256) (hGL : GL w) :
    Calls Tryd.prog 8 #[.string a0, .string a1, .agg #[.int .i64 a, .int .i64 b, .string s, .slice A2 l2.length c2], .slice A3 l3.length c3] w fun e w' => e = .returned (.bool true) ∧ Below w.heap.size w w' := by
  obtain ⟨k, h⟩ := hashes_true a0 a1 a b s l2 l3 hb hl3
  exact flagstonelaw13_BucketHashes.calls k a0 a1 a b s (fun k => k < w.heap.size) A2 c2 l2 A3 c3 l3 true w (Laid.V_of_C Kd.heap_string hr2 hc2) hr3 hc3 hGL h
end Go.Proofs.YtefglphdiimhnaaDoor.Q
