import Derived.Laws.RangeAny
set_option linter.unusedVariables false
set_option linter.unusedSimpArgs false
namespace Go.Proofs.YtannjakcnnefhaaDoor
open Go
theorem width_pos (s : ByteArray) (pos : Nat) (h : pos < s.size) : 1 ≤ (Utf8.decode s pos).2 := by
  by_cases ha : (s[pos]'h).toNat < 128
  · rw [decode_ascii s pos h ha]
    exact Nat.le_refl _
  · exact (decode_high s pos h (by omega)).2
/-- No rune is a control sign. -/
def runesOk (s : ByteArray) : Nat → Nat → Bool
  | 0, _ => true
  | b + 1, i => if i < s.size then (if (Utf8.decode s i).1 < 32 ∨ (Utf8.decode s i).1 = 127 then false else runesOk s b (i + (Utf8.decode s i).2)) else true
theorem runesOk_end (s : ByteArray) (b i : Nat) (h : ¬ i < s.size) : runesOk s b i = true := by
  cases b with
  | zero => rfl
  | succ b => simp [runesOk, h]
end Go.Proofs.YtannjakcnnefhaaDoor
