import Derived.Laws.RangeAny
set_option linter.unusedVariables false
set_option linter.unusedSimpArgs false
set_option linter.unusedVariables false
namespace Go.Proofs.YtannjakcnnefhaaDoor
open Go
/-- A letter in quotation marks. -/
def escC (c : UInt8) : List UInt8 := if c = 34 ∨ c = 92 then [92, c] else [c]
def escL : List UInt8 → List UInt8
  | [] => []
  | c :: r => escC c ++ escL r
def quoteL (l : List UInt8) : List UInt8 := 34 :: (escL l ++ [34])
theorem escL_append : ∀ (l m : List UInt8), escL (l ++ m) = escL l ++ escL m
  | [], m => rfl
  | c :: r, m => by rw [List.cons_append, escL, escL, escL_append r m, List.append_assoc]
theorem escC_len (c : UInt8) : (escC c).length ≤ 2 := by unfold escC; split <;> simp
theorem escL_len : ∀ l : List UInt8, (escL l).length ≤ 2 * l.length
  | [] => Nat.le_refl _
  | c :: r => by
    have := escL_len r
    have := escC_len c
    rw [escL, List.length_append, List.length_cons]
    omega
/-- What stands between quotation marks, letter by letter; acc: what was read; b: an escape is open. -/
def unqA (acc : List UInt8) (b : Bool) : List UInt8 → Option (List UInt8)
  | [] => if b then none else some acc
  | c :: r => if b then (if c = 34 ∨ c = 92 then unqA (acc ++ [c]) false r else none) else (if c = 34 then none else if c = 92 then unqA acc true r else unqA (acc ++ [c]) false r)
end Go.Proofs.YtannjakcnnefhaaDoor
