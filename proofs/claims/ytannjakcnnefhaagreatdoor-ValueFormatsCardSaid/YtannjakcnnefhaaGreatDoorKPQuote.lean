import Derived.Laws.RangeAny
set_option linter.unusedVariables false
set_option linter.unusedSimpArgs false
set_option linter.unusedVariables false
namespace Go.Proofs.YtannjakcnnefhaaGreatDoor
open Go
/-- A letter in quotation marks. -/
def escC (c : UInt8) : List UInt8 := if c = 34 ∨ c = 92 then [92, c] else [c]
def escL : List UInt8 → List UInt8
  | [] => []
  | c :: r => escC c ++ escL r
def quoteL (l : List UInt8) : List UInt8 := 34 :: (escL l ++ [34])
theorem escL_append : ∀ (l m : List UInt8), escL (l ++ m) = escL l ++ escL m
  | [], m => rfl
  | c :: r, m => by rw [List.cons_append, escL, escL, escL_append r m, List.append_assoc]
theorem escC_len (c : UInt8) : (escC c).length ≤ 2 := by unfold escC; split <;> simp
theorem escL_len : ∀ l : List UInt8, (escL l).length ≤ 2 * l.length
  | [] => Nat.le_refl _
  | c :: r => by
    have := escL_len r
    have := escC_len c
    rw [escL, List.length_append, List.length_cons]
    omega
/-- What stands between quotation marks, letter by letter; acc: what was read; b: an escape is open. -/
def unqA (acc : List UInt8) (b : Bool) : List UInt8 → Option (List UInt8)
  | [] => if b then none else some acc
  | c :: r => if b then (if c = 34 ∨ c = 92 then unqA (acc ++ [c]) false r else none) else (if c = 34 then none else if c = 92 then unqA acc true r else unqA (acc ++ [c]) false r)
theorem unqA_esc : ∀ (l acc r : List UInt8), unqA acc false (escL l ++ r) = unqA (acc ++ l) false r
  | [], acc, r => by rw [escL, List.nil_append, List.append_nil]
  | c :: l, acc, r => by
    rw [escL]
    unfold escC
    by_cases h : c = 34 ∨ c = 92
    · rw [if_pos h]
      have e1 : (92 : UInt8) ≠ 34 := by decide
      simp only [List.cons_append, List.nil_append, unqA, if_neg e1, if_true, Bool.false_eq_true, if_false, if_pos h]
      rw [unqA_esc l, List.append_assoc]
      rfl
    · rw [if_neg h]
      have h1 : c ≠ 34 := fun e => h (.inl e)
      have h2 : c ≠ 92 := fun e => h (.inr e)
      simp only [List.cons_append, List.nil_append, unqA, if_neg h1, if_neg h2, Bool.false_eq_true, if_false]
      rw [unqA_esc l, List.append_assoc]
      rfl
end Go.Proofs.YtannjakcnnefhaaGreatDoor
