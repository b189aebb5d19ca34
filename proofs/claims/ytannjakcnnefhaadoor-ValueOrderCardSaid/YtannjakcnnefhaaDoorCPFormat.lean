import Derived.Test.YtannjakcnnefhaaDoorCWQuote
import Derived.Lib.Join
set_option linter.unusedVariables false
set_option linter.unusedSimpArgs false
set_option linter.unusedVariables false
namespace Go.Proofs.YtannjakcnnefhaaDoor
open Go
theorem joinTail_len (sep : List UInt8) (B : Nat) : ∀ ls : List (List UInt8), (∀ x ∈ ls, x.length ≤ B) → (Lib.joinTail sep ls).length ≤ ls.length * (B + sep.length)
  | [], _ => Nat.zero_le _
  | x :: r, h => by
    have h1 := joinTail_len sep B r fun y hy => h y (List.mem_cons_of_mem _ hy)
    have h2 := h x (List.mem_cons_self ..)
    unfold Lib.joinTail at h1 ⊢
    rw [List.map_cons, List.flatten_cons, List.length_append, List.length_append, List.length_cons, Nat.succ_mul]
    omega
theorem join_len (sep : List UInt8) (B : Nat) (ls : List (List UInt8)) (h : ∀ x ∈ ls, x.length ≤ B) : (Lib.join ls sep).length ≤ (ls.length + 1) * (B + sep.length) := by
  cases ls with
  | nil => exact Nat.zero_le _
  | cons x r =>
    have h1 := joinTail_len sep B r fun y hy => h y (List.mem_cons_of_mem _ hy)
    have h2 := h x (List.mem_cons_self ..)
    rw [Lib.join_cons, List.length_append, List.length_cons, Nat.succ_mul, Nat.succ_mul]
    omega
theorem quoteR_len (s : ByteArray) : (quoteR s).1.data.toList.length ≤ 402 := by
  unfold quoteR
  split
  · rename_i h
    have h1 := validB_size h
    have h2 := escL_len s.data.toList
    have h3 : s.data.toList.length = s.size := Go.Proofs.YtannjakcnnefhaaDoorW.PrintWords.data_length s
    show (quoteL s.data.toList).length ≤ 402
    simp only [quoteL, List.length_cons, List.length_append, List.length_nil]
    omega
  · exact Nat.zero_le _
/-- The source form of a list. -/
def listL (l : List ByteArray) : List UInt8 := 91 :: (Lib.join (l.map fun s => (quoteR s).1.data.toList) [44, 32] ++ [93])
end Go.Proofs.YtannjakcnnefhaaDoor
