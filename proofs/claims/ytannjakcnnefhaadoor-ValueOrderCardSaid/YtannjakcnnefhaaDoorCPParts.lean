import Derived.Test.YtannjakcnnefhaaDoorCPNum
import Derived.Lib.SplitLaws
import Derived.Lib.IndexLaws
set_option linter.unusedVariables false
set_option linter.unusedSimpArgs false
set_option linter.unusedVariables false
namespace Go.Proofs.YtannjakcnnefhaaDoor
open Go
/-- The pieces of a text between periods. -/
def dots (s : ByteArray) : List ByteArray := Lib.splitB ⟨#[46]⟩ 0 (Lib.countB s ⟨#[46]⟩) s
/-- A part of a version. -/
def okPart (p : ByteArray) : Prop := (pnum p.data.toList).2 = 0 ∧ 0 ≤ (pnum p.data.toList).1 ∧ (pnum p.data.toList).1 ≤ 999999
instance (p : ByteArray) : Decidable (okPart p) := inferInstanceAs (Decidable (_ ∧ _ ∧ _))
/-- The three numbers of a version. -/
def parts3 (l : List ByteArray) : Option (Int × Int × Int) :=
  match l with
  | [a, b, c] => if okPart a ∧ okPart b ∧ okPart c then some ((pnum a.data.toList).1, (pnum b.data.toList).1, (pnum c.data.toList).1) else none
  | _ => none
theorem dots_length (s : ByteArray) : (dots s).length = Lib.countB s ⟨#[46]⟩ + 1 := Lib.splitB_all ⟨#[46]⟩ (Nat.le_refl 1) 0 _ s rfl
theorem parts3_len {l : List ByteArray} (h : l.length ≠ 3) : parts3 l = none := by
  rcases l with _ | ⟨a, _ | ⟨b, _ | ⟨c, _ | ⟨d, r⟩⟩⟩⟩ <;> simp_all [parts3]
theorem parts3_bad {a b c : ByteArray} (h : ¬ okPart a ∨ ¬ okPart b ∨ ¬ okPart c) : parts3 [a, b, c] = none := by
  show (if okPart a ∧ okPart b ∧ okPart c then _ else none) = _
  rw [if_neg]
  rintro ⟨h1, h2, h3⟩
  rcases h with h | h | h <;> contradiction
theorem parts3_good {a b c : ByteArray} (h1 : okPart a) (h2 : okPart b) (h3 : okPart c) : parts3 [a, b, c] = some ((pnum a.data.toList).1, (pnum b.data.toList).1, (pnum c.data.toList).1) := by
  show (if okPart a ∧ okPart b ∧ okPart c then _ else none) = _
  rw [if_pos ⟨h1, h2, h3⟩]
/-- The pieces between periods, letter by letter. -/
def dotsL : List UInt8 → List (List UInt8)
  | [] => [[]]
  | c :: r => if c = 46 then [] :: dotsL r else (match dotsL r with | h :: t => (c :: h) :: t | [] => [[c]])
theorem splitK_dots : ∀ (l : List UInt8) (k : Nat), Lib.count l [46] = k → Lib.splitK [46] 0 k l = dotsL l
  | [], k, h => by
    rw [Lib.count_one] at h
    subst h
    rfl
  | c :: r, k, h => by
    by_cases hc : c = 46
    · subst hc
      rw [Lib.count_cons_eq] at h
      obtain ⟨k', rfl⟩ : ∃ k', k = k' + 1 := ⟨k - 1, by omega⟩
      have ih := splitK_dots r k' (by omega)
      have hi : Lib.index (46 :: r) [46] = 0 := by rw [Lib.index_one]; simp [Lib.indexByte]
      rw [Lib.splitK, hi, dotsL, if_pos rfl, ← ih]
      simp
    · rw [Lib.count_cons_ne _ _ _ hc] at h
      have ih := splitK_dots r k h
      rw [dotsL, if_neg hc, ← ih]
      cases k with
      | zero => rfl
      | succ k =>
        have hmem : 46 ∈ r := by
          rw [Lib.count_one] at h
          exact List.count_pos_iff.1 (by omega)
        have hi : ∃ i : Nat, Lib.index r [46] = i := by
          rw [Lib.index_one]
          have := Lib.indexByte_ge r 46
          rcases Int.lt_or_le (Lib.indexByte r 46) 0 with h1 | h1
          · have h2 := Lib.indexByte_none (l := r) (c := 46) (by omega)
            obtain ⟨j, hj, he⟩ := List.mem_iff_getElem.1 hmem
            exact absurd (by rw [List.getElem?_eq_getElem hj, he]) (h2 j)
          · exact ⟨(Lib.indexByte r 46).toNat, by omega⟩
        obtain ⟨i, hi⟩ := hi
        have hi2 : Lib.index (c :: r) [46] = ((i + 1 : Nat) : Int) := by
          rw [Lib.index_one] at hi ⊢
          have e1 : (c == 46) = false := by simpa using hc
          have e2 : (Lib.indexByte r 46 == -1) = false := by rw [hi, beq_eq_false_iff_ne]; omega
          rw [Lib.indexByte, e1, e2, hi]
          simp
        rw [Lib.splitK, Lib.splitK, hi, hi2]
        have e1 : (((i : Nat) : Int) == -1) = false := by rw [beq_eq_false_iff_ne]; omega
        have e2 : (((i + 1 : Nat) : Int) == -1) = false := by rw [beq_eq_false_iff_ne]; omega
        simp only [e1, e2]
        simp
theorem dots_data (s : ByteArray) : (dots s).map (·.data.toList) = dotsL s.data.toList := by
  unfold dots
  rw [Lib.splitB_data]
  exact splitK_dots _ _ rfl
theorem dotsL_len : ∀ (l : List UInt8) (p : List UInt8), p ∈ dotsL l → p.length ≤ l.length
  | [], p, h => by
    simp only [dotsL, List.mem_singleton] at h
    subst h
    exact Nat.le_refl _
  | c :: r, p, h => by
    have ih := dotsL_len r
    rw [dotsL] at h
    split at h
    · rcases List.mem_cons.1 h with rfl | h
      · simp
      · have := ih p h
        simp only [List.length_cons]; omega
    · split at h
      · rename_i x t hx
        rw [hx] at ih
        rcases List.mem_cons.1 h with rfl | h
        · have := ih x (List.mem_cons_self ..)
          simp only [List.length_cons]; omega
        · have := ih p (List.mem_cons_of_mem _ h)
          simp only [List.length_cons]; omega
      · simp only [List.mem_singleton] at h
        subst h
        simp
theorem dots_size (s p : ByteArray) (h : p ∈ dots s) : p.size ≤ s.size := by
  have h1 : p.data.toList ∈ dotsL s.data.toList := by rw [← dots_data]; exact List.mem_map_of_mem h
  have h2 := dotsL_len _ _ h1
  rwa [Array.length_toList, Array.length_toList] at h2
end Go.Proofs.YtannjakcnnefhaaDoor
