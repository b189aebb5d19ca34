import Derived.Test.YtannjakcnnefhaaGreatDoorCUPVal
set_option linter.unusedVariables false
set_option linter.unusedSimpArgs false
namespace Go.Proofs.YtannjakcnnefhaaGreatDoor.U
open Go Go.RowKit Go.Proofs.YtannjakcnnefhaaGreatDoor Go.Proofs.YtannjakcnnefhaaGreatDoorW.PrintWords Go.Proofs.YtannjakcnnefhaaGreatDoorW.PrintLast Go.Proofs.YtannjakcnnefhaaGreatDoorW.PrintMore
/-- Both comparisons are alike, and they answer. -/
theorem compare_both (a b : Int) (c : ByteArray) (l : List ByteArray) (a' b' : Int) (c' : ByteArray) (l' : List ByteArray) (K : Nat) (hK : 3000 < K) (hc : c.size ≤ 4294967280) (hl : l.length ≤ 1000) (hs : ∀ x ∈ l, x.size ≤ 9223372036854775800)
    (hc' : c'.size ≤ 4294967280) (hl' : l'.length ≤ 1000) (hs' : ∀ x ∈ l', x.size ≤ 9223372036854775800) :
    ∃ n e, value_Compare.f K a b c l a' b' c' l' = some (n, e) ∧ flagstoneref3_Compare.f K a b c l a' b' c' l' = some (n, e) := by
  obtain ⟨r, h1, h2, -⟩ := check_both a b c l K hK hc hl hs
  obtain ⟨r', h1', h2', -⟩ := check_both a' b' c' l' K hK hc' hl' hs'
  unfold value_Compare.f flagstoneref3_Compare.f
  rw [h1, h2]
  simp only [Option.bind_some]
  by_cases z : r ≠ 0
  · rw [if_pos z, if_pos z]; exact ⟨_, _, rfl, rfl⟩
  · rw [if_neg z, if_neg z, h1', h2']
    simp only [Option.bind_some]
    by_cases z' : r' ≠ 0
    · rw [if_pos z']; exact ⟨_, _, rfl, rfl⟩
    · rw [if_neg z']
      have : ∃ n e, cmpV a b c a' b' c' = some (n, e) := by
        unfold cmpV
        split
        · exact ⟨_, _, rfl⟩
        · split
          · exact ⟨_, _, rfl⟩
          · split
            · exact ⟨_, _, rfl⟩
            · rw [if_pos ⟨by omega, by omega⟩]; exact ⟨_, _, rfl⟩
      obtain ⟨n, e, h⟩ := this
      exact ⟨n, e, h, h⟩
theorem same_both (l l' : List ByteArray) (hl : l.length ≤ 1000) (he : l.length = l'.length) : ∀ (d k i : Nat), l.length - i = d → d < k →
    ∃ t, slices_Equal_string_string.l0 k l l' (l.length : Int) (i : Int) = some t ∧ flagstoneref1_Same.l0 k l l' (i : Int) = some t := by
  intro d
  induction d with
  | zero =>
    intro k i hd hk
    obtain ⟨k, rfl⟩ : ∃ m, k = m + 1 := ⟨k - 1, by omega⟩
    simp only [slices_Equal_string_string.l0, flagstoneref1_Same.l0]
    rw [if_neg (by omega), if_neg (by omega)]
    exact ⟨true, rfl, rfl⟩
  | succ d ih =>
    intro k i hd hk
    obtain ⟨k, rfl⟩ : ∃ m, k = m + 1 := ⟨k - 1, by omega⟩
    obtain ⟨t, g1, g2⟩ := ih k (i + 1) (by omega) (by omega)
    simp only [slices_Equal_string_string.l0, flagstoneref1_Same.l0]
    rw [if_pos (show (i : Int) < (l.length : Int) by omega), if_pos (show (0 : Int) ≤ (i : Int) by omega), if_pos (show (i : Int) < (l.length : Int) by omega), if_pos (show (i : Int) < (l'.length : Int) by omega),
      if_pos (show (i : Int) < (l.length : Int) by omega), if_pos (show (0 : Int) ≤ (i : Int) by omega), if_pos (show (i : Int) < (l'.length : Int) by omega)]
    by_cases z : (rdOf ByteArray.empty l (i : Int)).toList = (rdOf ByteArray.empty l' (i : Int)).toList
    · rw [if_pos z, if_pos z, w64 (by omega) (by omega)]
      exact ⟨t, g1, g2⟩
    · rw [if_neg z, if_neg z]; exact ⟨false, rfl, rfl⟩
/-- Both equalities are alike, and they answer. -/
theorem equal_both (a b : Int) (c : ByteArray) (l : List ByteArray) (a' b' : Int) (c' : ByteArray) (l' : List ByteArray) (K : Nat) (hK : 3000 < K) (hl : l.length ≤ 1000) :
    ∃ t, value_Equal.f K a b c l a' b' c' l' = some t ∧ flagstoneref3_Equal.f K a b c l a' b' c' l' = some t := by
  unfold value_Equal.f flagstoneref3_Equal.f slices_Equal_string_string.f flagstoneref1_Same.f
  by_cases h1 : a = a'
  · rw [if_pos h1, if_pos h1]
    by_cases h2 : b = b'
    · rw [if_pos h2, if_pos h2]
      by_cases h3 : c.toList = c'.toList
      · rw [if_pos h3, if_pos h3]
        by_cases h4 : (l.length : Int) = (l'.length : Int)
        · rw [if_pos h4, if_pos h4]
          obtain ⟨t, g1, g2⟩ := same_both l l' hl (by omega) l.length K 0 (by omega) (by omega)
          refine ⟨t, ?_, ?_⟩
          · rw [show slices_Equal_string_string.l0 K l l' (l.length : Int) 0 = some t from g1]; rfl
          · rw [show flagstoneref1_Same.l0 K l l' 0 = some t from g2]; rfl
        · rw [if_neg h4, if_neg h4]; exact ⟨false, rfl, rfl⟩
      · rw [if_neg h3, if_neg h3]; exact ⟨false, rfl, rfl⟩
    · rw [if_neg h2, if_neg h2]; exact ⟨false, rfl, rfl⟩
  · rw [if_neg h1, if_neg h1]; exact ⟨false, rfl, rfl⟩
end Go.Proofs.YtannjakcnnefhaaGreatDoor.U
