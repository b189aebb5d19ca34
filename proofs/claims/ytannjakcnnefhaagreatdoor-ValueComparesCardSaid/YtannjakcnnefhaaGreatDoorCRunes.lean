import Derived.Laws.RangeAny
set_option linter.unusedVariables false
set_option linter.unusedSimpArgs false
namespace Go.Proofs.YtannjakcnnefhaaGreatDoor
open Go
/-- The bytes inside a rune are no ASCII bytes. -/
theorem decode_skip (s : ByteArray) (pos : Nat) (j : Nat) (h1 : 1 ≤ j) (h2 : j < (Utf8.decode s pos).2) : 128 ≤ (s.get! (pos + j)).toNat := by
  have hj : j = 1 ∨ j = 2 ∨ j = 3 ∨ 4 ≤ j := by omega
  simp only [Utf8.decode] at h2
  repeat' split at h2
  all_goals (rcases hj with rfl | rfl | rfl | hj <;> simp_all [Utf8.runeError] <;> omega)
theorem width_pos (s : ByteArray) (pos : Nat) (h : pos < s.size) : 1 ≤ (Utf8.decode s pos).2 := by
  by_cases ha : (s[pos]'h).toNat < 128
  · rw [decode_ascii s pos h ha]
    exact Nat.le_refl _
  · exact (decode_high s pos h (by omega)).2
/-- No rune is a control sign. -/
def runesOk (s : ByteArray) : Nat → Nat → Bool
  | 0, _ => true
  | b + 1, i => if i < s.size then (if (Utf8.decode s i).1 < 32 ∨ (Utf8.decode s i).1 = 127 then false else runesOk s b (i + (Utf8.decode s i).2)) else true
theorem runesOk_end (s : ByteArray) (b i : Nat) (h : ¬ i < s.size) : runesOk s b i = true := by
  cases b with
  | zero => rfl
  | succ b => simp [runesOk, h]
/-- The runes are no control signs just when the bytes are none. -/
theorem runesOk_iff (s : ByteArray) : ∀ b i, s.size ≤ i + b → (runesOk s b i = true ↔ ∀ j, i ≤ j → j < s.size → 32 ≤ (s.get! j).toNat ∧ (s.get! j).toNat ≠ 127)
  | 0, i, hb => ⟨fun _ j h1 h2 => by omega, fun _ => rfl⟩
  | b + 1, i, hb => by
    by_cases hi : i < s.size
    · have hw := width_pos s i hi
      have g0 : s.get! i = s[i]'hi := get_at s i hi
      have hrec := runesOk_iff s b (i + (Utf8.decode s i).2) (by omega)
      rw [runesOk, if_pos hi]
      by_cases ha : (s[i]'hi).toNat < 128
      · have hd := decode_ascii s i hi ha
        have e1 : (Utf8.decode s i).1 = (s[i]'hi).toNat := by rw [hd]
        have e2 : (Utf8.decode s i).2 = 1 := by rw [hd]
        rw [e2] at hrec ⊢
        rw [e1]
        by_cases c : (s[i]'hi).toNat < 32 ∨ (s[i]'hi).toNat = 127
        · rw [if_pos c]
          refine ⟨fun h => by simp at h, fun h => ?_⟩
          have := h i (Nat.le_refl _) hi
          rw [g0] at this
          omega
        · rw [if_neg c, hrec]
          refine ⟨fun h j h1 h2 => ?_, fun h j h1 h2 => h j (by omega) h2⟩
          by_cases hj : j = i
          · subst hj
            rw [g0]
            omega
          · exact h j (by omega) h2
      · obtain ⟨r1, -⟩ := decode_high s i hi (by omega)
        have sk := decode_skip s i
        generalize Utf8.decode s i = d at *
        rw [if_neg (by omega), hrec]
        refine ⟨fun h j h1 h2 => ?_, fun h j h1 h2 => h j (by omega) h2⟩
        by_cases hj : i + d.2 ≤ j
        · exact h j hj h2
        · by_cases hj0 : j = i
          · subst hj0
            rw [g0]
            omega
          · have := sk (j - i) (by omega) (by omega)
            rw [show i + (j - i) = j by omega] at this
            omega
    · rw [runesOk_end s _ i hi]
      exact ⟨fun _ j h1 h2 => by omega, fun _ => rfl⟩
end Go.Proofs.YtannjakcnnefhaaGreatDoor
