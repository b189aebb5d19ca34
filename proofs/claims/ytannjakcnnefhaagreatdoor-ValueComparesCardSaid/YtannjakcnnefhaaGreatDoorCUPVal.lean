import Derived.Test.YtannjakcnnefhaaGreatDoorCU
import Derived.Test.YtannjakcnnefhaaGreatDoorCPNumI
import Derived.Test.YtannjakcnnefhaaGreatDoorCPDots
set_option linter.unusedVariables false
set_option linter.unusedSimpArgs false
namespace Go.Proofs.YtannjakcnnefhaaGreatDoor.U
open Go Go.RowKit Go.Proofs.YtannjakcnnefhaaGreatDoor Go.Proofs.YtannjakcnnefhaaGreatDoorW.PrintWords Go.Proofs.YtannjakcnnefhaaGreatDoorW.PrintLast Go.Proofs.YtannjakcnnefhaaGreatDoorW.PrintMore
theorem w64 {x : Int} (h0 : -9223372036854775808 ≤ x) (h1 : x ≤ 9223372036854775807) : wrap64 x = x := by unfold wrap64; omega
theorem bt_get (s : ByteArray) (j : Nat) (h : j < s.size) : bt s (j : Int) = ((s.get! j).toNat : Int) := by
  have := get_at s j h
  rw [Nat.add_zero] at this
  rw [this]
  unfold bt
  rw [dif_pos (show (j : Int).toNat < s.size by omega)]
  rfl
/-! ### valid texts -/
theorem refvalid_l (s : ByteArray) (hs : s.size ≤ 9223372036854775800) : ∀ (d k i : Nat), s.size - i = d → d < k →
    ∃ b, flagstoneref1_Valid.l0 k s (i : Int) = some b ∧ (b = true ↔ ∀ j, i ≤ j → j < s.size → 32 ≤ (s.get! j).toNat ∧ (s.get! j).toNat ≠ 127) := by
  intro d
  induction d with
  | zero =>
    intro k i hd hk
    obtain ⟨k, rfl⟩ : ∃ m, k = m + 1 := ⟨k - 1, by omega⟩
    refine ⟨true, ?_, ⟨fun _ j h1 h2 => (by omega), fun _ => rfl⟩⟩
    simp only [flagstoneref1_Valid.l0]
    rw [if_neg (by omega)]
  | succ d ih =>
    intro k i hd hk
    obtain ⟨k, rfl⟩ : ∃ m, k = m + 1 := ⟨k - 1, by omega⟩
    have hb := bt_get s i (by omega)
    simp only [flagstoneref1_Valid.l0]
    rw [if_pos (by omega), if_pos (by omega), hb]
    by_cases h1 : ((s.get! i).toNat : Int) < 32
    · rw [if_pos h1]
      exact ⟨false, rfl, ⟨fun h => (by cases h), fun h => absurd (h i (Nat.le_refl _) (by omega)) (by omega)⟩⟩
    · rw [if_neg h1]
      by_cases h2 : ((s.get! i).toNat : Int) = 127
      · rw [if_pos h2]
        exact ⟨false, rfl, ⟨fun h => (by cases h), fun h => absurd (h i (Nat.le_refl _) (by omega)) (by omega)⟩⟩
      · rw [if_neg h2, w64 (by omega) (by omega)]
        obtain ⟨b, e, hbb⟩ := ih k (i + 1) (by omega) (by omega)
        refine ⟨b, e, hbb.trans ⟨fun h j h3 h4 => ?_, fun h j h3 h4 => h j (by omega) h4⟩⟩
        by_cases hj : j = i
        · subst hj
          exact ⟨by omega, by omega⟩
        · exact h j (by omega) h4
theorem refvalid (s : ByteArray) (hs : s.size ≤ 9223372036854775800) (k : Nat) (hk : 203 < k) : flagstoneref1_Valid.f k s = some (validB s) := by
  obtain ⟨k, rfl⟩ : ∃ m, k = m + 1 := ⟨k - 1, by omega⟩
  unfold flagstoneref1_Valid.f
  by_cases h : (s.size : Int) > 200
  · rw [if_pos h]
    have : validB s = false := by
      unfold validB
      rw [decide_eq_false (by omega)]
      rfl
    rw [this]
    rfl
  · rw [if_neg h]
    unfold utf8_ValidString.f
    rw [if_pos (by omega)]
    simp only [Option.bind_some]
    unfold validB
    rw [decide_eq_true (show s.size ≤ 200 by omega)]
    cases hv : Lib.validD s.data.toList with
    | false => rfl
    | true =>
      show (if (!true) = true then some false else flagstoneref1_Valid.l0 k s 0) = _
      rw [if_neg (by decide)]
      obtain ⟨b, e, hb⟩ := refvalid_l s hs s.size k 0 (by omega) (by omega)
      have e0 : flagstoneref1_Valid.l0 k s 0 = some b := e
      rw [e0]
      have h2 := runesOk_iff s s.size 0 (by omega)
      have h3 : b = runesOk s s.size 0 := by
        cases b <;> cases hr : runesOk s s.size 0
        · rfl
        · exact absurd (hb.2 (h2.1 hr)) (by decide)
        · exact absurd (h2.2 (hb.1 rfl)) (by rw [hr]; decide)
        · rfl
      rw [h3]
      rfl
theorem textvalid (s : ByteArray) (hs : s.size ≤ 9223372036854775800) : text_Valid.f s = some (validB s) := by
  unfold text_Valid.f
  rw [if_pos (by omega)]
/-! ### shapes -/
/-- The fields that do not belong to the kind are zero. -/
def shapeB (a b : Int) (c : ByteArray) (l : List ByteArray) : Bool :=
  if a = 1 ∨ a = 2 then c.toList == [] && (l.length : Int) == 0 else if a = 3 ∨ a = 4 then b == 0 && (l.length : Int) == 0 else b == 0 && c.toList == []
theorem shapes (a b : Int) (c : ByteArray) (l : List ByteArray) (k : Nat) (h1 : 1 ≤ a) (h5 : a ≤ 5) : value_shape.f (k + 1) a b c l = some (shapeB a b c l) ∧ flagstoneref3_shape.f a b c l = some (shapeB a b c l) := by
  rcases (show a = 1 ∨ a = 2 ∨ a = 3 ∨ a = 4 ∨ a = 5 by omega) with rfl | rfl | rfl | rfl | rfl
  all_goals
    simp only [value_shape.f, value_shape.j0, flagstoneref3_shape.f, shapeB]
    by_cases hb : b = 0 <;> by_cases hc : c.toList = [] <;> by_cases hl : (l.length : Int) = 0 <;> simp [hb, hc, hl]
/-! ### lists -/
theorem rd_at (l : List ByteArray) (j : Nat) (h : j < l.length) : rdOf ByteArray.empty l (j : Int) = l[j] := by
  unfold rdOf
  simp [h]
theorem order_both (l : List ByteArray) (hl : l.length ≤ 1000) (x1 x2 : Int) (x3 : ByteArray) : ∀ (d k k' i : Nat), 1 ≤ i → l.length - i = d → d < k → d < k' →
    ∃ r, value_Check.l1 k (l.length : Int) (i : Int) x1 x2 x3 l = some r ∧ flagstoneref3_list.l1 k' l (i : Int) = some r ∧ (r = 0 ∨ r = 9) := by
  intro d
  induction d with
  | zero =>
    intro k k' i h1 hd hk hk'
    obtain ⟨k, rfl⟩ : ∃ m, k = m + 1 := ⟨k - 1, by omega⟩
    obtain ⟨k', rfl⟩ : ∃ m, k' = m + 1 := ⟨k' - 1, by omega⟩
    refine ⟨0, ?_, ?_, .inl rfl⟩
    · simp only [value_Check.l1]; rw [if_neg (by omega)]
    · simp only [flagstoneref3_list.l1]; rw [if_neg (by omega)]
  | succ d ih =>
    intro k k' i h1 hd hk hk'
    obtain ⟨k, rfl⟩ : ∃ m, k = m + 1 := ⟨k - 1, by omega⟩
    obtain ⟨k', rfl⟩ : ∃ m, k' = m + 1 := ⟨k' - 1, by omega⟩
    simp only [value_Check.l1, flagstoneref3_list.l1]
    rw [if_pos (show (i : Int) < (l.length : Int) by omega), if_pos (show (i : Int) > 0 by omega), w64 (x := (i : Int) - 1) (by omega) (by omega), w64 (x := (i : Int) + 1) (by omega) (by omega)]
    rw [if_pos (show (0 : Int) ≤ (i : Int) - 1 by omega), if_pos (show (i : Int) - 1 < (l.length : Int) by omega), if_pos (show (0 : Int) ≤ (i : Int) by omega), if_pos (show (i : Int) < (l.length : Int) by omega), if_pos (show (i : Int) < (l.length : Int) by omega), if_pos (show (0 : Int) ≤ (i : Int) by omega)]
    rw [if_pos (show (0 : Int) ≤ (i : Int) - 1 by omega), if_pos (show (i : Int) - 1 < (l.length : Int) by omega)]
    by_cases hb : Op.bytesLess (rdOf ByteArray.empty l ((i : Int) - 1)).toList (rdOf ByteArray.empty l (i : Int)).toList = true
    · rw [if_pos hb, if_pos hb]
      exact ih k k' (i + 1) (by omega) (by omega) (by omega) (by omega)
    · rw [if_neg hb, if_neg hb]
      exact ⟨9, rfl, rfl, .inr rfl⟩
theorem list_both (l : List ByteArray) (hl : l.length ≤ 1000) (hs : ∀ x ∈ l, x.size ≤ 9223372036854775800) (x1 x2 : Int) (x3 : ByteArray) : ∀ (d k k' i : Nat), l.length - i = d → d + l.length + 300 < k → d + l.length + 300 < k' →
    ∃ r, value_Check.l0 k l (l.length : Int) (i : Int) x1 x2 x3 l = some r ∧ flagstoneref3_list.l0 k' l (i : Int) = some r ∧ (r = 0 → ∀ j (h : j < l.length), i ≤ j → validB l[j] = true) := by
  intro d
  induction d with
  | zero =>
    intro k k' i hd hk hk'
    obtain ⟨k, rfl⟩ : ∃ m, k = m + 2 := ⟨k - 2, by omega⟩
    obtain ⟨k', rfl⟩ : ∃ m, k' = m + 2 := ⟨k' - 2, by omega⟩
    have h0 : ∃ r, value_Check.l1 (k + 1) (l.length : Int) 0 x1 x2 x3 l = some r ∧ flagstoneref3_list.l1 (k' + 1) l 1 = some r := by
      by_cases he : l.length = 0
      · refine ⟨0, ?_, ?_⟩
        · simp only [value_Check.l1]; rw [if_neg (by omega)]
        · simp only [flagstoneref3_list.l1]; rw [if_neg (by omega)]
      · obtain ⟨r, a1, a2, -⟩ := order_both l hl x1 x2 x3 (l.length - 1) k (k' + 1) 1 (Nat.le_refl _) rfl (by omega) (by omega)
        refine ⟨r, ?_, a2⟩
        simp only [value_Check.l1]
        rw [if_pos (by omega), if_neg (by omega), w64 (by omega) (by omega)]
        exact a1
    obtain ⟨r, a1, a2⟩ := h0
    refine ⟨r, ?_, ?_, fun _ j h1 h2 => by omega⟩
    · simp only [value_Check.l0]; rw [if_neg (by omega)]; exact a1
    · simp only [flagstoneref3_list.l0]; rw [if_neg (by omega)]; exact a2
  | succ d ih =>
    intro k k' i hd hk hk'
    obtain ⟨k, rfl⟩ : ∃ m, k = m + 1 := ⟨k - 1, by omega⟩
    obtain ⟨k', rfl⟩ : ∃ m, k' = m + 1 := ⟨k' - 1, by omega⟩
    have hi : i < l.length := by omega
    have hsz := hs l[i] (List.getElem_mem _)
    simp only [value_Check.l0, flagstoneref3_list.l0]
    rw [if_pos (show (i : Int) < (l.length : Int) by omega), if_pos (show (0 : Int) ≤ (i : Int) by omega), if_pos (show (i : Int) < (l.length : Int) by omega), if_pos (show (i : Int) < (l.length : Int) by omega), if_pos (show (0 : Int) ≤ (i : Int) by omega), rd_at l i hi, textvalid _ hsz, refvalid _ hsz k' (by omega)]
    simp only [Option.bind_some]
    cases hv : validB l[i] with
    | false => exact ⟨2, rfl, rfl, fun h => by omega⟩
    | true =>
      rw [if_pos rfl, if_pos rfl, w64 (by omega) (by omega)]
      obtain ⟨r, a1, a2, a3⟩ := ih k k' (i + 1) (by omega) (by omega) (by omega)
      refine ⟨r, a1, a2, fun h j h1 h2 => ?_⟩
      by_cases hj : j = i
      · subst hj; exact hv
      · exact a3 h j h1 (by omega)
/-! ### the whole check -/
theorem check_both (a b : Int) (c : ByteArray) (l : List ByteArray) (K : Nat) (hK : 3000 < K) (hc : c.size ≤ 4294967280) (hl : l.length ≤ 1000) (hs : ∀ x ∈ l, x.size ≤ 9223372036854775800) :
    ∃ r, value_Check.f K a b c l = some r ∧ flagstoneref3_Check.f K a b c l = some r ∧ (r = 0 → 1 ≤ a ∧ a ≤ 5 ∧ shapeB a b c l = true ∧ (a = 1 → b = 0 ∨ b = 1) ∧ (a = 2 → -1099511627776 ≤ b ∧ b ≤ 1099511627776) ∧ (a = 3 → validB c = true) ∧ (a = 4 → (partsR (parts3 (dots c))).2.2.2 = true) ∧ (a = 5 → l.length ≤ 20 ∧ ∀ x ∈ l, validB x = true)) := by
  obtain ⟨K, rfl⟩ : ∃ m, K = m + 2 := ⟨K - 2, by omega⟩
  unfold value_Check.f flagstoneref3_Check.f
  by_cases h1 : a < 1
  · rw [if_pos h1, if_pos h1]
    exact ⟨7, rfl, rfl, fun h => by omega⟩
  rw [if_neg h1, if_neg h1]
  by_cases h5 : a > 5
  · rw [decide_eq_true h5]
    exact ⟨7, rfl, rfl, fun h => by omega⟩
  rw [decide_eq_false h5]
  obtain ⟨s1, s2⟩ := shapes a b c l K (by omega) (by omega)
  simp only [value_Check.j0, flagstoneref3_Check.j0]
  simp only [Bool.false_eq_true, if_false]
  rw [s1, s2]
  simp only [Option.bind_some]
  cases hsh : shapeB a b c l with
  | false => exact ⟨15, rfl, rfl, fun h => by omega⟩
  | true =>
    rw [if_pos rfl, if_pos rfl]
    by_cases a1 : a = 1
    · rw [if_pos a1, if_pos a1]
      by_cases b0 : b = 0
      · rw [if_pos b0]
        exact ⟨0, rfl, rfl, fun _ => ⟨by omega, by omega, (by first | rfl | trivial), fun _ => .inl b0, fun h => by omega, fun h => by omega, fun h => by omega, fun h => by omega⟩⟩
      · rw [if_neg b0]
        by_cases b1 : b = 1
        · rw [if_pos b1]
          exact ⟨0, rfl, rfl, fun _ => ⟨by omega, by omega, (by first | rfl | trivial), fun _ => .inr b1, fun h => by omega, fun h => by omega, fun h => by omega, fun h => by omega⟩⟩
        · rw [if_neg b1]
          exact ⟨3, rfl, rfl, fun h => by omega⟩
    rw [if_neg a1, if_neg a1]
    by_cases a2 : a = 2
    · rw [if_pos a2, if_pos a2]
      by_cases b0 : b < -1099511627776
      · rw [if_pos b0]
        exact ⟨3, rfl, rfl, fun h => by omega⟩
      · rw [if_neg b0]
        by_cases b1 : b > 1099511627776
        · rw [if_pos b1]
          exact ⟨3, rfl, rfl, fun h => by omega⟩
        · rw [if_neg b1]
          exact ⟨0, rfl, rfl, fun _ => ⟨by omega, by omega, (by first | rfl | trivial), fun h => by omega, fun _ => ⟨by omega, by omega⟩, fun h => by omega, fun h => by omega, fun h => by omega⟩⟩
    rw [if_neg a2, if_neg a2]
    by_cases a3 : a = 3
    · rw [if_pos a3, if_pos a3, textvalid c (by omega), refvalid c (by omega) _ (by omega)]
      simp only [Option.bind_some]
      cases hv : validB c with
      | false => exact ⟨2, rfl, rfl, fun h => by omega⟩
      | true => exact ⟨0, rfl, rfl, fun _ => ⟨by omega, by omega, (by first | rfl | trivial), fun h => by omega, fun h => by omega, fun _ => (by first | rfl | trivial), fun h => by omega, fun h => by omega⟩⟩
    rw [if_neg a3, if_neg a3]
    by_cases a4 : a = 4
    · rw [if_pos a4, if_pos a4]
      unfold value_parts.f flagstoneref3_parts.f
      rw [if_pos (by omega), if_pos (by omega)]
      simp only [Option.bind_some]
      cases hv : (partsR (parts3 (dots c))).2.2.2 with
      | false => exact ⟨1, rfl, rfl, fun h => by omega⟩
      | true => exact ⟨0, rfl, rfl, fun _ => ⟨by omega, by omega, (by first | rfl | trivial), fun h => by omega, fun h => by omega, fun h => by omega, fun _ => (by first | rfl | trivial), fun h => by omega⟩⟩
    rw [if_neg a4, if_neg a4, if_pos (show a = 5 by omega), if_pos (show a = 5 by omega)]
    unfold flagstoneref3_list.f
    by_cases h20 : (l.length : Int) > 20
    · rw [if_pos h20, if_pos h20]
      exact ⟨5, rfl, rfl, fun h => by omega⟩
    · rw [if_neg h20, if_neg h20]
      obtain ⟨r, e1, e2, e3⟩ := list_both l hl hs a b c l.length (K + 1) (K + 1) 0 (by omega) (by omega) (by omega)
      have e2' : flagstoneref3_list.l0 (K + 1) l 0 = some r := e2
      refine ⟨r, e1, by rw [e2']; rfl, fun h => ⟨by omega, by omega, (by first | rfl | trivial), fun h => by omega, fun h => by omega, fun h => by omega, fun h => by omega, fun _ => ⟨by omega, fun x hx => ?_⟩⟩⟩
      obtain ⟨j, hj, rfl⟩ := List.mem_iff_getElem.1 hx
      exact e3 h j hj (Nat.zero_le _)
end Go.Proofs.YtannjakcnnefhaaGreatDoor.U
