import Derived.Test.YtannjakcnnefhaaGreatDoorCUPVal
set_option linter.unusedVariables false
set_option linter.unusedSimpArgs false
namespace Go.Proofs.YtannjakcnnefhaaGreatDoor.U
open Go Go.RowKit Go.Proofs.YtannjakcnnefhaaGreatDoor Go.Proofs.YtannjakcnnefhaaGreatDoorW.PrintWords Go.Proofs.YtannjakcnnefhaaGreatDoorW.PrintLast Go.Proofs.YtannjakcnnefhaaGreatDoorW.PrintMore
/-- A list of choices and the place in it. -/
def CV (bs : List Int) (p : Int) : Prop := bs.length ≤ 1000 ∧ (∀ x ∈ bs, 0 ≤ x ∧ x < 256) ∧ 0 ≤ p ∧ p ≤ bs.length
theorem new_ok (l : List Int) (hl : ∀ x ∈ l, 0 ≤ x ∧ x < 256) (n : Nat) (hn : n ≤ 1000) : ∃ bs, flagstonedraw_New.f l (n : Int) = some (bs, 0) ∧ CV bs 0 := by
  unfold flagstonedraw_New.f
  by_cases h : (l.length : Int) > (n : Int)
  · rw [if_pos h, if_pos (by omega), if_pos (by omega)]
    refine ⟨_, rfl, ?_, fun x hx => hl x (List.mem_of_mem_take hx), by omega, by omega⟩
    rw [List.length_take]
    omega
  · rw [if_neg h]
    exact ⟨l, rfl, by omega, hl, by omega, by omega⟩
theorem next_ok {bs : List Int} {p : Int} (h : CV bs p) (n : Int) (h1 : 1 ≤ n) (h2 : n ≤ 256) : ∃ v p', flagstonedraw_Codes_Next.f bs p n = some (v, p') ∧ 0 ≤ v ∧ v < n ∧ CV bs p' := by
  obtain ⟨a1, a2, a3, a4⟩ := h
  unfold flagstonedraw_Codes_Next.f flagstonedraw_Codes_Left.f
  simp only [Option.bind_some]
  by_cases hp : p < (bs.length : Int)
  · rw [decide_eq_true hp, if_pos rfl, w64 (x := p + 1) (by omega) (by omega), w64 (x := p + 1 - 1) (by omega) (by omega), if_pos (by omega), if_pos (by omega), if_neg (by omega)]
    have hr : 0 ≤ rd bs (p + 1 - 1) ∧ rd bs (p + 1 - 1) < 256 := by
      have : rd bs (p + 1 - 1) = bs[p.toNat]'(by omega) := by
        unfold rd
        rw [show (p + 1 - 1).toNat = p.toNat by omega]
        simp [show p.toNat < bs.length by omega]
      rw [this]
      exact a2 _ (List.getElem_mem _)
    rw [w64 (by omega) (by omega)]
    refine ⟨_, _, rfl, Int.tmod_nonneg _ hr.1, Int.tmod_lt_of_pos _ (by omega), a1, a2, by omega, by omega⟩
  · rw [decide_eq_false hp]
    exact ⟨0, p, rfl, by omega, by omega, a1, a2, a3, a4⟩
theorem texts_small (v : Int) (h0 : 0 ≤ v) (h1 : v < 11) : (rdOf ByteArray.empty textsL v).size ≤ 400 := by
  obtain ⟨e, he⟩ : ∃ e : Fin 11, (e.val : Int) = v := ⟨⟨v.toNat, by omega⟩, by simp; omega⟩
  rw [← he]
  have : ∀ e : Fin 11, (rdOf ByteArray.empty textsL (e.val : Int)).size ≤ 400 := by decide +kernel
  exact this e
theorem versions_small (v : Int) (h0 : 0 ≤ v) (h1 : v < 6) : (rdOf ByteArray.empty versionsL v).size ≤ 400 := by
  obtain ⟨e, he⟩ : ∃ e : Fin 6, (e.val : Int) = v := ⟨⟨v.toNat, by omega⟩, by simp; omega⟩
  rw [← he]
  have : ∀ e : Fin 6, (rdOf ByteArray.empty versionsL (e.val : Int)).size ≤ 400 := by decide +kernel
  exact this e
theorem lists_small (v : Int) (h0 : 0 ≤ v) (h1 : v < 5) : (rd_L4 listsL v).length ≤ 3 ∧ ∀ x ∈ rd_L4 listsL v, x.size ≤ 400 := by
  obtain ⟨e, he⟩ : ∃ e : Fin 5, (e.val : Int) = v := ⟨⟨v.toNat, by omega⟩, by simp; omega⟩
  rw [← he]
  have : ∀ e : Fin 5, (rd_L4 listsL (e.val : Int)).length ≤ 3 ∧ ∀ x ∈ rd_L4 listsL (e.val : Int), x.size ≤ 400 := by decide +kernel
  exact this e
/-- A value that is small. -/
def SV (c : ByteArray) (l : List ByteArray) : Prop := c.size ≤ 400 ∧ l.length ≤ 41 ∧ ∀ x ∈ l, x.size ≤ 400
theorem text_ok {bs : List Int} {p : Int} (h : CV bs p) : ∃ t p', flagstonedraw_Codes_Text.f bs p = some (t, p') ∧ t.size ≤ 400 ∧ CV bs p' := by
  obtain ⟨v, p', e, v0, v1, h'⟩ := next_ok h 11 (by omega) (by omega)
  unfold flagstonedraw_Codes_Text.f
  rw [e]
  simp only [Option.bind_some]
  rw [if_pos v0, if_pos v1]
  exact ⟨_, _, rfl, texts_small v v0 v1, h'⟩
theorem value_ok {bs : List Int} {p : Int} (h : CV bs p) (kind : Int) : ∃ b c l p' a, flagstonedraw_Codes_Value.f bs p kind = some (a, b, c, l, p') ∧ SV c l ∧ CV bs p' := by
  have s0 : SV ⟨#[]⟩ [] := ⟨Nat.zero_le _, by simp, fun x hx => by cases hx⟩
  unfold flagstonedraw_Codes_Value.f
  by_cases k1 : kind = 1
  · rw [if_pos k1]
    obtain ⟨v, p', e, v0, v1, h'⟩ := next_ok h 2 (by omega) (by omega)
    rw [e]
    exact ⟨_, _, _, _, _, rfl, s0, h'⟩
  rw [if_neg k1]
  by_cases k2 : kind = 2
  · rw [if_pos k2]
    simp only [Option.bind_some]
    obtain ⟨v, p', e, v0, v1, h'⟩ := next_ok h 9 (by omega) (by omega)
    have e9 : ((([0, 1, 17, 18, 19, (-5), 64, 1099511627776, (-1099511627776)] : List Int)).length : Int) = 9 := rfl
    rw [e9, e]
    simp only [Option.bind_some]
    rw [if_pos v0, if_pos v1]
    exact ⟨_, _, _, _, _, rfl, s0, h'⟩
  rw [if_neg k2]
  by_cases k3 : kind = 3
  · rw [if_pos k3]
    obtain ⟨t, p', e, ht, h'⟩ := text_ok h
    rw [e]
    exact ⟨_, _, _, _, _, rfl, ⟨ht, by simp, fun x hx => by cases hx⟩, h'⟩
  rw [if_neg k3]
  by_cases k4 : kind = 4
  · rw [if_pos k4]
    obtain ⟨v, p', e, v0, v1, h'⟩ := next_ok h 6 (by omega) (by omega)
    rw [e]
    simp only [Option.bind_some]
    rw [if_pos v0, if_pos v1]
    exact ⟨_, _, _, _, _, rfl, ⟨versions_small v v0 v1, by simp, fun x hx => by cases hx⟩, h'⟩
  rw [if_neg k4]
  obtain ⟨v, p', e, v0, v1, h'⟩ := next_ok h 5 (by omega) (by omega)
  rw [e]
  simp only [Option.bind_some]
  obtain ⟨l1, l2⟩ := lists_small v v0 v1
  rw [if_pos v0, if_pos v1, if_pos (by simp; omega)]
  exact ⟨_, _, _, _, _, rfl, ⟨Nat.zero_le _, by simp; omega, by simpa using l2⟩, h'⟩
theorem any_ok {bs : List Int} {p : Int} (h : CV bs p) : ∃ a b c l p', flagstonedraw_Codes_Any.f bs p = some (a, b, c, l, p') ∧ SV c l ∧ CV bs p' := by
  unfold flagstonedraw_Codes_Any.f
  obtain ⟨v, p1, e1, -, -, h1⟩ := next_ok h 5 (by omega) (by omega)
  rw [e1]
  simp only [Option.bind_some]
  obtain ⟨b, c, l, p2, a, e2, s2, h2⟩ := value_ok h1 (wrap64 (1 + v))
  rw [e2]
  exact ⟨_, _, _, _, _, rfl, s2, h2⟩
theorem small_l (a b : Int) (c : ByteArray) (l : List ByteArray) (hl : l.length ≤ 40) (hs : ∀ x ∈ l, x.size ≤ 9223372036854775800) : ∀ (d k i : Nat), l.length - i = d → d < k →
    ∃ r, flagstonelaw3_small.l0 k (i : Int) a b c l = some r ∧ (r = true → ∀ j (h : j < l.length), i ≤ j → (l[j]'h).size ≤ 400) := by
  intro d
  induction d with
  | zero =>
    intro k i hd hk
    obtain ⟨k, rfl⟩ : ∃ m, k = m + 1 := ⟨k - 1, by omega⟩
    refine ⟨true, ?_, fun _ j h1 h2 => by omega⟩
    simp only [flagstonelaw3_small.l0]
    rw [if_neg (by omega)]
  | succ d ih =>
    intro k i hd hk
    obtain ⟨k, rfl⟩ : ∃ m, k = m + 1 := ⟨k - 1, by omega⟩
    have hi : i < l.length := by omega
    simp only [flagstonelaw3_small.l0]
    rw [if_pos (by omega), if_pos (by omega), rd_at l i hi]
    by_cases h4 : ((l[i]'hi).size : Int) > 400
    · rw [if_pos h4]
      exact ⟨false, rfl, fun h => by cases h⟩
    · rw [if_neg h4, w64 (by omega) (by omega)]
      obtain ⟨r, e1, e2⟩ := ih k (i + 1) (by omega) (by omega)
      refine ⟨r, e1, fun h j h1 h2 => ?_⟩
      by_cases hj : j = i
      · subst hj; omega
      · exact e2 h j h1 (by omega)
theorem small_ok (a b : Int) (c : ByteArray) (l : List ByteArray) (hs : ∀ x ∈ l, x.size ≤ 9223372036854775800) (K : Nat) (hK : 3000 < K) :
    ∃ r, flagstonelaw3_small.f K a b c l = some r ∧ (r = true → SV c l) := by
  obtain ⟨K, rfl⟩ : ∃ m, K = m + 1 := ⟨K - 1, by omega⟩
  unfold flagstonelaw3_small.f
  by_cases h : (l.length : Int) > 40
  · rw [if_pos h]
    exact ⟨false, rfl, fun h => by cases h⟩
  rw [if_neg h]
  by_cases h2 : (c.size : Int) > 400
  · rw [decide_eq_true h2]
    exact ⟨false, rfl, fun h => by cases h⟩
  rw [decide_eq_false h2]
  simp only [flagstonelaw3_small.j0, Bool.false_eq_true, if_false]
  obtain ⟨r, e1, e2⟩ := small_l a b c l (by omega) hs l.length K 0 (by omega) (by omega)
  refine ⟨r, e1, fun hr => ⟨by omega, by omega, fun x hx => ?_⟩⟩
  obtain ⟨j, hj, rfl⟩ := List.mem_iff_getElem.1 hx
  exact e2 hr j hj (Nat.zero_le _)
end Go.Proofs.YtannjakcnnefhaaGreatDoor.U
