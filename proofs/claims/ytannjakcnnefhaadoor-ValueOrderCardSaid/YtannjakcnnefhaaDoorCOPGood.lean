import Derived.Test.YtannjakcnnefhaaDoorCO
import Derived.Test.YtannjakcnnefhaaDoorCPVer
import Derived.Lib.ItoaLen
set_option linter.unusedVariables false
set_option linter.unusedSimpArgs false
namespace Go.Proofs.YtannjakcnnefhaaDoor.O
open Go Go.RowKit Go.Proofs.YtannjakcnnefhaaDoor Go.Proofs.YtannjakcnnefhaaDoorW.PrintWords Go.Proofs.YtannjakcnnefhaaDoorW.PrintLast Go.Proofs.YtannjakcnnefhaaDoorW.PrintMore
theorem w64 {x : Int} (h0 : -9223372036854775808 ≤ x) (h1 : x ≤ 9223372036854775807) : wrap64 x = x := by unfold wrap64; omega
/-- A list of choices and the place in it. -/
def CV (bs : List Int) (p : Int) : Prop := bs.length ≤ 1000 ∧ (∀ x ∈ bs, 0 ≤ x ∧ x < 256) ∧ 0 ≤ p ∧ p ≤ bs.length
theorem new_ok (l : List Int) (hl : ∀ x ∈ l, 0 ≤ x ∧ x < 256) (n : Nat) (hn : n ≤ 1000) : ∃ bs, flagstonedraw_New.f l (n : Int) = some (bs, 0) ∧ CV bs 0 := by
  unfold flagstonedraw_New.f
  by_cases h : (l.length : Int) > (n : Int)
  · rw [if_pos h, if_pos (by omega), if_pos (by omega)]
    refine ⟨_, rfl, ?_, fun x hx => hl x (List.mem_of_mem_take hx), by omega, by omega⟩
    rw [List.length_take]
    omega
  · rw [if_neg h]
    exact ⟨l, rfl, by omega, hl, by omega, by omega⟩
theorem next_ok {bs : List Int} {p : Int} (h : CV bs p) (n : Int) (h1 : 1 ≤ n) (h2 : n ≤ 256) : ∃ v p', flagstonedraw_Codes_Next.f bs p n = some (v, p') ∧ 0 ≤ v ∧ v < n ∧ CV bs p' := by
  obtain ⟨a1, a2, a3, a4⟩ := h
  unfold flagstonedraw_Codes_Next.f flagstonedraw_Codes_Left.f
  simp only [Option.bind_some]
  by_cases hp : p < (bs.length : Int)
  · rw [decide_eq_true hp, if_pos rfl, w64 (x := p + 1) (by omega) (by omega), w64 (x := p + 1 - 1) (by omega) (by omega), if_pos (by omega), if_pos (by omega), if_neg (by omega)]
    have hr : 0 ≤ rd bs (p + 1 - 1) ∧ rd bs (p + 1 - 1) < 256 := by
      have : rd bs (p + 1 - 1) = bs[p.toNat]'(by omega) := by
        unfold rd
        rw [show (p + 1 - 1).toNat = p.toNat by omega]
        simp [show p.toNat < bs.length by omega]
      rw [this]
      exact a2 _ (List.getElem_mem _)
    rw [w64 (by omega) (by omega)]
    refine ⟨_, _, rfl, Int.tmod_nonneg _ hr.1, Int.tmod_lt_of_pos _ (by omega), a1, a2, by omega, by omega⟩
  · rw [decide_eq_false hp]
    exact ⟨0, p, rfl, by omega, by omega, a1, a2, a3, a4⟩
theorem texts_valid (v : Int) (h0 : 0 ≤ v) (h1 : v < 11) : validB (rdOf ByteArray.empty textsL v) = true := by
  obtain ⟨e, he⟩ : ∃ e : Fin 11, (e.val : Int) = v := ⟨⟨v.toNat, by omega⟩, by simp; omega⟩
  rw [← he]
  have : ∀ e : Fin 11, validB (rdOf ByteArray.empty textsL (e.val : Int)) = true := by decide +kernel
  exact this e
theorem nums_small (v : Int) (h0 : 0 ≤ v) (h1 : v < 9) : -1099511627776 ≤ rd ([0, 1, 17, 18, 19, (-5), 64, 1099511627776, (-1099511627776)] : List Int) v ∧ rd ([0, 1, 17, 18, 19, (-5), 64, 1099511627776, (-1099511627776)] : List Int) v ≤ 1099511627776 := by
  obtain ⟨e, he⟩ : ∃ e : Fin 9, (e.val : Int) = v := ⟨⟨v.toNat, by omega⟩, by simp; omega⟩
  rw [← he]
  have : ∀ e : Fin 9, -1099511627776 ≤ rd ([0, 1, 17, 18, 19, (-5), 64, 1099511627776, (-1099511627776)] : List Int) (e.val : Int) ∧ rd ([0, 1, 17, 18, 19, (-5), 64, 1099511627776, (-1099511627776)] : List Int) (e.val : Int) ≤ 1099511627776 := by decide +kernel
  exact this e
/-- A drawn value of the kind 2 or 3 or 4: what it holds. -/
theorem drawn2 {bs : List Int} {p : Int} (h : CV bs p) : ∃ b p', flagstonedraw_Codes_Value.f bs p 2 = some (2, b, ⟨#[]⟩, [], p') ∧ -1099511627776 ≤ b ∧ b ≤ 1099511627776 ∧ CV bs p' := by
  unfold flagstonedraw_Codes_Value.f
  rw [if_neg (by decide), if_pos rfl]
  simp only [Option.bind_some]
  obtain ⟨v, p', e, v0, v1, h'⟩ := next_ok h 9 (by omega) (by omega)
  have e9 : ((([0, 1, 17, 18, 19, (-5), 64, 1099511627776, (-1099511627776)] : List Int)).length : Int) = 9 := rfl
  rw [e9, e]
  simp only [Option.bind_some]
  rw [if_pos v0, if_pos v1]
  obtain ⟨n0, n1⟩ := nums_small v v0 v1
  exact ⟨_, _, rfl, n0, n1, h'⟩
theorem drawn3 {bs : List Int} {p : Int} (h : CV bs p) : ∃ c p', flagstonedraw_Codes_Value.f bs p 3 = some (3, 0, c, [], p') ∧ validB c = true ∧ CV bs p' := by
  unfold flagstonedraw_Codes_Value.f flagstonedraw_Codes_Text.f
  rw [if_neg (by decide), if_neg (by decide), if_pos rfl]
  obtain ⟨v, p', e, v0, v1, h'⟩ := next_ok h 11 (by omega) (by omega)
  rw [e]
  simp only [Option.bind_some]
  rw [if_pos v0, if_pos v1]
  exact ⟨_, _, rfl, texts_valid v v0 v1, h'⟩
theorem drawn4 {bs : List Int} {p : Int} (h : CV bs p) : ∃ c p', flagstonedraw_Codes_Value.f bs p 4 = some (4, 0, c, [], p') ∧ CV bs p' := by
  unfold flagstonedraw_Codes_Value.f
  rw [if_neg (by decide), if_neg (by decide), if_neg (by decide), if_pos rfl]
  obtain ⟨v, p', e, v0, v1, h'⟩ := next_ok h 6 (by omega) (by omega)
  rw [e]
  simp only [Option.bind_some]
  rw [if_pos v0, if_pos v1]
  exact ⟨_, _, rfl, h'⟩
theorem numB_size (n : Int) (h0 : 0 ≤ n) (h1 : n ≤ 999999) : (numB n).size ≤ 21 := by
  have := Lib.itoa_length_le n (by omega) (by omega)
  show (numB n).data.size ≤ 21
  rw [← Array.length_toList]
  exact this
theorem ver_size (a b c : Int) (ha : 0 ≤ a ∧ a ≤ 999999) (hb : 0 ≤ b ∧ b ≤ 999999) (hc : 0 ≤ c ∧ c ≤ 999999) : (ver a b c).size ≤ 65 := by
  have h1 := numB_size a ha.1 ha.2
  have h2 := numB_size b hb.1 hb.2
  have h3 := numB_size c hc.1 hc.2
  unfold ver
  simp only [ByteArray.size_append]
  have : (⟨#[46]⟩ : ByteArray).size = 1 := rfl
  omega
theorem shape_at (a b : Int) (c : ByteArray) (k : Nat) (h : a = 2 ∧ c = ⟨#[]⟩ ∨ a = 3 ∧ b = 0 ∨ a = 4 ∧ b = 0) : value_shape.f (k + 1) a b c [] = some true := by
  have e0 : (⟨#[]⟩ : ByteArray).toList = [] := by rw [ba_list]
  rcases h with ⟨rfl, rfl⟩ | ⟨rfl, rfl⟩ | ⟨rfl, rfl⟩ <;> simp [value_shape.f, value_shape.j0, e0]
theorem check2 (b : Int) (K : Nat) (hK : 3 ≤ K) (h0 : -1099511627776 ≤ b) (h1 : b ≤ 1099511627776) : value_Check.f K 2 b ⟨#[]⟩ [] = some 0 := by
  obtain ⟨k, rfl⟩ : ∃ m, K = m + 2 := ⟨K - 2, by omega⟩
  unfold value_Check.f
  rw [if_neg (by decide)]
  simp only [value_Check.j0]
  rw [if_neg (by decide), shape_at 2 b ⟨#[]⟩ k (.inl ⟨rfl, rfl⟩)]
  simp only [Option.bind_some]
  rw [if_pos trivial, if_neg (by decide), if_pos trivial, if_neg (by omega), if_neg (by omega)]
theorem check3 (c : ByteArray) (K : Nat) (hK : 3 ≤ K) (h : validB c = true) : value_Check.f K 3 0 c [] = some 0 := by
  obtain ⟨k, rfl⟩ : ∃ m, K = m + 2 := ⟨K - 2, by omega⟩
  have hs := validB_size h
  unfold value_Check.f
  rw [if_neg (by decide)]
  simp only [value_Check.j0]
  rw [if_neg (by decide), shape_at 3 0 c k (.inr (.inl ⟨rfl, rfl⟩))]
  simp only [Option.bind_some, text_Valid.f]
  rw [if_pos trivial, if_neg (by decide), if_neg (by decide), if_pos trivial, if_pos (by omega), h]
  rfl
theorem check4 (a b c : Int) (ha : 0 ≤ a ∧ a ≤ 999999) (hb : 0 ≤ b ∧ b ≤ 999999) (hc : 0 ≤ c ∧ c ≤ 999999) (K : Nat) (hK : 3 ≤ K) : value_Check.f K 4 0 (ver a b c) [] = some 0 := by
  obtain ⟨k, rfl⟩ : ∃ m, K = m + 2 := ⟨K - 2, by omega⟩
  have hs := ver_size a b c ha hb hc
  unfold value_Check.f
  rw [if_neg (by decide)]
  simp only [value_Check.j0]
  rw [if_neg (by decide), shape_at 4 0 _ k (.inr (.inr ⟨rfl, rfl⟩))]
  simp only [Option.bind_some, value_parts.f]
  rw [if_pos trivial, if_neg (by decide), if_neg (by decide), if_neg (by decide), if_pos trivial, if_pos (by omega), ver_parts a b c ha hb hc]
  rfl
end Go.Proofs.YtannjakcnnefhaaDoor.O
