import Derived.Test.YtefglphdiimhnaaDoorPFrame
import Derived.Test.YtefglphdiimhnaaDoorPN
set_option linter.unusedVariables false
set_option linter.unusedSimpArgs false
namespace Go.Proofs.YtefglphdiimhnaaDoor.Plain
open Go Go.RowKit Go.Proofs.YtefglphdiimhnaaDoor.Q Go.Proofs.YtefglphdiimhnaaDoorW.PrintWords Go.Proofs.YtefglphdiimhnaaDoorW.PrintLast Go.Proofs.YtefglphdiimhnaaDoorW.PrintMore
def I64 (n : Int) : Prop := -9223372036854775808 ≤ n ∧ n ≤ 9223372036854775807
theorem text_ok {bs : List Int} {p : Int} (h : CV bs p) : ∃ t p', flagstonedraw_Codes_Text.f bs p = some (t, p') ∧ CV bs p' := by
  obtain ⟨v, p1, e1, a1, b1, c1⟩ := next_ok h (n := 11) (by omega)
  unfold flagstonedraw_Codes_Text.f
  rw [e1, Option.bind_some]
  simp only [if_pos a1, if_pos b1]
  exact ⟨_, _, rfl, c1⟩
theorem lists_short : ∀ i : Int, (rd_L10 listsL i).length ≤ 3 := by
  intro i
  unfold rd_L10
  rw [List.getD_eq_getElem?_getD]
  have : ∀ x ∈ listsL, x.length ≤ 3 := by decide
  rcases h : listsL[i.toNat]? with _ | x
  · simp
  · exact this x (List.mem_of_getElem? h)
theorem value_ok {bs : List Int} {p : Int} (h : CV bs p) (k : Int) (h1 : 1 ≤ k) (h5 : k ≤ 5) : ∃ n t l p', flagstonedraw_Codes_Value.f bs p k = some (k, n, t, l, p') ∧ CV bs p' ∧ I64 n := by
  unfold flagstonedraw_Codes_Value.f
  by_cases c1 : k = 1
  · rw [if_pos c1]
    obtain ⟨v, p1, e1, a1, b1, d1⟩ := next_ok h (n := 2) (by omega)
    rw [e1, Option.bind_some]
    exact ⟨_, _, _, _, rfl, d1, by unfold I64; omega⟩
  rw [if_neg c1]
  by_cases c2 : k = 2
  · rw [if_pos c2]
    obtain ⟨v, p1, e1, a1, b1, d1⟩ := next_ok h (n := 9) (by omega)
    have hl : (([0, 1, 17, 18, 19, (-5), 64, 1099511627776, (-1099511627776)] : List Int).length : Int) = 9 := rfl
    rw [Option.bind_some, hl, e1, Option.bind_some]
    simp only [if_pos a1, if_pos b1]
    refine ⟨_, _, _, _, rfl, d1, ?_⟩
    have hm := rd_mem (bs := [0, 1, 17, 18, 19, (-5), 64, 1099511627776, (-1099511627776)]) a1 (by rw [hl]; exact b1)
    have : ∀ x ∈ ([0, 1, 17, 18, 19, (-5), 64, 1099511627776, (-1099511627776)] : List Int), -9223372036854775808 ≤ x ∧ x ≤ 9223372036854775807 := by decide
    exact this _ hm
  rw [if_neg c2]
  by_cases c3 : k = 3
  · rw [if_pos c3]
    obtain ⟨t, p1, e1, d1⟩ := text_ok h
    rw [e1, Option.bind_some]
    exact ⟨_, _, _, _, rfl, d1, by unfold I64; omega⟩
  rw [if_neg c3]
  by_cases c4 : k = 4
  · rw [if_pos c4]
    obtain ⟨v, p1, e1, a1, b1, d1⟩ := next_ok h (n := 6) (by omega)
    rw [e1, Option.bind_some]
    simp only [if_pos a1, if_pos b1]
    exact ⟨_, _, _, _, rfl, d1, by unfold I64; omega⟩
  rw [if_neg c4]
  obtain ⟨v, p1, e1, a1, b1, d1⟩ := next_ok h (n := 5) (by omega)
  have hs := lists_short v
  have hlt : ([] : List ByteArray).length + (rd_L10 listsL v).length < 8796093022208 := by simp; omega
  rw [e1, Option.bind_some]
  simp only [if_pos a1, if_pos b1, if_pos hlt]
  obtain rfl : k = 5 := by omega
  exact ⟨_, _, _, _, rfl, d1, by unfold I64; omega⟩
theorem any_ok {bs : List Int} {p : Int} (h : CV bs p) : ∃ k n t l p', flagstonedraw_Codes_Any.f bs p = some (k, n, t, l, p') ∧ CV bs p' ∧ I64 n := by
  obtain ⟨v, p1, e1, a1, b1, d1⟩ := next_ok h (n := 5) (by omega)
  have hw : wrap64 (1 + v) = 1 + v := w64 (by omega) (by omega)
  obtain ⟨n, t, l, p2, e2, d2, hn⟩ := value_ok d1 (1 + v) (by omega) (by omega)
  unfold flagstonedraw_Codes_Any.f
  rw [e1, Option.bind_some]
  simp only [hw, e2, Option.bind_some]
  exact ⟨_, _, _, _, _, rfl, d2, hn⟩
theorem key_both {a b : Int} {c : ByteArray} {l : List ByteArray} (hb : I64 b) {k : Nat} (hk : 1 ≤ k) : ∃ s ok, bucket_Key.f k a b c l = some (s, ok) ∧ flagstoneref13_Key.f a b c l = some (s, ok) := by
  obtain ⟨k, rfl⟩ : ∃ k', k = k' + 1 := ⟨k - 1, by omega⟩
  have hn : text_Number.f b = some ⟨(Lib.itoa b).toArray⟩ := by unfold text_Number.f; exact if_pos hb
  have hr : flagstoneref1_Number.f b = some ⟨(Lib.itoa b).toArray⟩ := by unfold flagstoneref1_Number.f; exact if_pos hb
  unfold bucket_Key.f flagstoneref13_Key.f bucket_Key.j0
  by_cases c3 : a = 3
  · subst c3
    exact ⟨_, _, rfl, rfl⟩
  have n3 : (a == 3) = false := by simpa using c3
  by_cases c4 : a = 4
  · subst c4
    exact ⟨_, _, rfl, rfl⟩
  have n4 : (a == 4) = false := by simpa using c4
  by_cases c2 : a = 2
  · subst c2
    simp only [hn, hr]
    exact ⟨_, _, rfl, rfl⟩
  by_cases c1 : a = 1
  · subst c1
    by_cases d : b = 1
    · subst d; exact ⟨_, _, rfl, rfl⟩
    · simp only [if_neg d]
      exact ⟨_, _, rfl, rfl⟩
  · simp only [if_neg c3, if_neg c4, if_neg c2, if_neg c1, n4, Bool.false_eq_true, if_false]
    exact ⟨_, _, rfl, rfl⟩
theorem hash_l0 {s t : ByteArray} {L : List S49} {K : Nat} (hK : 1 ≤ K) (hl : L.length ≤ 10) (hL : ∀ x ∈ L, I64 x.f1) (hT : ∀ k, K ≤ k → ((bucket_Of.f k s t).bind fun t211 => ((flagstoneref13_Of.f k s t).bind fun t212 => (if t211 = t212 then (if t211 ≥ 0 then (some (decide (t211 < 10000))) else (some false)) else (some false)))) = some true) :
    ∀ (d i k : Nat), i + d = L.length → K + d + 1 ≤ k → flagstonelaw13_BucketHashes.l0 k s t L (L.length : Int) (i : Int) = some true := by
  intro d
  induction d with
  | zero =>
    intro i k hi hk
    obtain ⟨k, rfl⟩ : ∃ k', k = k' + 1 := ⟨k - 1, by omega⟩
    rw [flagstonelaw13_BucketHashes.l0, if_neg (by omega)]
    exact hT k (by omega)
  | succ d ih =>
    intro i k hi hk
    obtain ⟨k, rfl⟩ : ∃ k', k = k' + 1 := ⟨k - 1, by omega⟩
    have c1 : (i : Int) < (L.length : Int) := by omega
    have c2 : 0 ≤ (i : Int) := by omega
    have hlt : i < L.length := by omega
    have hw : wrap64 ((i : Int) + 1) = ((i + 1 : Nat) : Int) := by rw [w64 (by omega) (by omega)]; omega
    have hr : rd_T49 L (i : Int) = L[i] := by unfold rd_T49; simp [hlt]
    obtain ⟨u, ok, g1, g2⟩ := key_both (a := (L[i]).f0) (c := (L[i]).f2) (l := (L[i]).f3) (hL _ (List.getElem_mem hlt)) (k := k) (by omega)
    have hb : (ok != ok) = false := by simp
    rw [flagstonelaw13_BucketHashes.l0]
    simp only [if_pos c1, if_pos c2, hr, g1, g2, Option.bind_some, if_true, hb, Bool.false_eq_true, if_false, hw]
    exact ih (i + 1) k (by omega) (by omega)
theorem hashes_true (a0 a1 : ByteArray) (a b : Int) (c : ByteArray) (l : List ByteArray) (l3 : List Int) (hb : I64 b) (hl3 : ∀ x ∈ l3, 0 ≤ x ∧ x < 256) : ∃ k, flagstonelaw13_BucketHashes.f k a0 a1 a b c l l3 = some true := by
  obtain ⟨K, hK⟩ : ∃ K : Nat, K = 1000100 := ⟨_, rfl⟩
  refine ⟨K + 1, ?_⟩
  unfold flagstonelaw13_BucketHashes.f flagstonelaw13_awake.f
  rw [Option.bind_some, if_pos rfl]
  by_cases c1 : (a0.size : Int) > 400
  · rw [if_pos c1, flagstonelaw13_BucketHashes.j0, if_pos rfl]
  rw [if_neg c1]
  by_cases c2 : (a1.size : Int) > 400
  · rw [if_pos c2, flagstonelaw13_BucketHashes.j0, if_pos rfl]
  rw [if_neg c2, flagstonelaw13_BucketHashes.j0]
  by_cases c3 : (l.length : Int) > 40
  · rw [decide_eq_true c3, if_pos rfl]
  rw [decide_eq_false c3, if_neg (by decide)]
  obtain ⟨bs, e0, v0⟩ := new_okm 10 (by omega) (by omega) hl3
  obtain ⟨k, n, t, ll, p, e1, -, hn⟩ := any_ok v0
  rw [e0, Option.bind_some]
  simp only [e1, Option.bind_some]
  refine hash_l0 (K := 1000000) (by omega) (by simp) (fun x hx => ?_) (fun k' hk' => ?_) 2 0 K rfl (by omega)
  · simp only [List.mem_cons, List.not_mem_nil, or_false] at hx
    rcases hx with rfl | rfl
    · exact hb
    · exact hn
  · obtain ⟨r, g1, g2, g3, g4⟩ := of_both (s := a0) (t := a1) (k := k') (by omega) (by omega) hk'
    rw [g1, Option.bind_some, g2, Option.bind_some, if_pos rfl, if_pos (by omega), decide_eq_true g4]
end Go.Proofs.YtefglphdiimhnaaDoor.Plain
