import Derived.Test.YtannjakcnnefhaaDoorCPNum
import Derived.Lib.ItoaMem
set_option linter.unusedVariables false
set_option linter.unusedSimpArgs false
set_option linter.unusedVariables false
namespace Go.Proofs.YtannjakcnnefhaaDoor
open Go
theorem ofNat_digit (d : Nat) (h : d < 10) : (UInt8.ofNat (48 + d)).toNat = 48 + d := by
  simp; omega
theorem dec_small {u : Nat} (h : u < 10) : Lib.decDigits u = [UInt8.ofNat (48 + u)] := Lib.decDigits_one h
theorem dec_big {u : Nat} (h : ¬ u < 10) : Lib.decDigits u = Lib.decDigits (u / 10) ++ [UInt8.ofNat (48 + u % 10)] := by
  conv => lhs; rw [Lib.decDigits, dif_neg h]
theorem dec_facts (u : Nat) : (Lib.decDigits u).all isDig = true ∧ decV 0 (Lib.decDigits u) = u ∧ Lib.decDigits u ≠ [] ∧ (u ≠ 0 → (Lib.decDigits u).head? ≠ some 48) := by
  induction u using Nat.strongRecOn with
  | _ u ih =>
    by_cases h : u < 10
    · rw [dec_small h]
      have e := ofNat_digit u h
      refine ⟨?_, ?_, by simp, fun h0 h1 => ?_⟩
      · simp only [List.all_cons, List.all_nil, Bool.and_true]
        exact decide_eq_true (by omega)
      · rw [decV_cons, decV_nil, e]
        omega
      · have h2 := congrArg UInt8.toNat (Option.some.inj h1)
        rw [e] at h2
        have : (48 : UInt8).toNat = 48 := rfl
        omega
    · obtain ⟨i1, i2, i3, i4⟩ := ih (u / 10) (by omega)
      rw [dec_big h]
      have e := ofNat_digit (u % 10) (by omega)
      refine ⟨?_, ?_, by simp, fun h0 h1 => ?_⟩
      · rw [List.all_append, i1]
        simp only [List.all_cons, List.all_nil, Bool.and_true, Bool.true_and]
        exact decide_eq_true (by omega)
      · rw [decV_snoc, i2, e]
        omega
      · rw [List.head?_append, Option.or_of_isSome (by cases hd : Lib.decDigits (u / 10) with | nil => exact absurd hd i3 | cons c r => rfl)] at h1
        exact i4 (by omega) h1
theorem pnum_itoa (n : Int) (h0 : -1099511627776 ≤ n) (h1 : n ≤ 1099511627776) : pnum (Lib.itoa n) = (n, 0) := by
  obtain ⟨f1, f2, f3, f4⟩ := dec_facts n.natAbs
  by_cases hn : n < 0
  · have e : Lib.itoa n = 45 :: Lib.decDigits n.natAbs := by unfold Lib.itoa; rw [if_pos hn]
    have hp : Lib.hasPrefix (45 :: Lib.decDigits n.natAbs) [45] = true := by simp [Lib.hasPrefix]
    have ht : Lib.trimPrefix (45 :: Lib.decDigits n.natAbs) [45] = Lib.decDigits n.natAbs := by rw [Lib.trimPrefix, hp]; rfl
    rw [e, pnum, ht, hp, if_neg, if_neg (by rw [f2]; omega), f2]
    · simp; omega
    · rintro (h | ⟨h, -⟩ | h)
      · exact f3 h
      · exact f4 (by omega) h
      · rw [f1] at h; cases h
  · have e : Lib.itoa n = Lib.decDigits n.natAbs := by
      unfold Lib.itoa
      rw [if_neg hn, show n.toNat = n.natAbs by omega]
    have hh : ∃ c r, Lib.decDigits n.natAbs = c :: r ∧ isDig c = true := by
      cases hd : Lib.decDigits n.natAbs with
      | nil => exact absurd hd f3
      | cons c r =>
        rw [hd] at f1
        simp only [List.all_cons, Bool.and_eq_true] at f1
        exact ⟨c, r, rfl, f1.1⟩
    obtain ⟨c, r, hc, hcd⟩ := hh
    have hcd' := of_decide_eq_true hcd
    have hb : ((45 : UInt8) == c) = false := by
      rw [beq_eq_false_iff_ne]
      intro h
      rw [← h] at hcd'
      have : (45 : UInt8).toNat = 45 := rfl
      omega
    have hp : Lib.hasPrefix (Lib.decDigits n.natAbs) [45] = false := by
      rw [hc]
      simp only [Lib.hasPrefix, List.isPrefixOf, hb, Bool.false_and]
    have ht : Lib.trimPrefix (Lib.decDigits n.natAbs) [45] = Lib.decDigits n.natAbs := by rw [Lib.trimPrefix, hp]; rfl
    rw [e, pnum, ht, hp, if_neg, if_neg (by rw [f2]; omega), f2]
    · simp; omega
    · rintro (h | ⟨h, h9⟩ | h)
      · exact f3 h
      · by_cases hz : n.natAbs = 0
        · rw [hz] at h9
          exact h9 (by rw [dec_small (by omega)]; rfl)
        · exact f4 hz h
      · rw [f1] at h; cases h
end Go.Proofs.YtannjakcnnefhaaDoor
