import Derived.Lib.AtoiAll
import Derived.Lib.Strings
import Derived.Lib.IndexBytes
set_option linter.unusedVariables false
set_option linter.unusedSimpArgs false
set_option linter.unusedVariables false
namespace Go.Proofs.YtannjakcnnefhaaDoor
open Go
/-- A decimal digit. -/
def isDig (c : UInt8) : Bool := decide (48 ≤ c.toNat ∧ c.toNat ≤ 57)
/-- The number that digits spell behind the number acc. -/
def decV (acc : Nat) (l : List UInt8) : Nat := l.foldl (fun a c => a * 10 + (c.toNat - 48)) acc
theorem decV_nil (acc : Nat) : decV acc [] = acc := rfl
theorem decV_cons (acc : Nat) (c : UInt8) (r : List UInt8) : decV acc (c :: r) = decV (acc * 10 + (c.toNat - 48)) r := by unfold decV; rw [List.foldl_cons]
/-- The number that a text is, or the error. -/
def pnum (l : List UInt8) : Int × Int :=
  if Lib.trimPrefix l [45] = [] ∨ ((Lib.trimPrefix l [45]).head? = some 48 ∧ l ≠ [48]) ∨ (Lib.trimPrefix l [45]).all isDig = false then (0, 1)
  else if 1099511627776 < decV 0 (Lib.trimPrefix l [45]) then (0, 3)
  else (if Lib.hasPrefix l [45] then -(decV 0 (Lib.trimPrefix l [45]) : Int) else decV 0 (Lib.trimPrefix l [45]), 0)
theorem decV_ge : ∀ (l : List UInt8) (acc : Nat), acc * 10 ^ l.length ≤ decV acc l
  | [], acc => by rw [decV_nil, List.length_nil, Nat.pow_zero]; omega
  | c :: r, acc => by
    have h := decV_ge r (acc * 10 + (c.toNat - 48))
    rw [decV_cons, List.length_cons, Nat.pow_succ, Nat.mul_comm (10 ^ r.length) 10, ← Nat.mul_assoc]
    exact Nat.le_trans (Nat.mul_le_mul_right _ (by omega)) h
theorem decV_le (l : List UInt8) (acc : Nat) : acc ≤ decV acc l := by
  have h := decV_ge l acc
  have h2 : acc * 1 ≤ acc * 10 ^ l.length := Nat.mul_le_mul_left _ (Nat.pos_of_ne_zero (by simp))
  omega
/-- .. and of the first digits. -/
theorem decV_snoc : ∀ (l : List UInt8) (acc : Nat) (c : UInt8), decV acc (l ++ [c]) = decV acc l * 10 + (c.toNat - 48)
  | [], acc, c => rfl
  | b :: r, acc, c => by rw [List.cons_append, decV_cons, decV_snoc r, decV_cons]
theorem pu_digits : ∀ (l : List UInt8) (acc : Nat), l.all isDig = true → acc < 18446744073709551616 →
    Lib.parseUint10 acc l = if decV acc l < 18446744073709551616 then .ok (decV acc l) else .range
  | [], acc, _, ha => by rw [Lib.parseUint10, decV_nil, if_pos ha]
  | c :: r, acc, h, ha => by
    simp only [List.all_cons, Bool.and_eq_true] at h
    have hc := of_decide_eq_true h.1
    have hle := decV_le r (acc * 10 + (c.toNat - 48))
    rw [Lib.parseUint10, if_pos hc, decV_cons]
    by_cases h1 : 1844674407370955162 ≤ acc
    · rw [if_pos h1, if_neg (by omega)]
    · rw [if_neg h1]
      by_cases h2 : 18446744073709551616 ≤ acc * 10 + (c.toNat - 48)
      · rw [if_pos h2, if_neg (by omega)]
      · rw [if_neg h2]
        exact pu_digits r _ h.2 (by omega)
theorem atoi_digits (l : List UInt8) (h0 : Lib.trimPrefix l [45] ≠ []) (hd : (Lib.trimPrefix l [45]).all isDig = true) :
    (decV 0 (Lib.trimPrefix l [45]) ≤ 1099511627776 → Lib.atoiAll l = .ok (if Lib.hasPrefix l [45] then -(decV 0 (Lib.trimPrefix l [45]) : Int) else decV 0 (Lib.trimPrefix l [45]))) ∧
    (1099511627776 < decV 0 (Lib.trimPrefix l [45]) → Lib.atoiAll l = .range ∨ ∃ v, Lib.atoiAll l = .ok v ∧ (v < -1099511627776 ∨ 1099511627776 < v)) := by
  have hp := pu_digits _ 0 hd (by omega)
  cases l with
  | nil => exact absurd (by simp [Lib.trimPrefix, Lib.hasPrefix]) h0
  | cons c r =>
    by_cases hc : c = 45
    · subst hc
      have e1 : Lib.trimPrefix (45 :: r) [45] = r := by simp [Lib.trimPrefix, Lib.hasPrefix]
      have e2 : Lib.hasPrefix (45 :: r) [45] = true := by simp [Lib.hasPrefix]
      rw [e1] at h0 hp ⊢
      rw [e2]
      have hm : Lib.parseMag r = if decV 0 r < 18446744073709551616 then .ok (decV 0 r) else .range := by rw [Lib.parseMag, if_neg h0, hp]
      have e45 : (45 : UInt8).toNat = 45 := rfl
      simp only [Lib.atoiAll, e45, or_true, if_true, hm, not_true_eq_false, false_and, if_false, true_and]
      by_cases hb : decV 0 r < 18446744073709551616
      · rw [if_pos hb]
        refine ⟨fun h => ?_, fun h => ?_⟩
        · dsimp only
          rw [if_neg (by omega)]
        · by_cases h9 : 9223372036854775808 < decV 0 r
          · exact .inl (by dsimp only; rw [if_pos h9])
          · exact .inr ⟨_, by dsimp only; rw [if_neg h9], .inl (by omega)⟩
      · rw [if_neg hb]
        exact ⟨fun h => by omega, fun h => .inl rfl⟩
    · have e2 : Lib.hasPrefix (c :: r) [45] = false := by
        have hb : ((45 : UInt8) == c) = false := by simpa using Ne.symm hc
        simp only [Lib.hasPrefix, List.isPrefixOf, hb, Bool.false_and]
      have e1 : Lib.trimPrefix (c :: r) [45] = c :: r := by rw [Lib.trimPrefix, e2]; rfl
      rw [e1] at h0 hp hd ⊢
      rw [e2]
      simp only [List.all_cons, Bool.and_eq_true] at hd
      have hcd := of_decide_eq_true hd.1
      have hm : Lib.parseMag (c :: r) = if decV 0 (c :: r) < 18446744073709551616 then .ok (decV 0 (c :: r)) else .range := by rw [Lib.parseMag, if_neg h0, hp]
      have n43 : ¬ c.toNat = 43 := by omega
      have n45 : ¬ c.toNat = 45 := by omega
      simp only [Lib.atoiAll, n43, n45, or_self, if_false, hm, not_false_eq_true, true_and, false_and]
      generalize decV 0 (c :: r) = D
      by_cases hb : D < 18446744073709551616
      · rw [if_pos hb]
        refine ⟨fun h => ?_, fun h => ?_⟩
        · dsimp only
          rw [if_neg (by omega)]
          rfl
        · by_cases h9 : 9223372036854775808 ≤ D
          · exact .inl (by dsimp only; rw [if_pos h9])
          · exact .inr ⟨_, by dsimp only; rw [if_neg h9], .inr (by omega)⟩
      · rw [if_neg hb]
        exact ⟨fun h => by omega, fun h => .inl rfl⟩
theorem one_zero {l : List UInt8} (h : (Lib.trimPrefix l [45]).head? = some 48) : l ≠ [48] ↔ (1 < (Lib.trimPrefix l [45]).length ∨ Lib.hasPrefix l [45] = true) := by
  cases hp : Lib.hasPrefix l [45] with
  | true =>
    refine ⟨fun _ => .inr rfl, fun _ e => ?_⟩
    subst e
    exact absurd hp (by decide)
  | false =>
    have e1 : Lib.trimPrefix l [45] = l := by rw [Lib.trimPrefix, hp]; rfl
    rw [e1] at h ⊢
    constructor
    · intro hne
      left
      rcases l with _ | ⟨a, _ | ⟨b, r⟩⟩
      · cases h
      · obtain rfl := Option.some.inj h
        exact absurd rfl hne
      · simp
    · rintro (h1 | h1) e
      · subst e
        simp at h1
      · cases h1
/-- What a text whose digits are T, and which has a sign just when N, comes to. -/
structure PN (l : List UInt8) (T : ByteArray) (N : Bool) : Prop where
  empty : T.toList.isEmpty = true → pnum l = (0, 1)
  zero : ∀ h : 0 < T.size, (T[0]'h).toNat = 48 → (1 < T.size ∨ N = true) → pnum l = (0, 1)
  bad : ∀ (j : Nat) (h : j < T.size), ¬ (48 ≤ (T[j]'h).toNat ∧ (T[j]'h).toNat ≤ 57) → pnum l = (0, 1)
  good : ∀ h : 0 < T.size, ¬ ((T[0]'h).toNat = 48 ∧ (1 < T.size ∨ N = true)) → (∀ (j : Nat) (h : j < T.size), 48 ≤ (T[j]'h).toNat ∧ (T[j]'h).toNat ≤ 57) →
    (∃ v, Lib.atoiAll l = .ok v ∧ ((-1099511627776 ≤ v ∧ v ≤ 1099511627776 ∧ pnum l = (v, 0)) ∨ ((v < -1099511627776 ∨ 1099511627776 < v) ∧ pnum l = (0, 3)))) ∨ (Lib.atoiAll l = .range ∧ pnum l = (0, 3))
theorem ba_list (T : ByteArray) : T.toList = T.data.toList := Lib.toList_data T
theorem pn_of (l : List UInt8) : PN l ⟨(Lib.trimPrefix l [45]).toArray⟩ (Lib.hasPrefix l [45]) := by
  obtain ⟨d, hd⟩ : ∃ d, d = Lib.trimPrefix l [45] := ⟨_, rfl⟩
  have hz := @one_zero l
  have ha := atoi_digits l
  have hp : pnum l = if d = [] ∨ (d.head? = some 48 ∧ l ≠ [48]) ∨ d.all isDig = false then (0, 1) else if 1099511627776 < decV 0 d then (0, 3) else (if Lib.hasPrefix l [45] then -(decV 0 d : Int) else decV 0 d, 0) := by rw [pnum, ← hd]
  rw [← hd] at hz ha ⊢
  have hsz : (⟨d.toArray⟩ : ByteArray).size = d.length := by simp [ByteArray.size]
  have hat : ∀ (j : Nat) (h : j < (⟨d.toArray⟩ : ByteArray).size) (h' : j < d.length), (⟨d.toArray⟩ : ByteArray)[j]'h = d[j]'h' := fun j h h' => rfl
  have hhd : ∀ h : 0 < (⟨d.toArray⟩ : ByteArray).size, (((⟨d.toArray⟩ : ByteArray)[0]'h).toNat = 48 ↔ d.head? = some 48) := fun h => by
    rw [hat 0 h (by omega)]
    cases d with
    | nil => simp [ByteArray.size] at h
    | cons c r =>
      simp only [List.getElem_cons_zero, List.head?_cons, Option.some.injEq]
      exact ⟨fun e => UInt8.toNat_inj.1 e, fun e => by rw [e]; rfl⟩
  refine ⟨fun h => ?_, fun h h0 h1 => ?_, fun j h h1 => ?_, fun h h0 h1 => ?_⟩
  · rw [ba_list] at h
    have : d = [] := by simpa using h
    rw [hp, if_pos (.inl this)]
  · have h2 := (hhd h).1 h0
    rw [hsz] at h1
    rw [hp, if_pos (.inr (.inl ⟨h2, (hz h2).2 h1⟩))]
  · rw [hat j h (by omega)] at h1
    have hbad : d.all isDig = false := List.all_eq_false.2 ⟨d[j], List.getElem_mem _, fun h2 => h1 (of_decide_eq_true h2)⟩
    rw [hp, if_pos (.inr (.inr hbad))]
  · have hne : d ≠ [] := fun e => by rw [hsz, e] at h; simp at h
    have hall : d.all isDig = true := by
      rw [List.all_eq_true]
      intro x hx
      obtain ⟨j, hj, rfl⟩ := List.mem_iff_getElem.1 hx
      have := h1 j (by omega)
      rw [hat j (by omega) hj] at this
      exact decide_eq_true this
    have hn : ¬ (d = [] ∨ (d.head? = some 48 ∧ l ≠ [48]) ∨ d.all isDig = false) := by
      rintro (e | ⟨e1, e2⟩ | e)
      · exact hne e
      · refine h0 ⟨(hhd h).2 e1, ?_⟩
        rw [hsz]
        exact (hz e1).1 e2
      · rw [hall] at e; cases e
    rw [hp, if_neg hn]
    obtain ⟨a1, a2⟩ := ha hne hall
    by_cases hb : 1099511627776 < decV 0 d
    · rw [if_pos hb]
      rcases a2 hb with e | ⟨v, e, hv⟩
      · exact .inr ⟨e, rfl⟩
      · exact .inl ⟨v, e, .inr ⟨hv, rfl⟩⟩
    · rw [if_neg hb]
      refine .inl ⟨_, a1 (by omega), .inl ?_⟩
      split <;> exact ⟨by omega, by omega, rfl⟩
end Go.Proofs.YtannjakcnnefhaaDoor
