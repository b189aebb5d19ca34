import Derived.Test.YtefglphdiimhnaaDoorPC0
set_option linter.unusedVariables false
set_option linter.unusedSimpArgs false
namespace Go.Proofs.YtefglphdiimhnaaDoor.Plain
open Go Go.RowKit Go.Proofs.YtefglphdiimhnaaDoor.Q Go.Proofs.YtefglphdiimhnaaDoorW.PrintWords Go.Proofs.YtefglphdiimhnaaDoorW.PrintLast Go.Proofs.YtefglphdiimhnaaDoorW.PrintMore
theorem all_l1 {L : List S69} {i : Nat} {r : List Int} {K : Nat} (hi : i < L.length) (hL : L.length ≤ 9223372036854775807) : ∀ (j : Nat) (x5 : Int) (O : List Int) (f : Nat → Int) (k : Nat), 0 ≤ x5 → x5 + j = max x5 (mn (rd_T69 L (i : Int)).f1 10000) → OutOk O f →
    (∀ O', OutOk O' (fun b => if x5 ≤ (b : Int) ∧ (b : Int) < (rd_T69 L (i : Int)).f1 then (rd_T69 L (i : Int)).f2 else f b) → ∀ k, K ≤ k → flagstoneref13_All.l0 k L O' ((i : Int) - 1) = some r) → K + j + 1 ≤ k →
    flagstoneref13_All.l1 k L O (i : Int) x5 = some r := by
  intro j
  induction j with
  | zero =>
    intro x5 O f k h0 hj hO hK hk
    obtain ⟨k, rfl⟩ : ∃ k', k = k' + 1 := ⟨k - 1, by omega⟩
    have hm : mn (rd_T69 L (i : Int)).f1 10000 ≤ x5 := by omega
    have hw : wrap64 ((i : Int) - 1) = (i : Int) - 1 := w64 (by omega) (by omega)
    unfold flagstoneref13_All.l1
    rw [if_pos (by omega), if_pos (by omega), if_neg (by omega), hw]
    refine hK O (outOk_congr hO fun b hb => ?_) k (by omega)
    rw [if_neg]
    unfold mn at hm
    split at hm <;> omega
  | succ j ih =>
    intro x5 O f k h0 hj hO hK hk
    obtain ⟨k, rfl⟩ : ∃ k', k = k' + 1 := ⟨k - 1, by omega⟩
    have hm : x5 < mn (rd_T69 L (i : Int)).f1 10000 := by omega
    have hm2 : x5 < (rd_T69 L (i : Int)).f1 ∧ x5 < 10000 := by unfold mn at hm; split at hm <;> omega
    have hw : wrap64 (x5 + 1) = x5 + 1 := w64 (by omega) (by omega)
    unfold flagstoneref13_All.l1
    rw [if_pos (by omega), if_pos (by omega), if_pos hm, if_pos h0, if_pos (by rw [hO.1]; omega), hw]
    refine ih (x5 + 1) _ _ k (by omega) (by omega) (outOk_set hO x5.toNat _) (fun O' hO' => hK O' (outOk_congr hO' fun b hb => ?_)) (by omega)
    by_cases c1 : x5 + 1 ≤ (b : Int) ∧ (b : Int) < (rd_T69 L (i : Int)).f1
    · rw [if_pos c1, if_pos ⟨by omega, c1.2⟩]
    · rw [if_neg c1]
      by_cases c2 : b = x5.toNat
      · rw [if_pos c2, if_pos ⟨by omega, by omega⟩]
      · rw [if_neg c2, if_neg]
        omega

set_option maxRecDepth 100000 in
theorem all_l0 {L : List S69} (hL : L.length ≤ 9223372036854775807) : ∀ (i : Nat) (O : List Int) (k : Nat), i ≤ L.length → OutOk O (pickL (L.drop i)) → i * 10002 + 1 ≤ k → flagstoneref13_All.l0 k L O ((i : Int) - 1) = some (paintL L) := by
  intro i
  induction i with
  | zero =>
    intro O k _ hO hk
    obtain ⟨k, rfl⟩ : ∃ k', k = k' + 1 := ⟨k - 1, by omega⟩
    unfold flagstoneref13_All.l0
    have hO2 : OutOk O (pickL L) := by simpa using hO
    rw [if_neg (by omega), outOk_paint hO2]
  | succ i ih =>
    intro O k hi hO hk
    obtain ⟨k, rfl⟩ : ∃ k', k = k' + 1 := ⟨k - 1, by omega⟩
    have e : ((i + 1 : Nat) : Int) - 1 = (i : Int) := by omega
    unfold flagstoneref13_All.l0
    rw [e, if_pos (by omega), if_pos (by omega), if_pos (by omega)]
    have hr : rd_T69 L (i : Int) = L[i] := by unfold rd_T69; simp [show i < L.length by omega]
    have hx : 0 ≤ mx (rd_T69 L (i : Int)).f0 0 := by unfold mx; split <;> omega
    refine all_l1 (K := i * 10002 + 1) (by omega) hL (max (mx (rd_T69 L (i : Int)).f0 0) (mn (rd_T69 L (i : Int)).f1 10000) - mx (rd_T69 L (i : Int)).f0 0).toNat _ O _ k hx (by omega) hO (fun O' hO' k' hk' => ih O' k' (by omega) (outOk_congr hO' fun b hb => ?_) hk') ?_
    · rw [List.drop_eq_getElem_cons (by omega : i < L.length), pickL_cons, ← hr]
      have : (mx (rd_T69 L (i : Int)).f0 0 ≤ (b : Int) ∧ (b : Int) < (rd_T69 L (i : Int)).f1) ↔ inR (rd_T69 L (i : Int)) b = true := by
        unfold inR mx
        split <;> simp <;> omega
      by_cases c : inR (rd_T69 L (i : Int)) b = true
      · rw [if_pos (this.2 c), if_pos c]
      · rw [if_neg (fun h => c (this.1 h)), if_neg c]
    · have : mn (rd_T69 L (i : Int)).f1 10000 ≤ 10000 := by unfold mn; split <;> omega
      omega
theorem all_ok {L : List S69} {k : Nat} (hL : L.length ≤ 9223372036854775807) (hk : L.length * 10002 + 1 ≤ k) : flagstoneref13_All.f k L = some (paintL L) := by
  unfold flagstoneref13_All.f
  rw [if_pos (by decide), w64 (by omega) (by omega)]
  exact all_l0 hL L.length _ k (Nat.le_refl _) (by rw [List.drop_length]; exact outOk_zero) hk

theorem refw_l0 {m : Nat} {X : List Int} (hm : m ≤ 8) (hX : X.length ≤ 100000) : ∀ (j i k : Nat), i + j = X.length → j + 1 ≤ k → flagstoneref13_Weights.l0 k (m : Int) (wcount X m i) X (i : Int) = some (wcount X m X.length) := by
  intro j
  induction j with
  | zero =>
    intro i k hi hk
    obtain ⟨k, rfl⟩ : ∃ k', k = k' + 1 := ⟨k - 1, by omega⟩
    unfold flagstoneref13_Weights.l0
    rw [if_neg (by omega), show i = X.length by omega]
  | succ j ih =>
    intro i k hi hk
    obtain ⟨k, rfl⟩ : ∃ k', k = k' + 1 := ⟨k - 1, by omega⟩
    have hlt : i < X.length := by omega
    have hr : rd X (i : Int) = X[i] := by unfold rd; simp [hlt]
    have hw : wrap64 ((i : Int) + 1) = ((i + 1 : Nat) : Int) := by rw [w64 (by omega) (by omega)]; omega
    have hl := wcount_len X m i (by omega)
    have ih2 := ih (i + 1) k (by omega) (by omega)
    rw [wcount_succ hlt] at ih2
    unfold wstep at ih2
    unfold flagstoneref13_Weights.l0
    rw [if_pos (by omega), if_pos (by omega), hr, hw]
    by_cases c1 : X[i] ≥ 1
    · rw [if_pos c1]
      by_cases c2 : X[i] ≤ (m : Int)
      · have hw2 : wrap64 (X[i] - 1) = X[i] - 1 := w64 (by omega) (by omega)
        have hb := wcount_le X m i (by omega) (X[i] - 1).toNat
        have hw3 : wrap64 (rd (wcount X m i) (X[i] - 1) + 1) = (wcount X m i).getD (X[i] - 1).toNat 0 + 1 := by
          unfold rd
          rw [w64 (by omega) (by omega)]
        rw [if_pos c2, hw2, if_pos (by omega), if_pos (by omega), hw3]
        rw [if_pos ⟨c1, by omega⟩] at ih2
        exact ih2
      · rw [if_neg c2]
        rw [if_neg (by omega)] at ih2
        exact ih2
    · rw [if_neg c1]
      rw [if_neg (by omega)] at ih2
      exact ih2
set_option maxRecDepth 100000 in
theorem refweights_ok {n : Int} {L : List S69} {k : Nat} (hL : L.length ≤ 9223372036854775807) (hk : L.length * 10002 + 10001 ≤ k) : flagstoneref13_Weights.f k L n = some (wcount (paintL L) (mx 0 (mn n 8)).toNat 10000) := by
  have h0 : 0 ≤ mx 0 (mn n 8) ∧ mx 0 (mn n 8) ≤ 8 := by unfold mx mn; repeat' split <;> omega
  unfold flagstoneref13_Weights.f
  have e : ((mx 0 (mn n 8)).toNat : Int) = mx 0 (mn n 8) := by omega
  have hp : (paintL L).length = 10000 := by simp [paintL]
  rw [if_pos h0.1, if_pos (by omega), all_ok hL (by omega), Option.bind_some]
  have h := refw_l0 (m := (mx 0 (mn n 8)).toNat) (X := paintL L) (by omega) (by omega) 10000 0 k (by omega) (by omega)
  rw [e, hp] at h
  exact h
end Go.Proofs.YtefglphdiimhnaaDoor.Plain
