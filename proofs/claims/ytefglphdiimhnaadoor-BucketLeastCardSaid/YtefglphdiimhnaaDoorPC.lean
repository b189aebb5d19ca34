import Derived.Test.YtefglphdiimhnaaDoorQ
import Derived.Test.YtefglphdiimhnaaDoorPB
set_option linter.unusedVariables false
set_option linter.unusedSimpArgs false
namespace Go.Proofs.YtefglphdiimhnaaDoor.Plain
open Go Go.RowKit Go.Proofs.YtefglphdiimhnaaDoor.Q Go.Proofs.YtefglphdiimhnaaDoorW.PrintWords Go.Proofs.YtefglphdiimhnaaDoorW.PrintLast Go.Proofs.YtefglphdiimhnaaDoorW.PrintMore

theorem rdT_mid (pre rs : List S69) (r : S69) : rd_T69 (pre ++ r :: rs) (pre.length : Int) = r := by
  unfold rd_T69
  simp
theorem rd_mid (pre rs : List Int) (r : Int) : rd (pre ++ r :: rs) (pre.length : Int) = r := by
  unfold rd
  simp

/-! ### The checks -/
theorem shape_l0 {n : Int} : ∀ (rs pre : List S69) (k : Nat) (p0 p1 p2 : Int), okS n p1 p2 rs → 2 * rs.length + 1 ≤ k → pre.length + rs.length ≤ 1000 →
    shape_Split.l0 k n (pre ++ rs) ((pre ++ rs).length : Int) (pre.length : Int) p0 p1 p2 = some 0 := by
  intro rs
  induction rs with
  | nil =>
    intro pre k p0 p1 p2 h hk hl
    obtain ⟨k, rfl⟩ : ∃ k', k = k' + 1 := ⟨k - 1, by omega⟩
    have h1 : p1 = 10000 := h
    unfold shape_Split.l0
    rw [if_neg (by simp), h1]
    rfl
  | cons r rs ih =>
    intro pre k p0 p1 p2 h hk hl
    obtain ⟨k, rfl⟩ : ∃ k', k = k' + 2 := ⟨k - 2, by simp at hk; omega⟩
    obtain ⟨h1, h2, h3, h4, h5, h6, h7, h8⟩ := h
    have hw : wrap64 ((pre.length : Int) + 1) = ((pre ++ [r]).length : Int) := by simp at hl; rw [w64 (by omega) (by omega)]; simp
    unfold shape_Split.l0
    rw [if_pos (by simp; omega), if_pos (by omega), if_pos (by simp; omega), rdT_mid, if_neg (by omega), decide_eq_false (by omega : ¬ r.f2 > n)]
    unfold shape_Split.j1
    rw [if_neg (by decide), if_pos (by omega), if_neg (by omega), if_neg h5, hw]
    have e : pre ++ r :: rs = (pre ++ [r]) ++ rs := by simp
    rw [e]
    exact ih (pre ++ [r]) k r.f0 r.f1 r.f2 h8 (by simp at hk; omega) (by simp at hl ⊢; omega)
theorem shape_ok {n : Int} {L : List S69} {k : Nat} (h : okS n 0 0 L) (hl : L.length ≤ 16) (hk : 33 ≤ k) : shape_Split.f k L n = some 0 := by
  unfold shape_Split.f
  rw [if_neg (by omega)]
  exact shape_l0 L [] k 0 0 0 h (by omega) (by simp; omega)

theorem sumL_nn : ∀ {a : List Int}, (∀ x ∈ a, 0 ≤ x) → 0 ≤ sumL a
  | [], _ => by simp [sumL]
  | y :: a, h => by have := sumL_nn (a := a) (fun x hx => h x (by simp [hx])); have := h y (by simp); rw [sumL_cons]; omega
theorem check_l0 : ∀ (rs pre : List Int) (k : Nat) (s : Int), (∀ x ∈ rs, 0 ≤ x) → s + sumL rs = 10000 → 0 ≤ s → rs.length + 1 ≤ k → pre.length + rs.length ≤ 1000 →
    bucket_check.l0 k s (pre ++ rs) ((pre ++ rs).length : Int) (pre.length : Int) = some 0 := by
  intro rs
  induction rs with
  | nil =>
    intro pre k s _ h hs hk hl
    obtain ⟨k, rfl⟩ : ∃ k', k = k' + 1 := ⟨k - 1, by omega⟩
    have h1 : s = 10000 := by simpa [sumL] using h
    unfold bucket_check.l0
    rw [if_neg (by simp), if_pos h1]
  | cons r rs ih =>
    intro pre k s hp h hs hk hl
    obtain ⟨k, rfl⟩ : ∃ k', k = k' + 1 := ⟨k - 1, by simp at hk; omega⟩
    rw [sumL_cons] at h
    have hr := hp r (by simp)
    have hrs := sumL_nn (a := rs) (fun x hx => hp x (by simp [hx]))
    have hw : wrap64 ((pre.length : Int) + 1) = ((pre ++ [r]).length : Int) := by simp at hl; rw [w64 (by omega) (by omega)]; simp
    have hw2 : wrap64 (s + r) = s + r := w64 (by omega) (by omega)
    unfold bucket_check.l0
    rw [if_pos (by simp; omega), if_pos (by omega), if_pos (by simp; omega), rd_mid, if_neg (by omega), if_neg (by omega), hw, hw2]
    have e : pre ++ r :: rs = (pre ++ [r]) ++ rs := by simp
    rw [e]
    exact ih (pre ++ [r]) k (s + r) (fun x hx => hp x (by simp [hx])) (by omega) (by omega) (by simp at hk; omega) (by simp at hl ⊢; omega)
theorem check_ok {n : Int} {W : List Int} {k : Nat} (h : okW n W) (hn : n ≤ 8) (hk : 9 ≤ k) : bucket_check.f k W = some 0 := by
  obtain ⟨h1, h2, h3⟩ := h
  unfold bucket_check.f
  rw [if_neg (by omega)]
  exact check_l0 W [] k 0 h2 (by omega) (by omega) (by omega) (by simp; omega)

/-! ### The colours -/
theorem pickL_cons (r : S69) (rs : List S69) (b : Nat) : pickL (r :: rs) b = if inR r b = true then r.f2 else pickL rs b := by
  unfold pickL
  rw [List.find?_cons]
  by_cases h : inR r b = true
  · rw [h]; rfl
  · rw [Bool.eq_false_iff.mpr h]; simp
theorem outOk_paint {O : List Int} {L : List S69} (h : OutOk O (pickL L)) : O = paintL L := by
  obtain ⟨h1, h2⟩ := h
  refine List.ext_getElem (by rw [h1]; simp [paintL]) fun i hi hj => ?_
  have := h2 i (by omega)
  rw [List.getD_eq_getElem?_getD, List.getElem?_eq_getElem hi] at this
  simpa [paintL] using this
theorem outOk_congr {O : List Int} {f g : Nat → Int} (h : OutOk O f) (e : ∀ b, b < 10000 → f b = g b) : OutOk O g := ⟨h.1, fun b hb => (h.2 b hb).trans (e b hb)⟩
theorem outOk_set {O : List Int} {f : Nat → Int} (h : OutOk O f) (j : Nat) (v : Int) : OutOk (O.set j v) (fun b => if b = j then v else f b) := by
  refine ⟨by rw [List.length_set]; exact h.1, fun b hb => ?_⟩
  by_cases e : b = j
  · subst e
    simp [h.1, hb]
  · show (O.set j v).getD b 0 = if b = j then v else f b
    rw [if_neg e, ← h.2 b hb]
    simp [List.getElem?_set, Ne.symm e]
theorem outOk_zero : OutOk (List.replicate 10000 (0 : Int)) (pickL []) := by
  refine ⟨List.length_replicate, fun b hb => ?_⟩
  rw [List.getD_eq_getElem?_getD, List.getElem?_replicate, if_pos hb]
  rfl

theorem all_l1 {L : List S69} {i : Nat} {r : List Int} {K : Nat} (hi : i < L.length) (hL : L.length ≤ 9223372036854775807) : ∀ (j : Nat) (x5 : Int) (O : List Int) (f : Nat → Int) (k : Nat), 0 ≤ x5 → x5 + j = max x5 (mn (rd_T69 L (i : Int)).f1 10000) → OutOk O f →
    (∀ O', OutOk O' (fun b => if x5 ≤ (b : Int) ∧ (b : Int) < (rd_T69 L (i : Int)).f1 then (rd_T69 L (i : Int)).f2 else f b) → ∀ k, K ≤ k → flagstoneref13_All.l0 k L O' ((i : Int) - 1) = some r) → K + j + 1 ≤ k →
    flagstoneref13_All.l1 k L O (i : Int) x5 = some r := by
  intro j
  induction j with
  | zero =>
    intro x5 O f k h0 hj hO hK hk
    obtain ⟨k, rfl⟩ : ∃ k', k = k' + 1 := ⟨k - 1, by omega⟩
    have hm : mn (rd_T69 L (i : Int)).f1 10000 ≤ x5 := by omega
    have hw : wrap64 ((i : Int) - 1) = (i : Int) - 1 := w64 (by omega) (by omega)
    unfold flagstoneref13_All.l1
    rw [if_pos (by omega), if_pos (by omega), if_neg (by omega), hw]
    refine hK O (outOk_congr hO fun b hb => ?_) k (by omega)
    rw [if_neg]
    unfold mn at hm
    split at hm <;> omega
  | succ j ih =>
    intro x5 O f k h0 hj hO hK hk
    obtain ⟨k, rfl⟩ : ∃ k', k = k' + 1 := ⟨k - 1, by omega⟩
    have hm : x5 < mn (rd_T69 L (i : Int)).f1 10000 := by omega
    have hm2 : x5 < (rd_T69 L (i : Int)).f1 ∧ x5 < 10000 := by unfold mn at hm; split at hm <;> omega
    have hw : wrap64 (x5 + 1) = x5 + 1 := w64 (by omega) (by omega)
    unfold flagstoneref13_All.l1
    rw [if_pos (by omega), if_pos (by omega), if_pos hm, if_pos h0, if_pos (by rw [hO.1]; omega), hw]
    refine ih (x5 + 1) _ _ k (by omega) (by omega) (outOk_set hO x5.toNat _) (fun O' hO' => hK O' (outOk_congr hO' fun b hb => ?_)) (by omega)
    by_cases c1 : x5 + 1 ≤ (b : Int) ∧ (b : Int) < (rd_T69 L (i : Int)).f1
    · rw [if_pos c1, if_pos ⟨by omega, c1.2⟩]
    · rw [if_neg c1]
      by_cases c2 : b = x5.toNat
      · rw [if_pos c2, if_pos ⟨by omega, by omega⟩]
      · rw [if_neg c2, if_neg]
        omega

set_option maxRecDepth 100000 in
theorem all_l0 {L : List S69} (hL : L.length ≤ 9223372036854775807) : ∀ (i : Nat) (O : List Int) (k : Nat), i ≤ L.length → OutOk O (pickL (L.drop i)) → i * 10002 + 1 ≤ k → flagstoneref13_All.l0 k L O ((i : Int) - 1) = some (paintL L) := by
  intro i
  induction i with
  | zero =>
    intro O k _ hO hk
    obtain ⟨k, rfl⟩ : ∃ k', k = k' + 1 := ⟨k - 1, by omega⟩
    unfold flagstoneref13_All.l0
    have hO2 : OutOk O (pickL L) := by simpa using hO
    rw [if_neg (by omega), outOk_paint hO2]
  | succ i ih =>
    intro O k hi hO hk
    obtain ⟨k, rfl⟩ : ∃ k', k = k' + 1 := ⟨k - 1, by omega⟩
    have e : ((i + 1 : Nat) : Int) - 1 = (i : Int) := by omega
    unfold flagstoneref13_All.l0
    rw [e, if_pos (by omega), if_pos (by omega), if_pos (by omega)]
    have hr : rd_T69 L (i : Int) = L[i] := by unfold rd_T69; simp [show i < L.length by omega]
    have hx : 0 ≤ mx (rd_T69 L (i : Int)).f0 0 := by unfold mx; split <;> omega
    refine all_l1 (K := i * 10002 + 1) (by omega) hL (max (mx (rd_T69 L (i : Int)).f0 0) (mn (rd_T69 L (i : Int)).f1 10000) - mx (rd_T69 L (i : Int)).f0 0).toNat _ O _ k hx (by omega) hO (fun O' hO' k' hk' => ih O' k' (by omega) (outOk_congr hO' fun b hb => ?_) hk') ?_
    · rw [List.drop_eq_getElem_cons (by omega : i < L.length), pickL_cons, ← hr]
      have : (mx (rd_T69 L (i : Int)).f0 0 ≤ (b : Int) ∧ (b : Int) < (rd_T69 L (i : Int)).f1) ↔ inR (rd_T69 L (i : Int)) b = true := by
        unfold inR mx
        split <;> simp <;> omega
      by_cases c : inR (rd_T69 L (i : Int)) b = true
      · rw [if_pos (this.2 c), if_pos c]
      · rw [if_neg (fun h => c (this.1 h)), if_neg c]
    · have : mn (rd_T69 L (i : Int)).f1 10000 ≤ 10000 := by unfold mn; split <;> omega
      omega
theorem all_ok {L : List S69} {k : Nat} (hL : L.length ≤ 9223372036854775807) (hk : L.length * 10002 + 1 ≤ k) : flagstoneref13_All.f k L = some (paintL L) := by
  unfold flagstoneref13_All.f
  rw [if_pos (by decide), w64 (by omega) (by omega)]
  exact all_l0 hL L.length _ k (Nat.le_refl _) (by rw [List.drop_length]; exact outOk_zero) hk

/-! ### The counts -/
theorem wcount_succ {X : List Int} {m k : Nat} (hk : k < X.length) : wcount X m (k + 1) = wstep (wcount X m k) X[k] := by
  unfold wcount
  rw [← List.take_append_getElem hk, List.foldl_append]
  rfl
theorem wstep_len (o : List Int) (v : Int) : (wstep o v).length = o.length := by unfold wstep; split <;> simp
theorem wcount_len (X : List Int) (m : Nat) : ∀ k, k ≤ X.length → (wcount X m k).length = m
  | 0, _ => by simp [wcount]
  | k + 1, h => by rw [wcount_succ (by omega), wstep_len, wcount_len X m k (by omega)]
theorem wcount_le (X : List Int) (m : Nat) : ∀ k, k ≤ X.length → ∀ i, 0 ≤ (wcount X m k).getD i 0 ∧ (wcount X m k).getD i 0 ≤ (k : Int)
  | 0, _, i => by
    unfold wcount
    simp only [List.take_zero, List.foldl_nil, List.getD_eq_getElem?_getD, List.getElem?_replicate]
    split <;> simp
  | k + 1, h, i => by
    have ih := wcount_le X m k (by omega)
    rw [wcount_succ (by omega)]
    unfold wstep
    split
    · generalize (X[k] - 1).toNat = q
      by_cases e : q = i
      · subst e
        have := ih q
        simp only [List.getD_eq_getElem?_getD, List.getElem?_set, if_pos] at this ⊢
        split <;> simp <;> omega
      · have := ih i
        simp only [List.getD_eq_getElem?_getD, List.getElem?_set, if_neg e] at this ⊢
        omega
    · have := ih i
      omega
theorem refw_l0 {m : Nat} {X : List Int} (hm : m ≤ 8) (hX : X.length ≤ 100000) : ∀ (j i k : Nat), i + j = X.length → j + 1 ≤ k → flagstoneref13_Weights.l0 k (m : Int) (wcount X m i) X (i : Int) = some (wcount X m X.length) := by
  intro j
  induction j with
  | zero =>
    intro i k hi hk
    obtain ⟨k, rfl⟩ : ∃ k', k = k' + 1 := ⟨k - 1, by omega⟩
    unfold flagstoneref13_Weights.l0
    rw [if_neg (by omega), show i = X.length by omega]
  | succ j ih =>
    intro i k hi hk
    obtain ⟨k, rfl⟩ : ∃ k', k = k' + 1 := ⟨k - 1, by omega⟩
    have hlt : i < X.length := by omega
    have hr : rd X (i : Int) = X[i] := by unfold rd; simp [hlt]
    have hw : wrap64 ((i : Int) + 1) = ((i + 1 : Nat) : Int) := by rw [w64 (by omega) (by omega)]; omega
    have hl := wcount_len X m i (by omega)
    have ih2 := ih (i + 1) k (by omega) (by omega)
    rw [wcount_succ hlt] at ih2
    unfold wstep at ih2
    unfold flagstoneref13_Weights.l0
    rw [if_pos (by omega), if_pos (by omega), hr, hw]
    by_cases c1 : X[i] ≥ 1
    · rw [if_pos c1]
      by_cases c2 : X[i] ≤ (m : Int)
      · have hw2 : wrap64 (X[i] - 1) = X[i] - 1 := w64 (by omega) (by omega)
        have hb := wcount_le X m i (by omega) (X[i] - 1).toNat
        have hw3 : wrap64 (rd (wcount X m i) (X[i] - 1) + 1) = (wcount X m i).getD (X[i] - 1).toNat 0 + 1 := by
          unfold rd
          rw [w64 (by omega) (by omega)]
        rw [if_pos c2, hw2, if_pos (by omega), if_pos (by omega), hw3]
        rw [if_pos ⟨c1, by omega⟩] at ih2
        exact ih2
      · rw [if_neg c2]
        rw [if_neg (by omega)] at ih2
        exact ih2
    · rw [if_neg c1]
      rw [if_neg (by omega)] at ih2
      exact ih2
set_option maxRecDepth 100000 in
theorem refweights_ok {n : Int} {L : List S69} {k : Nat} (hL : L.length ≤ 9223372036854775807) (hk : L.length * 10002 + 10001 ≤ k) : flagstoneref13_Weights.f k L n = some (wcount (paintL L) (mx 0 (mn n 8)).toNat 10000) := by
  have h0 : 0 ≤ mx 0 (mn n 8) ∧ mx 0 (mn n 8) ≤ 8 := by unfold mx mn; repeat' split <;> omega
  unfold flagstoneref13_Weights.f
  have e : ((mx 0 (mn n 8)).toNat : Int) = mx 0 (mn n 8) := by omega
  have hp : (paintL L).length = 10000 := by simp [paintL]
  rw [if_pos h0.1, if_pos (by omega), all_ok hL (by omega), Option.bind_some]
  have h := refw_l0 (m := (mx 0 (mn n 8)).toNat) (X := paintL L) (by omega) (by omega) 10000 0 k (by omega) (by omega)
  rw [e, hp] at h
  exact h

/-! ### The pick -/
def inI (r : S69) (x : Int) : Bool := decide (r.f0 ≤ x) && decide (x < r.f1)
def pickI (l : List S69) (x : Int) : Int := match l.find? (inI · x) with | some r => r.f2 | none => 0
theorem pickI_nat (l : List S69) (b : Nat) : pickI l (b : Int) = pickL l b := rfl
theorem pickI_cons (r : S69) (rs : List S69) (b : Int) : pickI (r :: rs) b = if inI r b = true then r.f2 else pickI rs b := by
  unfold pickI
  rw [List.find?_cons]
  by_cases h : inI r b = true
  · rw [h]; rfl
  · rw [Bool.eq_false_iff.mpr h]; simp
theorem pick_l0 {x : Int} : ∀ (rs pre : List S69) (k : Nat), rs.length + 1 ≤ k → pre.length + rs.length ≤ 9223372036854775806 →
    bucket_Pick.l0 k x (pre ++ rs) ((pre ++ rs).length : Int) (pre.length : Int) = some (pickI rs x) := by
  intro rs
  induction rs with
  | nil =>
    intro pre k hk hl
    obtain ⟨k, rfl⟩ : ∃ k', k = k' + 1 := ⟨k - 1, by omega⟩
    unfold bucket_Pick.l0
    rw [if_neg (by simp)]
    rfl
  | cons r rs ih =>
    intro pre k hk hl
    obtain ⟨k, rfl⟩ : ∃ k', k = k' + 1 := ⟨k - 1, by simp at hk; omega⟩
    have hw : wrap64 ((pre.length : Int) + 1) = ((pre ++ [r]).length : Int) := by simp at hl; rw [w64 (by omega) (by omega)]; simp
    have e : pre ++ r :: rs = (pre ++ [r]) ++ rs := by simp
    have ih2 := ih (pre ++ [r]) k (by simp at hk; omega) (by simp at hl ⊢; omega)
    rw [← e] at ih2
    unfold bucket_Pick.l0
    rw [if_pos (by simp; omega), if_pos (by omega), if_pos (by simp; omega), rdT_mid, hw, pickI_cons]
    by_cases c1 : r.f0 ≤ x
    · rw [if_pos c1]
      by_cases c2 : x < r.f1
      · rw [if_pos c2, if_pos (by unfold inI; simp [c1, c2])]
      · rw [if_neg c2, if_neg (by unfold inI; simp [c2])]
        exact ih2
    · rw [if_neg c1, if_neg (by unfold inI; simp [c1])]
      exact ih2
theorem pick_ok {x : Int} {L : List S69} {k : Nat} (hk : L.length + 1 ≤ k) (hl : L.length ≤ 9223372036854775806) : bucket_Pick.f k L x = some (pickI L x) := by
  unfold bucket_Pick.f
  exact pick_l0 L [] k hk (by simpa using hl)
theorem mod_ok {x : Int} (h : -9223372036854775808 ≤ x) (h2 : x ≤ 9223372036854775807) : ∃ b : Nat, flagstonedraw_Mod.f x 10000 = some (b : Int) ∧ b < 10000 := by
  unfold flagstonedraw_Mod.f
  rw [if_neg (by omega)]
  have h3 : Int.tmod x 10000 < 10000 := Int.tmod_lt_of_pos _ (by omega)
  have h4 : -10000 < Int.tmod x 10000 := by
    have := Int.lt_tmod_of_pos x (show (0 : Int) < 10000 by omega)
    omega
  by_cases c : Int.tmod x 10000 < 0
  · rw [if_pos c, w64 (by omega) (by omega)]
    exact ⟨(Int.tmod x 10000 + 10000).toNat, by rw [Int.toNat_of_nonneg (by omega)], by omega⟩
  · rw [if_neg c]
    exact ⟨(Int.tmod x 10000).toNat, by rw [Int.toNat_of_nonneg (by omega)], by omega⟩
end Go.Proofs.YtefglphdiimhnaaDoor.Plain
