import Derived.Test.YtefglphdiimhnaaDoorP0
set_option linter.unusedVariables false
set_option linter.unusedSimpArgs false
namespace Go.Proofs.YtefglphdiimhnaaDoor.Plain
open Go Go.RowKit Go.Proofs.YtefglphdiimhnaaDoor.Q Go.Proofs.YtefglphdiimhnaaDoorW.PrintWords Go.Proofs.YtefglphdiimhnaaDoorW.PrintLast Go.Proofs.YtefglphdiimhnaaDoorW.PrintMore
theorem rdT_mid (pre rs : List S69) (r : S69) : rd_T69 (pre ++ r :: rs) (pre.length : Int) = r := by
  unfold rd_T69
  simp
theorem rd_mid (pre rs : List Int) (r : Int) : rd (pre ++ r :: rs) (pre.length : Int) = r := by
  unfold rd
  simp

/-! ### The checks -/
theorem shape_l0 {n : Int} : ∀ (rs pre : List S69) (k : Nat) (p0 p1 p2 : Int), okS n p1 p2 rs → 2 * rs.length + 1 ≤ k → pre.length + rs.length ≤ 1000 →
    shape_Split.l0 k n (pre ++ rs) ((pre ++ rs).length : Int) (pre.length : Int) p0 p1 p2 = some 0 := by
  intro rs
  induction rs with
  | nil =>
    intro pre k p0 p1 p2 h hk hl
    obtain ⟨k, rfl⟩ : ∃ k', k = k' + 1 := ⟨k - 1, by omega⟩
    have h1 : p1 = 10000 := h
    unfold shape_Split.l0
    rw [if_neg (by simp), h1]
    rfl
  | cons r rs ih =>
    intro pre k p0 p1 p2 h hk hl
    obtain ⟨k, rfl⟩ : ∃ k', k = k' + 2 := ⟨k - 2, by simp at hk; omega⟩
    obtain ⟨h1, h2, h3, h4, h5, h6, h7, h8⟩ := h
    have hw : wrap64 ((pre.length : Int) + 1) = ((pre ++ [r]).length : Int) := by simp at hl; rw [w64 (by omega) (by omega)]; simp
    unfold shape_Split.l0
    rw [if_pos (by simp; omega), if_pos (by omega), if_pos (by simp; omega), rdT_mid, if_neg (by omega), decide_eq_false (by omega : ¬ r.f2 > n)]
    unfold shape_Split.j1
    rw [if_neg (by decide), if_pos (by omega), if_neg (by omega), if_neg h5, hw]
    have e : pre ++ r :: rs = (pre ++ [r]) ++ rs := by simp
    rw [e]
    exact ih (pre ++ [r]) k r.f0 r.f1 r.f2 h8 (by simp at hk; omega) (by simp at hl ⊢; omega)
theorem shape_ok {n : Int} {L : List S69} {k : Nat} (h : okS n 0 0 L) (hl : L.length ≤ 16) (hk : 33 ≤ k) : shape_Split.f k L n = some 0 := by
  unfold shape_Split.f
  rw [if_neg (by omega)]
  exact shape_l0 L [] k 0 0 0 h (by omega) (by simp; omega)

theorem check_l0 : ∀ (rs pre : List Int) (k : Nat) (s : Int), (∀ x ∈ rs, 0 ≤ x) → s + sumL rs = 10000 → 0 ≤ s → rs.length + 1 ≤ k → pre.length + rs.length ≤ 1000 →
    bucket_check.l0 k s (pre ++ rs) ((pre ++ rs).length : Int) (pre.length : Int) = some 0 := by
  intro rs
  induction rs with
  | nil =>
    intro pre k s _ h hs hk hl
    obtain ⟨k, rfl⟩ : ∃ k', k = k' + 1 := ⟨k - 1, by omega⟩
    have h1 : s = 10000 := by simpa [sumL] using h
    unfold bucket_check.l0
    rw [if_neg (by simp), if_pos h1]
  | cons r rs ih =>
    intro pre k s hp h hs hk hl
    obtain ⟨k, rfl⟩ : ∃ k', k = k' + 1 := ⟨k - 1, by simp at hk; omega⟩
    rw [sumL_cons] at h
    have hr := hp r (by simp)
    have hrs := sumL_nn (a := rs) (fun x hx => hp x (by simp [hx]))
    have hw : wrap64 ((pre.length : Int) + 1) = ((pre ++ [r]).length : Int) := by simp at hl; rw [w64 (by omega) (by omega)]; simp
    have hw2 : wrap64 (s + r) = s + r := w64 (by omega) (by omega)
    unfold bucket_check.l0
    rw [if_pos (by simp; omega), if_pos (by omega), if_pos (by simp; omega), rd_mid, if_neg (by omega), if_neg (by omega), hw, hw2]
    have e : pre ++ r :: rs = (pre ++ [r]) ++ rs := by simp
    rw [e]
    exact ih (pre ++ [r]) k (s + r) (fun x hx => hp x (by simp [hx])) (by omega) (by omega) (by simp at hk; omega) (by simp at hl ⊢; omega)
theorem check_ok {n : Int} {W : List Int} {k : Nat} (h : okW n W) (hn : n ≤ 8) (hk : 9 ≤ k) : bucket_check.f k W = some 0 := by
  obtain ⟨h1, h2, h3⟩ := h
  unfold bucket_check.f
  rw [if_neg (by omega)]
  exact check_l0 W [] k 0 h2 (by omega) (by omega) (by omega) (by simp; omega)

/-! ### The colours -/
theorem pickL_cons (r : S69) (rs : List S69) (b : Nat) : pickL (r :: rs) b = if inR r b = true then r.f2 else pickL rs b := by
  unfold pickL
  rw [List.find?_cons]
  by_cases h : inR r b = true
  · rw [h]; rfl
  · rw [Bool.eq_false_iff.mpr h]; simp
theorem outOk_paint {O : List Int} {L : List S69} (h : OutOk O (pickL L)) : O = paintL L := by
  obtain ⟨h1, h2⟩ := h
  refine List.ext_getElem (by rw [h1]; simp [paintL]) fun i hi hj => ?_
  have := h2 i (by omega)
  rw [List.getD_eq_getElem?_getD, List.getElem?_eq_getElem hi] at this
  simpa [paintL] using this
theorem outOk_congr {O : List Int} {f g : Nat → Int} (h : OutOk O f) (e : ∀ b, b < 10000 → f b = g b) : OutOk O g := ⟨h.1, fun b hb => (h.2 b hb).trans (e b hb)⟩
theorem outOk_set {O : List Int} {f : Nat → Int} (h : OutOk O f) (j : Nat) (v : Int) : OutOk (O.set j v) (fun b => if b = j then v else f b) := by
  refine ⟨by rw [List.length_set]; exact h.1, fun b hb => ?_⟩
  by_cases e : b = j
  · subst e
    simp [h.1, hb]
  · show (O.set j v).getD b 0 = if b = j then v else f b
    rw [if_neg e, ← h.2 b hb]
    simp [List.getElem?_set, Ne.symm e]
theorem outOk_zero : OutOk (List.replicate 10000 (0 : Int)) (pickL []) := by
  refine ⟨List.length_replicate, fun b hb => ?_⟩
  rw [List.getD_eq_getElem?_getD, List.getElem?_replicate, if_pos hb]
  rfl

/-! ### The counts -/
theorem wcount_succ {X : List Int} {m k : Nat} (hk : k < X.length) : wcount X m (k + 1) = wstep (wcount X m k) X[k] := by
  unfold wcount
  rw [← List.take_append_getElem hk, List.foldl_append]
  rfl
theorem wstep_len (o : List Int) (v : Int) : (wstep o v).length = o.length := by unfold wstep; split <;> simp
theorem wcount_len (X : List Int) (m : Nat) : ∀ k, k ≤ X.length → (wcount X m k).length = m
  | 0, _ => by simp [wcount]
  | k + 1, h => by rw [wcount_succ (by omega), wstep_len, wcount_len X m k (by omega)]
theorem wcount_le (X : List Int) (m : Nat) : ∀ k, k ≤ X.length → ∀ i, 0 ≤ (wcount X m k).getD i 0 ∧ (wcount X m k).getD i 0 ≤ (k : Int)
  | 0, _, i => by
    unfold wcount
    simp only [List.take_zero, List.foldl_nil, List.getD_eq_getElem?_getD, List.getElem?_replicate]
    split <;> simp
  | k + 1, h, i => by
    have ih := wcount_le X m k (by omega)
    rw [wcount_succ (by omega)]
    unfold wstep
    split
    · generalize (X[k] - 1).toNat = q
      by_cases e : q = i
      · subst e
        have := ih q
        simp only [List.getD_eq_getElem?_getD, List.getElem?_set, if_pos] at this ⊢
        split <;> simp <;> omega
      · have := ih i
        simp only [List.getD_eq_getElem?_getD, List.getElem?_set, if_neg e] at this ⊢
        omega
    · have := ih i
      omega
/-! ### The pick -/
def inI (r : S69) (x : Int) : Bool := decide (r.f0 ≤ x) && decide (x < r.f1)
def pickI (l : List S69) (x : Int) : Int := match l.find? (inI · x) with | some r => r.f2 | none => 0
theorem pickI_nat (l : List S69) (b : Nat) : pickI l (b : Int) = pickL l b := rfl
theorem pickI_cons (r : S69) (rs : List S69) (b : Int) : pickI (r :: rs) b = if inI r b = true then r.f2 else pickI rs b := by
  unfold pickI
  rw [List.find?_cons]
  by_cases h : inI r b = true
  · rw [h]; rfl
  · rw [Bool.eq_false_iff.mpr h]; simp
end Go.Proofs.YtefglphdiimhnaaDoor.Plain
