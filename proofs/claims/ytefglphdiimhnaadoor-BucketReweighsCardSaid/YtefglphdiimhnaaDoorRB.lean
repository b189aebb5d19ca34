import Derived.Test.YtefglphdiimhnaaDoorPE0
import Derived.Test.YtefglphdiimhnaaDoorPR
import Derived.Test.YtefglphdiimhnaaDoorPCK
set_option linter.unusedVariables false
set_option linter.unusedSimpArgs false
namespace Go.Proofs.YtefglphdiimhnaaDoor.Plain
open Go Go.RowKit Go.Proofs.YtefglphdiimhnaaDoor.Q Go.Proofs.YtefglphdiimhnaaDoorW.PrintWords Go.Proofs.YtefglphdiimhnaaDoorW.PrintLast Go.Proofs.YtefglphdiimhnaaDoorW.PrintMore
/-! ### Both looks at a split -/
theorem rdT_cons_prev (pre rs : List S69) (q r : S69) : rd_T69 ((pre ++ [q]) ++ r :: rs) (((pre ++ [q]).length : Int) - 1) = q := by
  unfold rd_T69
  rw [show ((((pre ++ [q]).length : Int) - 1).toNat) = pre.length by simp]
  simp
theorem okS_end {n : Int} : ∀ {rs : List S69} {fr la : Int}, okS n fr la rs → fr ≤ 10000
  | [], _, _, h => by have : _ = (10000 : Int) := h; omega
  | r :: rs, fr, la, h => by obtain ⟨h1, h2, h3, h4, _⟩ := h; omega
theorem split_both {n : Int} : ∀ (rs pre : List S69) (k : Nat) (p0 p1 p2 : Int), 2 * rs.length + 1 ≤ k → pre.length + rs.length ≤ 1000 → 0 ≤ p1 →
    ((pre = [] ∧ p2 = 0) ∨ ∃ pr q, pre = pr ++ [q] ∧ q.f2 = p2) →
    ∃ e, shape_Split.l0 k n (pre ++ rs) ((pre ++ rs).length : Int) (pre.length : Int) p0 p1 p2 = some e ∧ flagstoneref6_Split.l0 k (pre ++ rs) n p1 (pre.length : Int) = some e ∧ (e = 0 → okS n p1 p2 rs) := by
  intro rs
  induction rs with
  | nil =>
    intro pre k p0 p1 p2 hk hl hp hpre
    obtain ⟨k, rfl⟩ : ∃ k', k = k' + 1 := ⟨k - 1, by omega⟩
    unfold shape_Split.l0 flagstoneref6_Split.l0
    rw [if_neg (by simp), if_neg (by simp)]
    by_cases c : p1 = 10000
    · refine ⟨0, ?_, by rw [if_pos c], fun _ => c⟩
      rw [c]; rfl
    · have hb : (p1 != 10000) = true := by simpa using c
      refine ⟨3, ?_, by rw [if_neg c], fun h => by omega⟩
      rw [hb]; rfl
  | cons r rs ih =>
    intro pre k p0 p1 p2 hk hl hp hpre
    obtain ⟨k, rfl⟩ : ∃ k', k = k' + 2 := ⟨k - 2, by simp at hk; omega⟩
    have hw : wrap64 ((pre.length : Int) + 1) = ((pre ++ [r]).length : Int) := by simp at hl; rw [w64 (by omega) (by omega)]; simp
    unfold shape_Split.l0 flagstoneref6_Split.l0
    have q1 : (pre.length : Int) < ((pre ++ r :: rs).length : Int) := by simp; omega
    have q0 : 0 ≤ (pre.length : Int) := by omega
    simp only [if_pos q1, if_pos q0, rdT_mid]
    have hj : (if r.f2 < 1 then (shape_Split.j1 (k + 1) n (pre ++ r :: rs) ((pre ++ r :: rs).length : Int) (pre.length : Int) true p0 p1 p2 r.f0 r.f1 r.f2) else (shape_Split.j1 (k + 1) n (pre ++ r :: rs) ((pre ++ r :: rs).length : Int) (pre.length : Int) (decide (r.f2 > n)) p0 p1 p2 r.f0 r.f1 r.f2)) = shape_Split.j1 (k + 1) n (pre ++ r :: rs) ((pre ++ r :: rs).length : Int) (pre.length : Int) (decide (r.f2 < 1 ∨ r.f2 > n)) p0 p1 p2 r.f0 r.f1 r.f2 := by
      by_cases c : r.f2 < 1
      · rw [if_pos c, decide_eq_true (Or.inl c)]
      · rw [if_neg c]
        congr 1
        by_cases d : r.f2 > n
        · rw [decide_eq_true d, decide_eq_true (Or.inr d)]
        · rw [decide_eq_false d, decide_eq_false (by rintro (h | h) <;> omega)]
    have hj2 : (if r.f2 < 1 then (flagstoneref6_Split.j1 (k + 1) (pre ++ r :: rs) n p1 (pre.length : Int) true) else (flagstoneref6_Split.j1 (k + 1) (pre ++ r :: rs) n p1 (pre.length : Int) (decide (r.f2 > n)))) = flagstoneref6_Split.j1 (k + 1) (pre ++ r :: rs) n p1 (pre.length : Int) (decide (r.f2 < 1 ∨ r.f2 > n)) := by
      by_cases c : r.f2 < 1
      · rw [if_pos c, decide_eq_true (Or.inl c)]
      · rw [if_neg c]
        congr 1
        by_cases d : r.f2 > n
        · rw [decide_eq_true d, decide_eq_true (Or.inr d)]
        · rw [decide_eq_false d, decide_eq_false (by rintro (h | h) <;> omega)]
    rw [hj, hj2]
    clear hj hj2
    unfold shape_Split.j1 flagstoneref6_Split.j1
    by_cases c : r.f2 < 1 ∨ r.f2 > n
    · rw [decide_eq_true c, if_pos rfl, if_pos rfl]
      exact ⟨3, rfl, rfl, fun h => by omega⟩
    · simp only [decide_eq_false c, Bool.false_eq_true, if_false, if_pos q1, if_pos q0, rdT_mid]
      by_cases c0 : r.f0 = p1
      · simp only [if_pos c0]
        by_cases c1 : r.f1 ≤ p1
        · have c1' : r.f1 ≤ r.f0 := by omega
          simp only [if_pos c1, if_pos c1']
          exact ⟨9, rfl, rfl, fun h => by omega⟩
        · have c1' : ¬ r.f1 ≤ r.f0 := by omega
          simp only [if_neg c1, if_neg c1', hw]
          have e : pre ++ r :: rs = (pre ++ [r]) ++ rs := by simp
          have hi := ih (pre ++ [r]) k r.f0 r.f1 r.f2 (by simp at hk; omega) (by simp at hl ⊢; omega) (by omega) (.inr ⟨pre, r, rfl, rfl⟩)
          rw [← e] at hi
          obtain ⟨x, g1, g2, g3⟩ := hi
          have g3' : r.f2 ≠ p2 → x = 0 → okS n p1 p2 (r :: rs) := fun hne hx => by
            have h8 := g3 hx
            exact ⟨c0, by omega, by omega, okS_end h8, hne, by omega, by omega, h8⟩
          rcases hpre with ⟨rfl, rfl⟩ | ⟨pr, q, rfl, rfl⟩
          · have n2 : ¬ r.f2 = 0 := by omega
            have n3 : ¬ ((([] : List S69).length : Int) > 0) := by simp
            simp only [if_neg n2, if_neg n3]
            exact ⟨x, g1, g2, g3' (by omega)⟩
          · have hw1 : wrap64 (((pr ++ [q]).length : Int) - 1) = ((pr ++ [q]).length : Int) - 1 := by exact w64 (by omega) (by omega)
            have n3 : ((pr ++ [q]).length : Int) > 0 := by simp
            have n4 : 0 ≤ ((pr ++ [q]).length : Int) - 1 := by omega
            have n5 : ((pr ++ [q]).length : Int) - 1 < ((pr ++ [q] ++ r :: rs).length : Int) := by omega
            simp only [if_pos n3, hw1, if_pos n4, if_pos n5, rdT_cons_prev]
            by_cases c2 : r.f2 = q.f2
            · simp only [if_pos c2]
              exact ⟨9, rfl, rfl, fun h => by omega⟩
            · simp only [if_neg c2]
              exact ⟨x, g1, g2, g3' c2⟩
      · simp only [if_neg c0]
        exact ⟨9, rfl, rfl, fun h => by omega⟩
theorem split_any {n : Int} {L : List S69} {k : Nat} (hk : 40 ≤ k) : ∃ e, shape_Split.f k L n = some e ∧ flagstoneref6_Split.f k L n = some e ∧ (e = 0 → L.length ≤ 16 ∧ okS n 0 0 L) := by
  unfold shape_Split.f flagstoneref6_Split.f
  by_cases c : (L.length : Int) > 16
  · rw [if_pos c, if_pos c]
    exact ⟨5, rfl, rfl, fun h => by omega⟩
  · rw [if_neg c, if_neg c]
    obtain ⟨e, g1, g2, g3⟩ := split_both (n := n) L [] k 0 0 0 (by omega) (by simp; omega) (by omega) (.inl ⟨rfl, rfl⟩)
    exact ⟨e, g1, g2, fun h => ⟨by omega, g3 h⟩⟩

/-! ### The weighing anew, both texts -/
/-- What the one keeps in nine places the other keeps in n. -/
structure HR (n : Nat) (H C : List Int) : Prop where
  hl : H.length = 9
  cl : C.length = n
  e : ∀ v : Int, 1 ≤ v → v ≤ n → rd H v = rd C (v - 1)
theorem HR.put {n : Nat} {H C : List Int} (h : HR n H C) (h8 : n ≤ 8) {v x : Int} (h1 : 1 ≤ v) (h2 : v ≤ n) : HR n (H.set v.toNat x) (C.set (v - 1).toNat x) := by
  refine ⟨by simpa using h.hl, by simpa using h.cl, fun u g1 g2 => ?_⟩
  have := h.hl
  have := h.cl
  rw [rd_set (by omega), rd_set (by omega), h.e u g1 g2]
  by_cases c : u = v
  · rw [if_pos (by omega), if_pos (by omega)]
  · rw [if_neg (by omega), if_neg (by omega)]
theorem ph1_len {W : List Int} : ∀ (k : Nat) (H O H1 O1 : List Int), ph1 W k H O = some (H1, O1) → O1.length = O.length
  | 0, H, O, H1, O1, h => by
    have := Option.some.inj h
    simp only [Prod.mk.injEq] at this
    rw [this.2]
  | k + 1, H, O, H1, O1, h => by
    unfold ph1 at h
    split at h
    · split at h
      · rw [ph1_len k _ _ _ _ h]; simp
      · exact ph1_len k _ _ _ _ h
    · cases h
theorem ref_ph1 {n : Nat} {W : List Int} {r : Option (List S69 × Int)} {H1 O1 : List Int} {K : Nat} (h8 : n ≤ 8) (hW : W.length = n)
    (hT : ∀ C1, HR n H1 C1 → ∀ k, K ≤ k → flagstoneref13_Reweigh.l1 k W O1 C1 0 = r) :
    ∀ (b k : Nat) (H O C : List Int), ph1 W b H O = some (H1, O1) → HR n H C → (b : Int) ≤ (O.length : Int) → O.length ≤ 1000000 → K + b + 1 ≤ k → flagstoneref13_Reweigh.l0 k W O C ((b : Int) - 1) = r := by
  intro b
  induction b with
  | zero =>
    intro k H O C h hR hb hl hk
    obtain ⟨k, rfl⟩ : ∃ k', k = k' + 1 := ⟨k - 1, by omega⟩
    have := Option.some.inj h
    simp only [Prod.mk.injEq] at this
    obtain ⟨rfl, rfl⟩ := this
    unfold flagstoneref13_Reweigh.l0
    rw [if_neg (by omega)]
    exact hT C hR k (by omega)
  | succ b ih =>
    intro k H O C h hR hb hl hk
    obtain ⟨k, rfl⟩ : ∃ k', k = k' + 1 := ⟨k - 1, by omega⟩
    have e0 : ((b + 1 : Nat) : Int) - 1 = (b : Int) := by omega
    unfold ph1 at h
    have hc : 1 ≤ rd O b ∧ rd O b < 9 ∧ rd O b - 1 < (W.length : Int) ∧ 0 ≤ rd W (rd O b - 1) ∧ rd H (rd O b) ≤ 10000 := by
      apply Classical.byContradiction
      intro hn
      rw [if_neg hn] at h
      cases h
    rw [if_pos hc] at h
    obtain ⟨c1, c2, c3, c4, c5⟩ := hc
    have hcl := hR.cl
    have hv : rd H (rd O b) = rd C (rd O b - 1) := hR.e _ c1 (by omega)
    have hw1 : wrap64 (rd O (b : Int) - 1) = rd O b - 1 := w64 (by omega) (by omega)
    have hw2 : wrap64 ((b : Int) - 1) = (b : Int) - 1 := w64 (by omega) (by omega)
    unfold flagstoneref13_Reweigh.l0
    have q1 : (b : Int) ≥ 0 := by omega
    have q2 : 0 ≤ (b : Int) := by omega
    have q3 : (b : Int) < (O.length : Int) := by omega
    have q4 : 0 ≤ rd O (b : Int) - 1 := by omega
    have q5 : rd O (b : Int) - 1 < (C.length : Int) := by omega
    rw [e0]
    simp only [hw1, hw2, if_pos q1, if_pos q2, if_pos q3, if_pos q4, if_pos q5, if_pos c3]
    by_cases c : rd W (rd O b - 1) < rd H (rd O b)
    · rw [if_pos c] at h
      rw [hv] at c
      have c' : rd C (rd O b - 1) > rd W (rd O b - 1) := c
      have hw3 : wrap64 (rd C (rd O b - 1) - 1) = rd C (rd O b - 1) - 1 := w64 (by omega) (by omega)
      rw [if_pos c', hw3, show ((b : Int).toNat) = b by omega]
      rw [hv] at h
      exact ih k _ _ _ h (hR.put h8 c1 (by omega)) (by simp; omega) (by simpa using hl) (by omega)
    · rw [if_neg c] at h
      rw [hv] at c
      rw [if_neg (show ¬ rd C (rd O b - 1) > rd W (rd O b - 1) by omega)]
      exact ih k _ _ _ h hR (by omega) hl (by omega)

/-- The runs of the colours from b on, added. -/
def radd (O : List Int) : Nat → Nat → List S69 → List S69
  | 0, _, out => out
  | r + 1, b, out => radd O r (b + 1) (addR out (b : Int) (rd O (b : Int)))
theorem nextTo_full {w H : List Int} : ∀ {f : Nat} {t t' : Int}, nextTo w H f t = some t' → (∀ u : Int, t ≤ u → u < t' → rd w (u - 1) ≤ rd H u) ∧ 1 ≤ t' ∧ t' < 9 ∧ t' - 1 < (w.length : Int) ∧ rd H t' < rd w (t' - 1) ∧ rd w (t' - 1) ≤ 10000 ∧ 0 ≤ rd H t'
  | 0, _, _, h => by cases h
  | f + 1, t, t', h => by
    unfold nextTo at h
    split at h
    · rename_i hc
      split at h
      · rename_i hd
        obtain ⟨g1, g2⟩ := nextTo_full h
        refine ⟨fun u a b => ?_, g2⟩
        by_cases e : u = t
        · rw [e]; exact hd
        · exact g1 u (by omega) b
      · split at h
        · rename_i hd he
          obtain rfl := Option.some.inj h
          exact ⟨fun u a b => by omega, hc.1, hc.2.1, hc.2.2, by omega, he.1, he.2⟩
        · cases h
    · cases h
theorem ref_l2 {n : Nat} {W C O : List Int} {b : Nat} {t' : Int} {r : Option (List S69 × Int)} {K : Nat} (hn : n ≤ 8) (hW : W.length = n) (hC : C.length = n) (hb : b < O.length) (hl : O.length ≤ 1000000) (h0 : rd O (b : Int) = 0)
    (h1 : 1 ≤ t') (h2 : t' ≤ n) (hlt : rd C (t' - 1) < rd W (t' - 1)) (hub : rd W (t' - 1) ≤ 10000) (hlb : 0 ≤ rd C (t' - 1)) (hfull : ∀ u : Int, 1 ≤ u → u < t' → rd W (u - 1) ≤ rd C (u - 1))
    (hT : ∀ k, K ≤ k → flagstoneref13_Reweigh.l1 k W (O.set b t') (C.set (t' - 1).toNat (rd C (t' - 1) + 1)) ((b : Int) + 1) = r) :
    ∀ (j k : Nat) (x : Int), 0 ≤ x → x + j = t' - 1 → K + 2 * j + 4 ≤ k → flagstoneref13_Reweigh.l2 k W O C (b : Int) x = r := by
  intro j
  have hwb : wrap64 ((b : Int) + 1) = (b : Int) + 1 := w64 (by omega) (by omega)
  have q2 : 0 ≤ (b : Int) := by omega
  have q3 : (b : Int) < (O.length : Int) := by omega
  have hbeq : ((rd O (b : Int)) == 0) = true := by rw [h0]; rfl
  induction j with
  | zero =>
    intro k x hx0 hx hk
    obtain ⟨k, rfl⟩ : ∃ k', k = k' + 4 := ⟨k - 4, by omega⟩
    obtain rfl : x = t' - 1 := by omega
    have g1 : t' - 1 < (W.length : Int) := by omega
    have g2 : 0 ≤ t' - 1 := by omega
    have g3 : t' - 1 < (C.length : Int) := by omega
    have w1 : wrap64 (t' - 1 + 1) = t' := by rw [w64 (by omega) (by omega)]; omega
    have w2 : wrap64 (rd C (t' - 1) + 1) = rd C (t' - 1) + 1 := w64 (by omega) (by omega)
    unfold flagstoneref13_Reweigh.l2
    simp only [if_pos g1, if_pos q2, if_pos q3, hbeq]
    unfold flagstoneref13_Reweigh.j3
    simp only [if_true, if_pos g1, if_pos g2, if_pos g3, if_pos hlt, if_pos q2, if_pos q3, w1, w2, show ((b : Int).toNat) = b by omega]
    unfold flagstoneref13_Reweigh.l2
    have hs : ((rd (O.set b t') (b : Int)) == 0) = false := by
      rw [rd_set_nat hb, if_pos rfl]
      simp; omega
    have q4 : (b : Int) < ((O.set b t').length : Int) := by simp; omega
    have hj3 : flagstoneref13_Reweigh.j3 (k + 1) W (O.set b t') (C.set (t' - 1).toNat (rd C (t' - 1) + 1)) (b : Int) t' false = r := by
      unfold flagstoneref13_Reweigh.j3
      rw [if_neg (by decide), hwb]
      exact hT k (by omega)
    by_cases g4 : t' < (W.length : Int)
    · simp only [if_pos g4, if_pos q2, if_pos q4, hs]
      exact hj3
    · simp only [if_neg g4]
      exact hj3
  | succ j ih =>
    intro k x hx0 hx hk
    obtain ⟨k, rfl⟩ : ∃ k', k = k' + 2 := ⟨k - 2, by omega⟩
    have g1 : x < (W.length : Int) := by omega
    have g3 : x < (C.length : Int) := by omega
    have w1 : wrap64 (x + 1) = x + 1 := w64 (by omega) (by omega)
    have hf : ¬ rd C x < rd W x := by
      have := hfull (x + 1) (by omega) (by omega)
      rw [show x + 1 - 1 = x by omega] at this
      omega
    unfold flagstoneref13_Reweigh.l2
    simp only [if_pos g1, if_pos q2, if_pos q3, hbeq]
    unfold flagstoneref13_Reweigh.j3
    simp only [if_true, if_pos g1, if_pos hx0, if_pos g3, if_neg hf, w1]
    exact ih k (x + 1) (by omega) (by omega) (by omega)
theorem ref_ph2 {n : Nat} {W : List Int} {F : Nat → List Int → Option (List S69 × Int)} (hn1 : 1 ≤ n) (hn : n ≤ 8) (hW : W.length = n)
    (hF : ∀ k O C, flagstoneref13_Reweigh.l1 (k + 1) W O C 10000 = F k O) :
    ∀ (r b : Nat) (t : Int) (H O C : List Int) (out out2 : List S69), b + r = 10000 → ph2 W r b t H O out = some out2 → HR n H C → O.length = 10000 → 1 ≤ t → (∀ u : Int, 1 ≤ u → u < t → rd W (u - 1) ≤ rd H u) →
    ∃ O2 : List Int, O2.length = 10000 ∧ (∀ j : Nat, j < b → rd O2 (j : Int) = rd O (j : Int)) ∧ out2 = radd O2 r b out ∧
      ∀ (x : Option (List S69 × Int)) (K : Nat), (∀ k, K ≤ k → F k O2 = x) → ∀ k, K + 30 * r + 1 ≤ k → flagstoneref13_Reweigh.l1 k W O C (b : Int) = x := by
  intro r
  induction r with
  | zero =>
    intro b t H O C out out2 hb h hR hO ht hfull
    obtain rfl := Option.some.inj h
    refine ⟨O, hO, fun _ _ => rfl, rfl, fun x K hx k hk => ?_⟩
    obtain ⟨k, rfl⟩ : ∃ k', k = k' + 1 := ⟨k - 1, by omega⟩
    rw [show ((b : Int)) = 10000 by omega, hF k O C]
    exact hx k (by omega)
  | succ r ih =>
    intro b t H O C out out2 hb h hR hO ht hfull
    have hwb : wrap64 ((b : Int) + 1) = (b : Int) + 1 := w64 (by omega) (by omega)
    have q1 : (b : Int) < 10000 := by omega
    have q2 : 0 ≤ (b : Int) := by omega
    have q3 : (b : Int) < (O.length : Int) := by omega
    have hcl := hR.cl
    have e1 : ((b + 1 : Nat) : Int) = (b : Int) + 1 := by omega
    unfold ph2 at h
    by_cases c : rd O (b : Int) = 0
    · rw [if_pos c] at h
      obtain ⟨t', hn2, h⟩ := Option.bind_eq_some_iff.1 h
      obtain ⟨g1, g2, g3, g4, g5, g6, g7⟩ := nextTo_full hn2
      have hle := nextTo_le hn2
      have hv : rd H t' = rd C (t' - 1) := hR.e _ g2 (by omega)
      have hR2 : HR n (H.set t'.toNat (rd H t' + 1)) (C.set (t' - 1).toNat (rd C (t' - 1) + 1)) := by rw [hv]; exact hR.put hn g2 (by omega)
      have hHl := hR.hl
      obtain ⟨O2, o1, o2, o3, o4⟩ := ih (b + 1) t' _ _ _ _ out2 (by omega) h hR2 (by simpa using hO) g2 (fun u a d => by
        rw [rd_set (by omega), if_neg (by omega)]
        by_cases e : u < t
        · exact hfull u a e
        · exact g1 u (by omega) d)
      have hb2 : rd O2 (b : Int) = t' := by rw [o2 b (by omega), rd_set_nat (by omega), if_pos rfl]
      refine ⟨O2, o1, fun j hj => ?_, ?_, fun x K hx k hk => ?_⟩
      · rw [o2 j (by omega), rd_set_nat (by omega), if_neg (by omega)]
      · rw [o3]
        show _ = radd O2 r (b + 1) (addR out (b : Int) (rd O2 (b : Int)))
        rw [hb2]
      · obtain ⟨k, rfl⟩ : ∃ k', k = k' + 1 := ⟨k - 1, by omega⟩
        unfold flagstoneref13_Reweigh.l1
        rw [if_pos q1]
        refine ref_l2 (K := K + 30 * r + 1) hn hW hcl (by omega) (by omega) c g2 (by omega) (by omega) g6 (by omega) (fun u a d => ?_) (fun k' hk' => ?_) (t' - 1).toNat k 0 (by omega) (by omega) (by omega)
        · rw [← hR.e u a (by omega)]
          by_cases e : u < t
          · exact hfull u a e
          · exact g1 u (by omega) d
        · have := o4 x K hx k' hk'
          rw [e1] at this
          exact this
    · rw [if_neg c] at h
      obtain ⟨O2, o1, o2, o3, o4⟩ := ih (b + 1) t _ _ _ _ out2 (by omega) h hR hO ht hfull
      have hb2 : rd O2 (b : Int) = rd O (b : Int) := o2 b (by omega)
      refine ⟨O2, o1, fun j hj => o2 j (by omega), ?_, fun x K hx k hk => ?_⟩
      · rw [o3]
        show _ = radd O2 r (b + 1) (addR out (b : Int) (rd O2 (b : Int)))
        rw [hb2]
      · obtain ⟨k, rfl⟩ : ∃ k', k = k' + 3 := ⟨k - 3, by omega⟩
        have hbeq : ((rd O (b : Int)) == 0) = false := by simpa using c
        have g1 : (0 : Int) < (W.length : Int) := by omega
        unfold flagstoneref13_Reweigh.l1
        rw [if_pos q1]
        unfold flagstoneref13_Reweigh.l2
        simp only [if_pos g1, if_pos q2, if_pos q3, hbeq]
        unfold flagstoneref13_Reweigh.j3
        rw [if_neg (by decide), hwb]
        have := o4 x K hx k (by omega)
        rw [e1] at this
        exact this
theorem ranges_l0 {O : List Int} (hO : O.length = 10000) : ∀ (r b k : Nat) (out : List S69), b + r = 10000 → out.length ≤ b → r + 1 ≤ k → flagstoneref13_Ranges.l0 k O out (b : Int) = some (radd O r b out) := by
  intro r
  induction r with
  | zero =>
    intro b k out hb ho hk
    obtain ⟨k, rfl⟩ : ∃ k', k = k' + 1 := ⟨k - 1, by omega⟩
    unfold flagstoneref13_Ranges.l0
    rw [if_neg (by omega)]
    rfl
  | succ r ih =>
    intro b k out hb ho hk
    obtain ⟨k, rfl⟩ : ∃ k', k = k' + 1 := ⟨k - 1, by omega⟩
    have q1 : (b : Int) < (O.length : Int) := by omega
    have q2 : 0 ≤ (b : Int) := by omega
    have q3 : out.length < 5864062014805 := by omega
    have hwb : wrap64 ((b : Int) + 1) = (b : Int) + 1 := w64 (by omega) (by omega)
    have e1 : ((b + 1 : Nat) : Int) = (b : Int) + 1 := by omega
    have hi := ih (b + 1) k (addR out (b : Int) (rd O (b : Int))) (by omega) (by have := addR_len out (b : Int) (rd O (b : Int)); omega) (by omega)
    rw [e1] at hi
    show _ = some (radd O r (b + 1) (addR out (b : Int) (rd O (b : Int))))
    refine Eq.trans ?_ hi
    rw [flagstoneref13_Ranges.l0]
    by_cases c : (out.length : Int) > 0
    · have hw : wrap64 ((out.length : Int) - 1) = (out.length : Int) - 1 := w64 (by omega) (by omega)
      have q4 : 0 ≤ (out.length : Int) - 1 := by omega
      have q5 : (out.length : Int) - 1 < (out.length : Int) := by omega
      simp only [if_pos q1, if_pos c, hw, if_pos q4, if_pos q5, if_pos q2, if_pos q3, hwb]
      by_cases d : (rd_T69 out ((out.length : Int) - 1)).f2 = rd O (b : Int)
      · have e : addR out (b : Int) (rd O (b : Int)) = out.set (out.length - 1) ⟨(rd_T69 out ((out.length : Int) - 1)).f0, (b : Int) + 1, (rd_T69 out ((out.length : Int) - 1)).f2⟩ := by
          unfold addR
          rw [if_pos ⟨by omega, d⟩]
        rw [if_pos d, e, show ((out.length : Int) - 1).toNat = out.length - 1 by omega]
      · rw [if_neg d, addR_new (fun h => d h.2)]
    · simp only [if_pos q1, if_neg c, if_pos q2, if_pos q3, hwb]
      rw [addR_new (fun h => c (by omega))]
set_option maxRecDepth 100000 in
theorem reweigh_both {L : List S69} {W : List Int} {k : Nat} (hk : 400000 ≤ k) :
    ∃ R e, bucket_Reweigh.f k L W = some (R, e) ∧ flagstoneref13_Reweigh.f k L W = some (R, e) ∧ R.length ≤ 16 := by
  unfold bucket_Reweigh.f flagstoneref13_Reweigh.f
  obtain ⟨e1, g1, g2, g3⟩ := split_any (n := (W.length : Int)) (L := L) (k := k) (by omega)
  rw [g1, g2, Option.bind_some, Option.bind_some]
  refine (Decidable.em (e1 = 0)).elim (fun c1 => ?_) (fun c1 => by
    rw [if_neg c1, if_neg c1]
    exact ⟨_, _, rfl, rfl, by simp⟩)
  obtain ⟨hL, hS⟩ := g3 c1
  rw [if_pos c1, if_pos c1]
  obtain ⟨e2, g4, g5, g6⟩ := check_any (xs := W) (k := k) (by omega)
  rw [g4, g5, Option.bind_some, Option.bind_some]
  refine (Decidable.em (e2 = 0)).elim (fun c2 => ?_) (fun c2 => by
    rw [if_neg c2, if_neg c2]
    exact ⟨_, _, rfl, rfl, by simp⟩)
  obtain ⟨h8, hW⟩ := g6 c2
  rw [if_pos c2, if_pos c2]
  have h1 : 1 ≤ W.length := by
    have := hW.2.2
    rcases W with _ | ⟨x, W⟩
    · have h0 : sumL [] = 0 := rfl
      omega
    · simp
  obtain ⟨N, hN, f2, r1, r2, -, -⟩ := rwA_ok h1 h8 hS hW
  have hA := all_ok (L := L) (k := k) (by omega) (by omega)
  have hm : (mx 0 (mn (W.length : Int) 8)).toNat = W.length := by unfold mx mn; repeat' split <;> omega
  have hC := refweights_ok (L := L) (k := k) (n := (W.length : Int)) (by omega) (by omega)
  rw [hm] at hC
  rw [hA, Option.bind_some, hC, Option.bind_some]
  obtain ⟨x, hx⟩ : ∃ x, rwA L W = some x := by rw [r1]; split <;> exact ⟨_, rfl⟩
  have hx2 := hx
  unfold rwA at hx
  rw [show min W.length 8 = W.length by omega] at hx
  obtain ⟨⟨H1, O1⟩, p1, hx⟩ := Option.bind_eq_some_iff.1 hx
  obtain ⟨out, p2, hx⟩ := Option.bind_eq_some_iff.1 hx
  have hp : (paintL L).length = 10000 := by simp [paintL]
  have hcl : (wcount (paintL L) W.length 10000).length = W.length := wcount_len _ _ _ (by rw [hp]; exact Nat.le_refl _)
  have hR : HR W.length (hasL (wcount (paintL L) W.length 10000) W.length) (wcount (paintL L) W.length 10000) := ⟨hasL_len _ _, hcl, fun v a b => hasL_rd a (by omega) h8⟩
  have hO1 : O1.length = 10000 := (ph1_len _ _ _ _ _ p1).trans hp
  let F : Nat → List Int → Option (List S69 × Int) := fun k O => (flagstoneref13_Ranges.f k O).bind fun t265 => (if (t265.length : Int) > 16 then (some (([] : List S69), 19)) else (some (t265, 0)))
  have hF : ∀ k O C, flagstoneref13_Reweigh.l1 (k + 1) W O C 10000 = F k O := fun k O C => by
    rw [flagstoneref13_Reweigh.l1, if_neg (by omega)]
  have key : ∀ k, 300000 + 10000 + 10001 + 5 ≤ k → flagstoneref13_Reweigh.l0 k W (paintL L) (wcount (paintL L) W.length 10000) 9999 = some x := by
    intro k hk
    have := ref_ph1 (r := some x) (K := 310003) h8 rfl (fun C1 hC1 k' hk' => ?_) 10000 k _ (paintL L) _ p1 hR (by rw [hp]; omega) (by omega) (by omega)
    · exact this
    · obtain ⟨O2, o1, o2, o3, o4⟩ := ref_ph2 (F := F) h1 h8 rfl hF 10000 0 1 H1 O1 C1 [] out (by omega) p2 hC1 hO1 (by omega) (fun u a b => by omega)
      refine o4 (some x) 10002 (fun k2 hk2 => ?_) k' (by omega)
      show (flagstoneref13_Ranges.f k2 O2).bind _ = some x
      have hr := ranges_l0 o1 10000 0 k2 [] (by omega) (by simp) (by omega)
      have hrf : flagstoneref13_Ranges.f k2 O2 = some out := by
        rw [o3]
        exact hr
      rw [hrf, Option.bind_some, ← hx]
      by_cases c : out.length > 16
      · rw [if_pos c, if_pos (by omega)]
      · rw [if_neg c, if_neg (by omega)]
  refine ⟨x.1, x.2, hx2, key k (by omega), ?_⟩
  by_cases c : out.length > 16
  · rw [if_pos c] at hx
    rw [← Option.some.inj hx]
    simp
  · rw [if_neg c] at hx
    rw [← Option.some.inj hx]
    show out.length ≤ 16
    omega
end Go.Proofs.YtefglphdiimhnaaDoor.Plain
