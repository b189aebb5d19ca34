import Derived.Test.YtefglphdiimhnaaDoorPD0
set_option linter.unusedVariables false
set_option linter.unusedSimpArgs false
namespace Go.Proofs.YtefglphdiimhnaaDoor.Plain
open Go Go.RowKit Go.Proofs.YtefglphdiimhnaaDoor.Q Go.Proofs.YtefglphdiimhnaaDoorW.PrintWords Go.Proofs.YtefglphdiimhnaaDoorW.PrintLast Go.Proofs.YtefglphdiimhnaaDoorW.PrintMore

def cap : Nat → Int
  | 0 => 10000
  | n + 1 => cap n + 10000
theorem cap_le {n : Nat} (h : n ≤ 8) : cap n ≤ 100000 := by
  rcases n with _ | _ | _ | _ | _ | _ | _ | _ | _ | n
  all_goals first | omega | decide
theorem check_over : ∀ (rs pre : List Int) (k : Nat) (s : Int), 10000 < s → s ≤ cap pre.length → rs.length + 1 ≤ k → pre.length + rs.length ≤ 8 →
    bucket_check.l0 k s (pre ++ rs) ((pre ++ rs).length : Int) (pre.length : Int) = some 3 := by
  intro rs
  induction rs with
  | nil =>
    intro pre k s h h2 hk hl
    obtain ⟨k, rfl⟩ : ∃ k', k = k' + 1 := ⟨k - 1, by omega⟩
    unfold bucket_check.l0
    rw [if_neg (by simp), if_neg (by omega)]
  | cons r rs ih =>
    intro pre k s h h2 hk hl
    obtain ⟨k, rfl⟩ : ∃ k', k = k' + 1 := ⟨k - 1, by simp at hk; omega⟩
    have hl2 : pre.length + (rs.length + 1) ≤ 8 := hl
    have hw : wrap64 ((pre.length : Int) + 1) = ((pre ++ [r]).length : Int) := by rw [w64 (by omega) (by omega)]; simp
    have hc := cap_le (n := pre.length) (by omega)
    unfold bucket_check.l0
    rw [if_pos (by simp; omega), if_pos (by omega), if_pos (by simp; omega), rd_mid]
    by_cases c1 : r < 0
    · rw [if_pos c1]
    · rw [if_neg c1]
      by_cases c2 : r > 10000
      · rw [if_pos c2]
      · have hw2 : wrap64 (s + r) = s + r := w64 (by omega) (by omega)
        rw [if_neg c2, hw, hw2]
        have e : pre ++ r :: rs = (pre ++ [r]) ++ rs := by simp
        rw [e]
        refine ih (pre ++ [r]) k (s + r) (by omega) ?_ (by simp at hk; omega) (by simp; omega)
        rw [List.length_append]
        show s + r ≤ cap pre.length + 10000
        omega
theorem check_both : ∀ (rs pre : List Int) (k : Nat) (s : Int), 0 ≤ s → s ≤ 10000 → rs.length + 1 ≤ k → pre.length + rs.length ≤ 8 → 
    ∃ e, bucket_check.l0 k s (pre ++ rs) ((pre ++ rs).length : Int) (pre.length : Int) = some e ∧ flagstoneref13_weights.l0 k (pre ++ rs) (10000 - s) (pre.length : Int) = some e ∧ (e = 0 → (∀ x ∈ rs, 0 ≤ x) ∧ s + sumL rs = 10000) := by
  intro rs
  induction rs with
  | nil =>
    intro pre k s h h2 hk hl
    obtain ⟨k, rfl⟩ : ∃ k', k = k' + 1 := ⟨k - 1, by omega⟩
    have A : bucket_check.l0 (k + 1) s (pre ++ []) ((pre ++ []).length : Int) (pre.length : Int) = if s = 10000 then some 0 else some 3 := by
      unfold bucket_check.l0
      rw [if_neg (by simp)]
    have B : flagstoneref13_weights.l0 (k + 1) (pre ++ []) (10000 - s) (pre.length : Int) = if 10000 - s = 0 then some 0 else some 3 := by
      unfold flagstoneref13_weights.l0
      rw [if_neg (by simp)]
    rw [A, B]
    by_cases c : s = 10000
    · rw [if_pos c, if_pos (by omega)]
      exact ⟨0, rfl, rfl, fun _ => ⟨by simp, by simp [sumL]; exact c⟩⟩
    · rw [if_neg c, if_neg (by omega)]
      exact ⟨3, rfl, rfl, fun h => by omega⟩
  | cons r rs ih =>
    intro pre k s h h2 hk hl
    obtain ⟨k, rfl⟩ : ∃ k', k = k' + 1 := ⟨k - 1, by simp at hk; omega⟩
    have hl2 : pre.length + (rs.length + 1) ≤ 8 := hl
    have hk2 : rs.length + 1 ≤ k := by simp at hk; omega
    have hw : wrap64 ((pre.length : Int) + 1) = ((pre ++ [r]).length : Int) := by rw [w64 (by omega) (by omega)]; simp
    have e : pre ++ r :: rs = (pre ++ [r]) ++ rs := by simp
    have A : bucket_check.l0 (k + 1) s (pre ++ r :: rs) ((pre ++ r :: rs).length : Int) (pre.length : Int) = if r < 0 then some 3 else if r > 10000 then some 3 else bucket_check.l0 k (wrap64 (s + r)) (pre ++ r :: rs) ((pre ++ r :: rs).length : Int) (wrap64 ((pre.length : Int) + 1)) := by
      show (if _ then _ else _) = _
      rw [if_pos (by simp; omega), if_pos (by omega), if_pos (by simp; omega), rd_mid]
    have B : flagstoneref13_weights.l0 (k + 1) (pre ++ r :: rs) (10000 - s) (pre.length : Int) = if r < 0 then some 3 else if r > 10000 - s then some 3 else flagstoneref13_weights.l0 k (pre ++ r :: rs) (wrap64 (10000 - s - r)) (wrap64 ((pre.length : Int) + 1)) := by
      show (if _ then _ else _) = _
      rw [if_pos (by simp; omega), if_pos (by omega), rd_mid]
    rw [A, B]
    clear A B
    by_cases c1 : r < 0
    · rw [if_pos c1, if_pos c1]
      exact ⟨3, rfl, rfl, fun h => by omega⟩
    · rw [if_neg c1, if_neg c1]
      by_cases c2 : r > 10000
      · rw [if_pos c2, if_pos (by omega)]
        exact ⟨3, rfl, rfl, fun h => by omega⟩
      · have hw2 : wrap64 (s + r) = s + r := w64 (by omega) (by omega)
        rw [if_neg c2, hw, hw2]
        by_cases c3 : r > 10000 - s
        · rw [if_pos c3, e, check_over rs (pre ++ [r]) k (s + r) (by omega) ?_ hk2 (by simp; omega)]
          · exact ⟨3, rfl, rfl, fun h => by omega⟩
          · rw [List.length_append]
            have : 10000 ≤ cap pre.length := by
              have : ∀ n, 10000 ≤ cap n := by
                intro n
                induction n with
                | zero => exact Int.le_refl _
                | succ n ih => show 10000 ≤ cap n + 10000; omega
              exact this _
            show s + r ≤ cap pre.length + 10000
            omega
        · have hw3 : wrap64 (10000 - s - r) = 10000 - (s + r) := by rw [w64 (by omega) (by omega)]; omega
          rw [if_neg c3, hw3, e]
          obtain ⟨e', g1, g2, g3⟩ := ih (pre ++ [r]) k (s + r) (by omega) (by omega) hk2 (by simp; omega)
          refine ⟨e', g1, g2, fun h => ⟨fun x hx => ?_, ?_⟩⟩
          · rcases List.mem_cons.1 hx with q | q
            · omega
            · exact (g3 h).1 x q
          · have := (g3 h).2
            rw [sumL_cons]
            omega
theorem check_any {xs : List Int} {k : Nat} (hk : 10 ≤ k) : ∃ e, bucket_check.f k xs = some e ∧ flagstoneref13_weights.f k xs = some e ∧ (e = 0 → xs.length ≤ 8 ∧ okW (xs.length : Int) xs) := by
  unfold bucket_check.f flagstoneref13_weights.f
  by_cases c : (xs.length : Int) > 8
  · rw [if_pos c, if_pos c]
    exact ⟨5, rfl, rfl, fun h => by omega⟩
  · rw [if_neg c, if_neg c]
    obtain ⟨e, g1, g2, g3⟩ := check_both xs [] k 0 (by omega) (by omega) (by omega) (by simp; omega)
    exact ⟨e, g1, g2, fun h => ⟨by omega, rfl, (g3 h).1, by have := (g3 h).2; omega⟩⟩

/-! ### The split out of weights -/
def fwL : List Int → Nat → Int → List S69
  | [], _, _ => []
  | x :: xs, i, fr => if x > 0 then ⟨fr, fr + x, (i : Int) + 1⟩ :: fwL xs (i + 1) (fr + x) else fwL xs (i + 1) fr
theorem from_both : ∀ (rs pre : List Int) (out : List S69) (fr : Int) (k : Nat), (∀ x ∈ rs, 0 ≤ x) → 0 ≤ fr → fr + sumL rs = 10000 → rs.length + 1 ≤ k → pre.length + rs.length ≤ 8 → out.length ≤ pre.length →
    bucket_FromWeights.l0 k out fr (pre ++ rs) ((pre ++ rs).length : Int) (pre.length : Int) = some (out ++ fwL rs pre.length fr, 0) ∧ flagstoneref13_FromWeights.l0 k (pre ++ rs) out fr (pre.length : Int) = some (out ++ fwL rs pre.length fr, 0) := by
  intro rs
  induction rs with
  | nil =>
    intro pre out fr k hp hf hs hk hl ho
    obtain ⟨k, rfl⟩ : ∃ k', k = k' + 1 := ⟨k - 1, by omega⟩
    refine ⟨?_, ?_⟩
    · unfold bucket_FromWeights.l0
      rw [if_neg (by simp)]
      simp [fwL]
    · unfold flagstoneref13_FromWeights.l0
      rw [if_neg (by simp)]
      simp [fwL]
  | cons r rs ih =>
    intro pre out fr k hp hf hs hk hl ho
    obtain ⟨k, rfl⟩ : ∃ k', k = k' + 1 := ⟨k - 1, by simp at hk; omega⟩
    have hl2 : pre.length + (rs.length + 1) ≤ 8 := hl
    have hk2 : rs.length + 1 ≤ k := by simp at hk; omega
    rw [sumL_cons] at hs
    have hr := hp r (by simp)
    have hrs := sumL_nn (a := rs) (fun x hx => hp x (by simp [hx]))
    have hw1 : wrap64 ((pre.length : Int) + 1) = (pre.length : Int) + 1 := w64 (by omega) (by omega)
    have hw2 : wrap64 (fr + r) = fr + r := w64 (by omega) (by omega)
    have hpl : (pre.length : Int) + 1 = ((pre ++ [r]).length : Int) := by simp
    have e : pre ++ r :: rs = (pre ++ [r]) ++ rs := by simp
    have A : bucket_FromWeights.l0 (k + 1) out fr (pre ++ r :: rs) ((pre ++ r :: rs).length : Int) (pre.length : Int) = if r > 0 then (if out.length < 5864062014805 then bucket_FromWeights.l0 k (out ++ [⟨fr, fr + r, (pre.length : Int) + 1⟩]) (fr + r) (pre ++ r :: rs) ((pre ++ r :: rs).length : Int) ((pre.length : Int) + 1) else none) else bucket_FromWeights.l0 k out (fr + r) (pre ++ r :: rs) ((pre ++ r :: rs).length : Int) ((pre.length : Int) + 1) := by
      show (if _ then _ else _) = _
      rw [if_pos (by simp; omega), if_pos (by omega), if_pos (by simp; omega), rd_mid, hw1, hw2]
    have B : flagstoneref13_FromWeights.l0 (k + 1) (pre ++ r :: rs) out fr (pre.length : Int) = if r > 0 then (if out.length < 5864062014805 then flagstoneref13_FromWeights.l0 k (pre ++ r :: rs) (out ++ [⟨fr, fr + r, (pre.length : Int) + 1⟩]) (fr + r) ((pre.length : Int) + 1) else none) else flagstoneref13_FromWeights.l0 k (pre ++ r :: rs) out fr ((pre.length : Int) + 1) := by
      show (if _ then _ else _) = _
      rw [if_pos (by simp; omega), if_pos (by omega), rd_mid, hw1, hw2]
    rw [A, B]
    clear A B
    by_cases c : r > 0
    · rw [if_pos c, if_pos c, if_pos (by omega), if_pos (by omega)]
      have := ih (pre ++ [r]) (out ++ [⟨fr, fr + r, (pre.length : Int) + 1⟩]) (fr + r) k (fun x hx => hp x (by simp [hx])) (by omega) (by omega) hk2 (by simp; omega) (by simp; omega)
      have ef : fwL (r :: rs) pre.length fr = ⟨fr, fr + r, (pre.length : Int) + 1⟩ :: fwL rs (pre.length + 1) (fr + r) := by
        show (if r > 0 then _ else _) = _
        rw [if_pos c]
      rw [ef, e, hpl]
      simpa using this
    · rw [if_neg c, if_neg c]
      have hr0 : r = 0 := by omega
      have := ih (pre ++ [r]) out fr k (fun x hx => hp x (by simp [hx])) (by omega) (by omega) hk2 (by simp; omega) (by simp; omega)
      have ef : fwL (r :: rs) pre.length fr = fwL rs (pre.length + 1) fr := by
        show (if r > 0 then _ else _) = _
        rw [if_neg c]
      rw [ef, e, hpl, show fr + r = fr by omega]
      simpa using this
theorem from_any {xs : List Int} {k : Nat} (hk : 10 ≤ k) : ∃ L e, bucket_FromWeights.f k xs = some (L, e) ∧ flagstoneref13_FromWeights.f k xs = some (L, e) ∧ L.length ≤ 100 ∧ (e = 0 → xs.length ≤ 8 ∧ okW (xs.length : Int) xs ∧ L = fwL xs 0 0) := by
  obtain ⟨e, g1, g2, g3⟩ := check_any (xs := xs) hk
  unfold bucket_FromWeights.f flagstoneref13_FromWeights.f
  rw [g1, g2, Option.bind_some, Option.bind_some]
  by_cases c : e = 0
  · obtain ⟨h1, h2, h3, h4⟩ := g3 c
    rw [if_pos c, if_pos c]
    obtain ⟨q1, q2⟩ := from_both xs [] [] 0 k h3 (by omega) (by omega) (by omega) (by simp; omega) (by simp)
    have hle : ∀ (ys : List Int) (i : Nat) (fr : Int), (fwL ys i fr).length ≤ ys.length := by
      intro ys
      induction ys with
      | nil => intro i fr; simp [fwL]
      | cons y ys ih =>
        intro i fr
        unfold fwL
        split
        · have := ih (i + 1) (fr + y); simp; omega
        · have := ih (i + 1) fr; simp; omega
    exact ⟨_, 0, q1, q2, by have := hle xs 0 0; simp; omega, fun _ => ⟨h1, ⟨h2, h3, h4⟩, rfl⟩⟩
  · rw [if_neg c, if_neg c]
    exact ⟨[], e, rfl, rfl, by simp, fun h => absurd h c⟩

theorem same_l0 (a : List S69) : ∀ (j i k : Nat), i + j = a.length → a.length ≤ 1000 → j + 1 ≤ k → flagstoneref6_SameRanges.l0 k a a (i : Int) = some true := by
  intro j
  induction j with
  | zero =>
    intro i k h hl hk
    obtain ⟨k, rfl⟩ : ∃ k', k = k' + 1 := ⟨k - 1, by omega⟩
    unfold flagstoneref6_SameRanges.l0
    rw [if_neg (by omega)]
  | succ j ih =>
    intro i k h hl hk
    obtain ⟨k, rfl⟩ : ∃ k', k = k' + 1 := ⟨k - 1, by omega⟩
    have hw : wrap64 ((i : Int) + 1) = ((i + 1 : Nat) : Int) := by rw [w64 (by omega) (by omega)]; omega
    unfold flagstoneref6_SameRanges.l0
    rw [if_pos (by omega), if_pos (by omega), if_pos (by omega), hw, if_neg (by simp)]
    exact ih (i + 1) k (by omega) hl (by omega)
theorem same_any {a : List S69} {k : Nat} (h : a.length ≤ 1000) (hk : a.length + 1 ≤ k) : flagstoneref6_SameRanges.f k a a = some true := by
  unfold flagstoneref6_SameRanges.f
  rw [if_pos rfl]
  exact same_l0 a a.length 0 k (by omega) h hk

/-! ### It has these weights -/
theorem cnt_add (f : Nat → Int) (v : Int) (m : Nat) : ∀ n, cnt f v (m + n) = cnt f v m + cnt (fun b => f (m + b)) v n
  | 0 => by simp [cnt]
  | n + 1 => by
    show cnt f v (m + n) + (if f (m + n) = v then 1 else 0) = cnt f v m + (cnt (fun b => f (m + b)) v n + if f (m + n) = v then 1 else 0)
    rw [cnt_add f v m n]
    omega
theorem cnt_const {f : Nat → Int} {u v : Int} : ∀ n, (∀ b, b < n → f b = u) → cnt f v n = if u = v then (n : Int) else 0
  | 0, _ => by simp [cnt]
  | n + 1, h => by
    unfold cnt
    rw [cnt_const n (fun b hb => h b (by omega)), h n (by omega)]
    split <;> omega
theorem fw_cnt {v : Int} : ∀ (xs : List Int) (i fr n : Nat), (∀ x ∈ xs, 0 ≤ x) → sumL xs = (n : Int) → cnt (fun b => pickL (fwL xs i (fr : Int)) (fr + b)) v n = if (i : Int) + 1 ≤ v ∧ v ≤ (i : Int) + xs.length then rd xs (v - i - 1) else 0
  | [], i, fr, n, _, hs => by
    have : n = 0 := by have : (0 : Int) = n := hs; omega
    subst this
    rw [if_neg (by simp; omega)]
    rfl
  | x :: xs, i, fr, n, hp, hs => by
    rw [sumL_cons] at hs
    have hx := hp x (by simp)
    have hnn := sumL_nn (a := xs) (fun y hy => hp y (by simp [hy]))
    obtain ⟨m, hm⟩ : ∃ m : Nat, x = (m : Int) := ⟨x.toNat, by omega⟩
    obtain ⟨q, hq⟩ : ∃ q : Nat, sumL xs = (q : Int) := ⟨(sumL xs).toNat, by omega⟩
    have hn : n = m + q := by omega
    have ih := fw_cnt (v := v) xs (i + 1) (fr + m) q (fun y hy => hp y (by simp [hy])) hq
    have e1 : ∀ b, b < m → pickL (fwL (x :: xs) i (fr : Int)) (fr + b) = (i : Int) + 1 := by
      intro b hb
      have : fwL (x :: xs) i (fr : Int) = ⟨(fr : Int), (fr : Int) + x, (i : Int) + 1⟩ :: fwL xs (i + 1) ((fr : Int) + x) := by show (if x > 0 then _ else _) = _; rw [if_pos (by omega)]
      rw [this, pickL_cons, if_pos (by unfold inR; simp; omega)]
    have e2 : ∀ b, pickL (fwL (x :: xs) i (fr : Int)) (fr + (m + b)) = pickL (fwL xs (i + 1) ((fr + m : Nat) : Int)) (fr + m + b) := by
      intro b
      by_cases c : x > 0
      · have : fwL (x :: xs) i (fr : Int) = ⟨(fr : Int), (fr : Int) + x, (i : Int) + 1⟩ :: fwL xs (i + 1) ((fr : Int) + x) := by show (if x > 0 then _ else _) = _; rw [if_pos c]
        rw [this, pickL_cons, if_neg (by unfold inR; simp; omega), hm, show (fr : Int) + (m : Int) = ((fr + m : Nat) : Int) by omega, Nat.add_assoc]
      · have : fwL (x :: xs) i (fr : Int) = fwL xs (i + 1) (fr : Int) := by show (if x > 0 then _ else _) = _; rw [if_neg c]
        have hm0 : m = 0 := by omega
        subst hm0
        rw [this]
        simp
    have e3 : cnt (fun b => pickL (fwL (x :: xs) i (fr : Int)) (fr + b)) v m = if (i : Int) + 1 = v then (m : Int) else 0 := cnt_const m e1
    have e4 : cnt (fun b => pickL (fwL (x :: xs) i (fr : Int)) (fr + (m + b))) v q = cnt (fun b => pickL (fwL xs (i + 1) ((fr + m : Nat) : Int)) (fr + m + b)) v q := cnt_congr q (fun b _ => e2 b)
    rw [hn, cnt_add, e3, e4, ih]
    have hcast : ((i + 1 : Nat) : Int) = (i : Int) + 1 := by omega
    rw [hcast]
    by_cases c1 : (i : Int) + 1 = v
    · rw [if_pos c1, if_neg (by omega), if_pos (by simp; omega), show v - i - 1 = 0 by omega]
      unfold rd
      simp
      omega
    · rw [if_neg c1]
      by_cases c2 : (i : Int) + 1 + 1 ≤ v ∧ v ≤ (i : Int) + 1 + xs.length
      · rw [if_pos c2, if_pos (by simp; omega)]
        unfold rd
        rw [show (v - (i : Int) - 1).toNat = (v - ((i : Int) + 1) - 1).toNat + 1 by omega]
        simp
      · rw [if_neg c2, if_neg (by simp; omega)]
        rfl
theorem weights_back {xs : List Int} (h8 : xs.length ≤ 8) (hW : okW (xs.length : Int) xs) : bucket_Weights.f (fwL xs 0 0) (xs.length : Int) = some xs := by
  obtain ⟨N, hN⟩ : ∃ N : Nat, N = 10000 := ⟨_, rfl⟩
  have hm : (min (max (xs.length : Int) 0) 8).toNat = xs.length := by omega
  have hp : (paintL (fwL xs 0 0)).length = N := by rw [hN]; simp [paintL]
  unfold bucket_Weights.f
  rw [hm, ← hN]
  refine congrArg some ?_
  have hl := wcount_len (paintL (fwL xs 0 0)) xs.length N (by omega)
  refine List.ext_getElem hl fun j h1 h2 => ?_
  have h3 := wcount_cnt (X := paintL (fwL xs 0 0)) (m := xs.length) (v := (j : Int) + 1) (by omega) (by omega) N (by omega)
  have h4 := fw_cnt (v := (j : Int) + 1) xs 0 0 N hW.2.1 (by rw [hN]; exact hW.2.2)
  have h5 : cnt (fun b => rd (paintL (fwL xs 0 0)) (b : Int)) ((j : Int) + 1) N = cnt (fun b => pickL (fwL xs 0 ((0 : Nat) : Int)) (0 + b)) ((j : Int) + 1) N := cnt_congr N (fun b hb => by
    show rd (paintL (fwL xs 0 0)) (b : Int) = pickL (fwL xs 0 ((0 : Nat) : Int)) (0 + b)
    rw [paint_rd (by omega), Nat.zero_add]; rfl)
  rw [h5, h4, if_pos (by simp; omega), show (j : Int) + 1 - 1 = (j : Int) by omega, show (j : Int) + 1 - ((0 : Nat) : Int) - 1 = (j : Int) by omega] at h3
  unfold rd at h3
  simpa [h1, h2] using h3
end Go.Proofs.YtefglphdiimhnaaDoor.Plain
