import Derived.Test.YtefglphdiimhnaaDoorPC0
set_option linter.unusedVariables false
set_option linter.unusedSimpArgs false
namespace Go.Proofs.YtefglphdiimhnaaDoor.Plain
open Go Go.RowKit Go.Proofs.YtefglphdiimhnaaDoor.Q Go.Proofs.YtefglphdiimhnaaDoorW.PrintWords Go.Proofs.YtefglphdiimhnaaDoorW.PrintLast Go.Proofs.YtefglphdiimhnaaDoorW.PrintMore

/-! ### Counting -/
def cnt (f : Nat → Int) (v : Int) : Nat → Int
  | 0 => 0
  | k + 1 => cnt f v k + if f k = v then 1 else 0
def sv (h : Int → Int) : Nat → Int
  | 0 => 0
  | k + 1 => sv h k + h ((k : Int) + 1)
theorem cnt_nn (f : Nat → Int) (v : Int) : ∀ k, 0 ≤ cnt f v k ∧ cnt f v k ≤ k
  | 0 => by simp [cnt]
  | k + 1 => by have := cnt_nn f v k; unfold cnt; split <;> omega
theorem cnt_congr {f g : Nat → Int} {v : Int} : ∀ k, (∀ b, b < k → f b = g b) → cnt f v k = cnt g v k
  | 0, _ => rfl
  | k + 1, h => by unfold cnt; rw [cnt_congr k (fun b hb => h b (by omega)), h k (by omega)]
theorem cnt_change {f g : Nat → Int} {v : Int} {i : Nat} (h : ∀ b, b ≠ i → g b = f b) : ∀ k, cnt g v k = cnt f v k + if i < k then ((if g i = v then 1 else 0) - if f i = v then 1 else 0) else 0
  | 0 => by simp [cnt]
  | k + 1 => by
    unfold cnt
    rw [cnt_change h k]
    by_cases e : k = i
    · subst e
      rw [if_neg (show ¬ k < k by omega), if_pos (show k < k + 1 by omega)]
      omega
    · rw [h k e]
      by_cases c : i < k
      · rw [if_pos c, if_pos (show i < k + 1 by omega)]
        omega
      · rw [if_neg c, if_neg (show ¬ i < k + 1 by omega)]
        omega
theorem cnt_pos {f : Nat → Int} {v : Int} : ∀ k, 0 < cnt f v k → ∃ b, b < k ∧ f b = v
  | 0, h => by simp [cnt] at h
  | k + 1, h => by
    unfold cnt at h
    by_cases c : f k = v
    · exact ⟨k, by omega, c⟩
    · rw [if_neg c] at h
      obtain ⟨b, hb, e⟩ := cnt_pos (f := f) (v := v) k (by omega)
      exact ⟨b, by omega, e⟩
theorem cnt_has {f : Nat → Int} {v : Int} {b : Nat} (h : f b = v) : ∀ k, b < k → 0 < cnt f v k
  | 0, hb => by omega
  | k + 1, hb => by
    have := cnt_nn f v k
    unfold cnt
    by_cases e : b = k
    · subst e
      rw [if_pos h]
      omega
    · have := cnt_has h k (by omega)
      split <;> omega
theorem sv_congr {g h : Int → Int} : ∀ n : Nat, (∀ v : Int, 1 ≤ v → v ≤ n → g v = h v) → sv g n = sv h n
  | 0, _ => rfl
  | n + 1, e => by unfold sv; rw [sv_congr n (fun v a b => e v a (by omega)), e ((n : Int) + 1) (by omega) (by omega)]
theorem sv_add (g h : Int → Int) : ∀ n : Nat, sv (fun v => g v + h v) n = sv g n + sv h n
  | 0 => rfl
  | n + 1 => by unfold sv; rw [sv_add g h n]; omega
theorem sv_one (x : Int) : ∀ n : Nat, sv (fun v => if x = v then 1 else 0) n = if 1 ≤ x ∧ x ≤ n then 1 else 0
  | 0 => by unfold sv; rw [if_neg (by omega)]
  | n + 1 => by
    unfold sv
    rw [sv_one x n]
    by_cases c : x = (n : Int) + 1
    · rw [if_neg (by omega), if_pos c, if_pos (by omega)]; omega
    · rw [if_neg c]
      by_cases d : 1 ≤ x ∧ x ≤ (n : Int)
      · rw [if_pos d, if_pos (by omega)]; omega
      · rw [if_neg d, if_neg (by omega)]; omega
theorem sv_zero : ∀ n : Nat, sv (fun _ => 0) n = 0
  | 0 => rfl
  | n + 1 => by unfold sv; rw [sv_zero n]; omega
theorem sv_le {g h : Int → Int} : ∀ n : Nat, (∀ v : Int, 1 ≤ v → v ≤ n → g v ≤ h v) → sv g n ≤ sv h n
  | 0, _ => by simp [sv]
  | n + 1, e => by have := sv_le n (fun v a b => e v a (by omega)); have := e ((n : Int) + 1) (by omega) (by omega); unfold sv; omega
theorem sv_lt {g h : Int → Int} {n : Nat} (hlt : sv g n < sv h n) : ∃ v : Int, 1 ≤ v ∧ v ≤ n ∧ g v < h v := by
  apply Classical.byContradiction
  intro hn
  have := sv_le (g := h) (h := g) n (fun v a b => by
    apply Classical.byContradiction
    intro hc
    exact hn ⟨v, a, b, by omega⟩)
  omega
/-- All the places: so many of each, and the rest are nought. -/
theorem cnt_total {f : Nat → Int} {n : Nat} : ∀ k, (∀ b, b < k → 0 ≤ f b ∧ f b ≤ n) → sv (fun v => cnt f v k) n + cnt f 0 k = k
  | 0, _ => by have : sv (fun v => cnt f v 0) n = sv (fun _ => 0) n := sv_congr n (fun _ _ _ => rfl); rw [this, sv_zero]; simp [cnt]
  | k + 1, h => by
    have ih := cnt_total (f := f) (n := n) k (fun b hb => h b (by omega))
    have hk := h k (by omega)
    have e : sv (fun v => cnt f v (k + 1)) n = sv (fun v => cnt f v k) n + sv (fun v => if f k = v then 1 else 0) n := by
      rw [← sv_add]
      exact sv_congr n (fun v _ _ => rfl)
    rw [e, sv_one]
    have e2 : cnt f 0 (k + 1) = cnt f 0 k + if f k = 0 then 1 else 0 := rfl
    rw [e2]
    by_cases c : f k = 0
    · rw [if_neg (by omega), if_pos c]; omega
    · rw [if_pos (by omega), if_neg c]; omega
theorem sumL_sv (W : List Int) : ∀ k, k ≤ W.length → sumL (W.take k) = sv (fun v => rd W (v - 1)) k
  | 0, _ => rfl
  | k + 1, h => by
    rw [← List.take_append_getElem (show k < W.length by omega), sumL_append, sumL_sv W k (by omega)]
    have : rd W ((k : Int) + 1 - 1) = W[k] := by unfold rd; rw [show ((k : Int) + 1 - 1).toNat = k by omega]; simp [show k < W.length by omega]
    show _ = sv (fun v => rd W (v - 1)) k + rd W ((k : Int) + 1 - 1)
    rw [this]
    simp [sumL]
theorem rd_set {l : List Int} {i : Nat} {v : Int} (h : i < l.length) (j : Int) : rd (l.set i v) j = if j.toNat = i then v else rd l j := by
  unfold rd
  by_cases e : j.toNat = i
  · rw [if_pos e, e]
    simp [h]
  · rw [if_neg e]
    simp [List.getElem?_set, Ne.symm e]
theorem rd_set_nat {l : List Int} {i : Nat} {v : Int} (h : i < l.length) (b : Nat) : rd (l.set i v) (b : Int) = if b = i then v else rd l (b : Int) := rd_set h _
theorem wcount_cnt {X : List Int} {m : Nat} {v : Int} (hv : 1 ≤ v) (hm : v ≤ m) : ∀ k, k ≤ X.length → rd (wcount X m k) (v - 1) = cnt (fun b => rd X (b : Int)) v k
  | 0, _ => by unfold wcount cnt rd; simp only [List.take_zero, List.foldl_nil, List.getD_eq_getElem?_getD, List.getElem?_replicate]; split <;> rfl
  | k + 1, h => by
    have ih := wcount_cnt (X := X) hv hm k (by omega)
    have hl := wcount_len X m k (by omega)
    have hx : rd X (k : Int) = X[k] := by unfold rd; simp [show k < X.length by omega]
    rw [wcount_succ (by omega)]
    show rd (wstep (wcount X m k) X[k]) (v - 1) = cnt (fun b => rd X (b : Int)) v k + if rd X (k : Int) = v then 1 else 0
    unfold wstep
    rw [hx]
    by_cases c : 1 ≤ X[k] ∧ X[k] ≤ ((wcount X m k).length : Int)
    · rw [if_pos c, rd_set (by omega)]
      by_cases d : X[k] = v
      · rw [if_pos (by omega), if_pos d, ← ih]
        unfold rd
        rw [d]
      · rw [if_neg (by omega), if_neg d, ih]; omega
    · rw [if_neg c, if_neg (by omega), ih]; omega
theorem hasL_rd {C : List Int} {m : Nat} {v : Int} (hv : 1 ≤ v) (hm : v ≤ m) (h8 : m ≤ 8) : rd (hasL C m) v = rd C (v - 1) := by
  unfold rd hasL
  rw [List.getD_eq_getElem?_getD, List.getElem?_map, List.getElem?_range (by omega)]
  simp only [Option.map_some, Option.getD_some]
  rw [if_pos (by omega), show v.toNat - 1 = (v - 1).toNat by omega]
theorem paint_rd {L : List S69} {b : Nat} (hb : b < 10000) : rd (paintL L) (b : Int) = pickL L b := by unfold rd paintL; simp [hb]
theorem okS_pick {n : Int} : ∀ {L : List S69} {fr la : Int} {b : Nat}, okS n fr la L → fr ≤ b → b < 10000 → 1 ≤ pickL L b ∧ pickL L b ≤ n
  | [], fr, la, b, h, h1, h2 => by have : fr = 10000 := h; omega
  | r :: rs, fr, la, b, h, h1, h2 => by
    obtain ⟨g1, g2, g3, g4, g5, g6, g7, g8⟩ := h
    rw [pickL_cons]
    by_cases c : inR r b = true
    · rw [if_pos c]; exact ⟨g6, g7⟩
    · rw [if_neg c]
      refine okS_pick g8 ?_ h2
      unfold inR at c
      simp at c
      omega

/-! ### The runs -/
def rle (f : Nat → Int) : Nat → List S69
  | 0 => []
  | b + 1 => addR (rle f b) (b : Int) (f b)
theorem rle_congr {f g : Nat → Int} : ∀ k, (∀ b, b < k → f b = g b) → rle f k = rle g k
  | 0, _ => rfl
  | k + 1, h => by unfold rle; rw [rle_congr k (fun b hb => h b (by omega)), h k (by omega)]
theorem pickL_last (L : List S69) (r : S69) (b : Nat) : pickL (L ++ [r]) b = if L.any (inR · b) = true then pickL L b else if inR r b = true then r.f2 else 0 := by
  induction L with
  | nil => rw [List.nil_append, pickL_cons]; rfl
  | cons x L ih =>
    rw [List.cons_append, pickL_cons, ih, pickL_cons, List.any_cons]
    by_cases c : inR x b = true
    · rw [if_pos c, c, Bool.true_or, if_pos rfl, if_pos rfl]
    · rw [if_neg c, Bool.eq_false_iff.mpr c, Bool.false_or, if_neg (show ¬ (false = true) by decide)]
/-- What the runs tell: each place, and nothing behind. -/
def Runs (f : Nat → Int) (k : Nat) (L : List S69) : Prop := (∀ r ∈ L, r.f0 < r.f1 ∧ r.f1 ≤ (k : Int)) ∧ ∀ b, b < k → L.any (inR · b) = true ∧ pickL L b = f b
theorem runs_none {f : Nat → Int} {k : Nat} {L : List S69} (h : Runs f k L) : L.any (inR · k) = false := by
  rw [List.any_eq_false]
  intro r hr
  have := (h.1 r hr).2
  unfold inR
  simp
  omega
theorem rle_runs (f : Nat → Int) : ∀ k, Runs f k (rle f k)
  | 0 => ⟨by simp [rle], fun b hb => by omega⟩
  | k + 1 => by
    have ih := rle_runs f k
    unfold rle addR
    generalize rle f k = L at ih
    by_cases c : 0 < L.length ∧ (rd_T69 L ((L.length : Int) - 1)).f2 = f k
    · rw [if_pos c]
      obtain ⟨pre, r, rfl⟩ : ∃ pre r, L = pre ++ [r] := ⟨L.dropLast, L.getLast (by intro e; simp [e] at c), (List.dropLast_concat_getLast _).symm⟩
      have er : rd_T69 (pre ++ [r]) (((pre ++ [r]).length : Int) - 1) = r := by
        have : (((pre ++ [r]).length : Int) - 1) = (pre.length : Int) := by simp
        rw [this]
        exact rdT_mid pre [] r
      rw [er] at c ⊢
      have es : (pre ++ [r]).set ((pre ++ [r]).length - 1) ⟨r.f0, (k : Int) + 1, r.f2⟩ = pre ++ [⟨r.f0, (k : Int) + 1, r.f2⟩] := by simp
      rw [es]
      have hr := ih.1 r (by simp)
      have hn := runs_none ih
      rw [List.any_append, Bool.or_eq_false_iff] at hn
      have hnew : ∀ b, b < k → inR ⟨r.f0, (k : Int) + 1, r.f2⟩ b = true → ¬ (pre.any (inR · b) = true) → inR r b = true := by
        intro b hb h1 h2
        have := (ih.2 b hb).1
        rw [List.any_append, Bool.or_eq_true] at this
        rcases this with h | h
        · exact absurd h h2
        · simpa using h
      refine ⟨fun x hx => ?_, fun b hb => ?_⟩
      · rcases List.mem_append.1 hx with h | h
        · have := ih.1 x (by simp [h]); omega
        · obtain rfl := List.mem_singleton.1 h
          exact ⟨by show r.f0 < (k : Int) + 1; omega, by simp⟩
      · by_cases e : b = k
        · subst e
          have hin : inR ⟨r.f0, (b : Int) + 1, r.f2⟩ b = true := by unfold inR; simp; omega
          refine ⟨by rw [List.any_append]; simp [hin], ?_⟩
          rw [pickL_last, hn.1, if_neg (by decide), if_pos hin]
          exact c.2
        · have hb2 : b < k := by omega
          have h2 := ih.2 b hb2
          by_cases d : pre.any (inR · b) = true
          · refine ⟨by rw [List.any_append, d]; rfl, ?_⟩
            rw [pickL_last, if_pos d]
            rw [pickL_last, if_pos d] at h2
            exact h2.2
          · have hin0 : inR r b = true := by
              have := h2.1
              rw [List.any_append, Bool.or_eq_true] at this
              rcases this with h | h
              · exact absurd h d
              · simpa using h
            have hin : inR ⟨r.f0, (k : Int) + 1, r.f2⟩ b = true := by unfold inR at hin0 ⊢; simp at hin0 ⊢; omega
            refine ⟨by rw [List.any_append]; simp [hin], ?_⟩
            rw [pickL_last, if_neg d, if_pos hin]
            have := h2.2
            rw [pickL_last, if_neg d, if_pos hin0] at this
            exact this
    · rw [if_neg c]
      have hn := runs_none ih
      refine ⟨fun x hx => ?_, fun b hb => ?_⟩
      · rcases List.mem_append.1 hx with h | h
        · have := ih.1 x h; omega
        · obtain rfl := List.mem_singleton.1 h
          exact ⟨by show (k : Int) < (k : Int) + 1; omega, by simp⟩
      · by_cases e : b = k
        · subst e
          have hin : inR ⟨(b : Int), (b : Int) + 1, f b⟩ b = true := by unfold inR; simp; omega
          refine ⟨by rw [List.any_append]; simp [hin], ?_⟩
          rw [pickL_last, hn, if_neg (by decide), if_pos hin]
        · have h2 := ih.2 b (by omega)
          refine ⟨by rw [List.any_append, h2.1]; rfl, ?_⟩
          rw [pickL_last, if_pos h2.1]
          exact h2.2
end Go.Proofs.YtefglphdiimhnaaDoor.Plain
