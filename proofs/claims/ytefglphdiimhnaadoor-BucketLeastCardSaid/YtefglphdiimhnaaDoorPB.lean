import Derived.Test.YtefglphdiimhnaaDoorQ
set_option linter.unusedVariables false
namespace Go.Proofs.YtefglphdiimhnaaDoor.Plain
open Go Go.RowKit Go.Proofs.YtefglphdiimhnaaDoor.Q Go.Proofs.YtefglphdiimhnaaDoorW.PrintWords Go.Proofs.YtefglphdiimhnaaDoorW.PrintLast Go.Proofs.YtefglphdiimhnaaDoorW.PrintMore

theorem w64 {n : Int} (h : -9223372036854775808 ≤ n) (h2 : n ≤ 9223372036854775807) : wrap64 n = n := by unfold wrap64; omega
/-- The codes that are left: at most forty bytes, and a place among them. -/
def CV (bs : List Int) (p : Int) : Prop := bs.length ≤ 40 ∧ 0 ≤ p ∧ p ≤ (bs.length : Int) ∧ ∀ x ∈ bs, 0 ≤ x ∧ x < 256

theorem new_ok {l : List Int} (h : ∀ x ∈ l, 0 ≤ x ∧ x < 256) : ∃ bs, flagstonedraw_New.f l 40 = some (bs, 0) ∧ CV bs 0 := by
  unfold flagstonedraw_New.f
  by_cases c : (l.length : Int) > 40
  · rw [if_pos c, if_pos (by omega), if_pos (by omega)]
    refine ⟨_, rfl, ?_, by omega, by omega, fun x hx => h x (List.mem_of_mem_take hx)⟩
    rw [List.length_take]
    omega
  · rw [if_neg c]
    exact ⟨_, rfl, by omega, by omega, by omega, h⟩

theorem rd_mem {bs : List Int} {p : Int} (h0 : 0 ≤ p) (h : p < bs.length) : rd bs p ∈ bs := by
  unfold rd
  rw [List.getD_eq_getElem?_getD, List.getElem?_eq_getElem (by omega)]
  simp

theorem next_ok {bs : List Int} {p n : Int} (h : CV bs p) (hn : 0 < n) : ∃ v p', flagstonedraw_Codes_Next.f bs p n = some (v, p') ∧ 0 ≤ v ∧ v < n ∧ CV bs p' := by
  obtain ⟨h1, h2, h3, h4⟩ := h
  unfold flagstonedraw_Codes_Next.f flagstonedraw_Codes_Left.f
  simp only [Option.bind_some]
  by_cases hp : p < (bs.length : Int)
  · have e1 : wrap64 (p + 1) = p + 1 := w64 (by omega) (by omega)
    have e2 : wrap64 (p + 1 - 1) = p := by rw [w64 (by omega) (by omega)]; omega
    have hx := h4 _ (rd_mem h2 hp)
    have e3 : wrap64 (rd bs p) = rd bs p := w64 (by omega) (by omega)
    rw [if_pos (decide_eq_true hp), e1, e2, if_pos h2, if_pos hp, if_neg (by omega), e3]
    exact ⟨_, _, rfl, Int.tmod_nonneg _ hx.1, Int.tmod_lt_of_pos _ hn, h1, by omega, by omega, h4⟩
  · rw [if_neg (by simpa using hp)]
    exact ⟨_, _, rfl, by omega, hn, h1, h2, h3, h4⟩

theorem wide_ok {bs : List Int} {p n : Int} (h : CV bs p) (hn : 0 < n) : ∃ v p', flagstonedraw_Codes_Wide.f bs p n = some (v, p') ∧ 0 ≤ v ∧ v < n ∧ CV bs p' := by
  obtain ⟨v1, p1, e1, a1, b1, c1⟩ := next_ok h (n := 256) (by omega)
  obtain ⟨v2, p2, e2, a2, b2, c2⟩ := next_ok c1 (n := 256) (by omega)
  unfold flagstonedraw_Codes_Wide.f
  rw [e1, Option.bind_some, e2, Option.bind_some, if_neg (by omega)]
  have e3 : wrap64 (256 * v1) = 256 * v1 := w64 (by omega) (by omega)
  have e4 : wrap64 (256 * v1 + v2) = 256 * v1 + v2 := w64 (by omega) (by omega)
  refine ⟨_, _, rfl, ?_, Int.tmod_lt_of_pos _ hn, c2⟩
  show 0 ≤ Int.tmod (wrap64 (wrap64 (256 * v1) + v2)) n
  rw [e3, e4]
  exact Int.tmod_nonneg _ (by omega)

/-- A split that covers: ranges side by side from 'from' to the end, neighbours differ, each variation is one of n. -/
def okS (n : Int) : Int → Int → List S69 → Prop
  | fr, _, [] => fr = 10000
  | fr, la, r :: rs => r.f0 = fr ∧ 0 ≤ fr ∧ r.f0 < r.f1 ∧ r.f1 ≤ 10000 ∧ r.f2 ≠ la ∧ 1 ≤ r.f2 ∧ r.f2 ≤ n ∧ okS n r.f1 r.f2 rs

theorem turn_ok {v n la : Int} (hv : 0 ≤ v) (hvn : v < n) (hn1 : 1 ≤ n) (h8 : n ≤ 8) (hla : la = 0 ∨ 1 < n) (hb : 0 ≤ la ∧ la ≤ n) :
    (wrap64 (1 + v) = la → wrap64 (1 + Int.tmod (wrap64 (1 + v)) n) ≠ la ∧ 1 ≤ wrap64 (1 + Int.tmod (wrap64 (1 + v)) n) ∧ wrap64 (1 + Int.tmod (wrap64 (1 + v)) n) ≤ n) ∧ (1 ≤ wrap64 (1 + v) ∧ wrap64 (1 + v) ≤ n) := by
  have e1 : wrap64 (1 + v) = 1 + v := w64 (by omega) (by omega)
  rw [e1]
  have t0 : 0 ≤ Int.tmod (1 + v) n := Int.tmod_nonneg _ (by omega)
  have t1 : Int.tmod (1 + v) n < n := Int.tmod_lt_of_pos _ (by omega)
  have e2 : wrap64 (1 + Int.tmod (1 + v) n) = 1 + Int.tmod (1 + v) n := w64 (by omega) (by omega)
  rw [e2]
  refine ⟨fun h => ⟨fun h2 => ?_, by omega, by omega⟩, by omega, by omega⟩
  have t3 : Int.tmod (1 + v) n = v := by omega
  by_cases hc : 1 + v < n
  · rw [Int.tmod_eq_of_lt (by omega) hc] at t3
    omega
  · have : 1 + v = n := by omega
    rw [this, Int.tmod_self] at t3
    omega

theorem split_fin {n fr la x8 p : Int} {L : List S69} {bs : List Int} (k : Nat) (hc : CV bs p) (hn : 1 ≤ n) (h8 : n ≤ 8) (hla : la = 0 ∨ 1 < n) (hlb : 0 ≤ la ∧ la ≤ n) (hf : 0 ≤ fr ∧ fr < 10000) (hL : L.length ≤ 100) :
    ∃ rest p', flagstonedraw_Codes_Split.j1 (k + 1) n L fr la x8 false bs p = some (L ++ rest, p') ∧ okS n fr la rest ∧ rest.length ≤ 1 ∧ CV bs p' := by
  obtain ⟨v, p1, e1, a1, b1, c1⟩ := next_ok hc (n := n) (by omega)
  obtain ⟨t1, t2, t3⟩ := turn_ok a1 b1 hn h8 hla hlb
  unfold flagstonedraw_Codes_Split.j1
  rw [if_neg (by decide), e1, Option.bind_some]
  by_cases hv : wrap64 (1 + v) = la
  · rw [if_pos hv, if_neg (by omega), if_pos (by omega)]
    obtain ⟨t4, t5, t6⟩ := t1 hv
    exact ⟨_, _, rfl, ⟨rfl, hf.1, hf.2, by simp, t4, t5, t6, rfl⟩, by simp, c1⟩
  · rw [if_neg hv, if_pos (by omega)]
    exact ⟨_, _, rfl, ⟨rfl, hf.1, hf.2, by simp, hv, t2, t3, rfl⟩, by simp, c1⟩

theorem split_l0 {n : Int} {bs : List Int} (hn : 1 ≤ n) (h8 : n ≤ 8) : ∀ (m k : Nat) (L : List S69) (fr la x8 p : Int), x8 + m = 4 → 0 ≤ x8 → 2 * m + 3 ≤ k → CV bs p → (la = 0 ∨ 1 < n) → (0 ≤ la ∧ la ≤ n) → (0 ≤ fr ∧ fr < 10000) → L.length + m ≤ 100 →
    ∃ rest p', flagstonedraw_Codes_Split.l0 k n L fr la x8 bs p = some (L ++ rest, p') ∧ okS n fr la rest ∧ rest.length ≤ m + 1 ∧ CV bs p' := by
  intro m
  induction m with
  | zero =>
    intro k L fr la x8 p hx hx0 hk hc hla hlb hf hL
    obtain ⟨k, rfl⟩ : ∃ k', k = k' + 2 := ⟨k - 2, by omega⟩
    obtain ⟨v, p1, e1, a1, b1, c1⟩ := next_ok hc (n := 4) (by omega)
    unfold flagstonedraw_Codes_Split.l0
    rw [e1, Option.bind_some, if_neg (show ¬ x8 < v by omega)]
    exact split_fin k c1 hn h8 hla hlb hf (by omega)
  | succ m ih =>
    intro k L fr la x8 p hx hx0 hk hc hla hlb hf hL
    obtain ⟨k, rfl⟩ : ∃ k', k = k' + 2 := ⟨k - 2, by omega⟩
    obtain ⟨v, p1, e1, a1, b1, c1⟩ := next_ok hc (n := 4) (by omega)
    unfold flagstonedraw_Codes_Split.l0
    rw [e1, Option.bind_some]
    by_cases hxv : x8 < v
    · rw [if_pos hxv]
      by_cases hn1 : n > 1
      · rw [decide_eq_true hn1]
        unfold flagstonedraw_Codes_Split.j1
        obtain ⟨w, p2, e2, a2, b2, c2⟩ := wide_ok c1 (n := 5000) (by omega)
        obtain ⟨u, p3, e3, a3, b3, c3⟩ := next_ok c2 (n := n) (by omega)
        obtain ⟨t1, t2, t3⟩ := turn_ok a3 b3 hn h8 hla hlb
        obtain ⟨u4, p4, e4, a4, b4, c4⟩ := next_ok c3 (n := n) (by omega)
        obtain ⟨q1, q2, q3⟩ := turn_ok a4 b4 hn h8 hla hlb
        have w1 : wrap64 (fr + 1) = fr + 1 := w64 (by omega) (by omega)
        have w2 : wrap64 (fr + 1 + w) = fr + 1 + w := w64 (by omega) (by omega)
        have w3 : wrap64 (x8 + 1) = x8 + 1 := w64 (by omega) (by omega)
        rw [if_pos rfl, e2, Option.bind_some, e3, Option.bind_some, w1, w2, w3]
        have hfin : ∀ g : Nat, ∃ rest p', (if wrap64 (1 + u4) = la then (if n = 0 then none else if L.length < 5864062014805 then some (L ++ [⟨fr, 10000, wrap64 (1 + Int.tmod (wrap64 (1 + u4)) n)⟩], p4) else none) else if L.length < 5864062014805 then some (L ++ [⟨fr, 10000, wrap64 (1 + u4)⟩], p4) else none) = some (L ++ rest, p') ∧ okS n fr la rest ∧ rest.length ≤ g + 1 ∧ CV bs p' := by
          intro g
          by_cases hv : wrap64 (1 + u4) = la
          · rw [if_pos hv, if_neg (by omega), if_pos (by omega)]
            obtain ⟨t4, t5, t6⟩ := q1 hv
            exact ⟨_, _, rfl, ⟨rfl, hf.1, hf.2, by simp, t4, t5, t6, rfl⟩, by simp, c4⟩
          · rw [if_neg hv, if_pos (by omega)]
            exact ⟨_, _, rfl, ⟨rfl, hf.1, hf.2, by simp, hv, q2, q3, rfl⟩, by simp, c4⟩
        have hrec : ∀ z : Int, z ≠ la → 1 ≤ z → z ≤ n → fr + 1 + w < 10000 → ∃ rest p', flagstonedraw_Codes_Split.l0 k n (L ++ [⟨fr, fr + 1 + w, z⟩]) (fr + 1 + w) z (x8 + 1) bs p3 = some (L ++ rest, p') ∧ okS n fr la rest ∧ rest.length ≤ m + 1 + 1 ∧ CV bs p' := by
          intro z z1 z2 z3 hto
          obtain ⟨rest, p', g1, g2, g3, g4⟩ := ih k (L ++ [⟨fr, fr + 1 + w, z⟩]) (fr + 1 + w) z (x8 + 1) p3 (by omega) (by omega) (by omega) c3 (.inr hn1) ⟨by omega, z3⟩ ⟨by omega, hto⟩ (by simp; omega)
          refine ⟨⟨fr, fr + 1 + w, z⟩ :: rest, p', by rw [g1]; simp, ⟨rfl, hf.1, by show fr < fr + 1 + w; omega, by show fr + 1 + w ≤ 10000; omega, z1, z2, z3, g2⟩, by simp; omega, g4⟩
        by_cases hv : wrap64 (1 + u) = la
        · rw [if_pos hv, if_neg (show ¬ n = 0 by omega)]
          obtain ⟨t4, t5, t6⟩ := t1 hv
          by_cases hto : fr + 1 + w ≥ 10000
          · rw [if_pos hto, e4, Option.bind_some]
            have hf2 := hfin (m + 1)
            rw [if_neg (show ¬ n = 0 by omega)] at hf2
            exact hf2
          · rw [if_neg hto, if_pos (show L.length < 5864062014805 by omega)]
            exact hrec _ t4 t5 t6 (by omega)
        · rw [if_neg hv]
          by_cases hto : fr + 1 + w ≥ 10000
          · rw [if_pos hto, e4, Option.bind_some]
            exact hfin _
          · rw [if_neg hto, if_pos (show L.length < 5864062014805 by omega)]
            exact hrec _ hv t2 t3 (by omega)
      · rw [decide_eq_false hn1]
        obtain ⟨rest, p', g1, g2, g3, g4⟩ := split_fin (x8 := x8) k c1 hn h8 hla hlb hf (L := L) (by omega)
        exact ⟨rest, p', g1, g2, by omega, g4⟩
    · rw [if_neg hxv]
      obtain ⟨rest, p', g1, g2, g3, g4⟩ := split_fin (x8 := x8) k c1 hn h8 hla hlb hf (L := L) (by omega)
      exact ⟨rest, p', g1, g2, by omega, g4⟩

theorem split_ok {n p : Int} {bs : List Int} {k : Nat} (hk : 11 ≤ k) (hc : CV bs p) (hn : 1 ≤ n) (h8 : n ≤ 8) : ∃ L p', flagstonedraw_Codes_Split.f k bs p n = some (L, p') ∧ okS n 0 0 L ∧ L.length ≤ 5 ∧ CV bs p' := by
  obtain ⟨rest, p', g1, g2, g3, g4⟩ := split_l0 hn h8 4 k [] 0 0 0 p rfl (by omega) (by omega) hc (.inl rfl) ⟨by omega, by omega⟩ ⟨by omega, by omega⟩ (by simp)
  exact ⟨rest, p', by unfold flagstonedraw_Codes_Split.f; simpa using g1, g2, g3, g4⟩

/-- Shares: so many parts, none below nothing, together all of it. -/
def sumL (l : List Int) : Int := l.foldr (· + ·) 0
def okW (n : Int) (l : List Int) : Prop := (l.length : Int) = n ∧ (∀ x ∈ l, 0 ≤ x) ∧ sumL l = 10000
theorem sumL_cons (x : Int) (l : List Int) : sumL (x :: l) = x + sumL l := rfl
theorem sumL_append (l m : List Int) : sumL (l ++ m) = sumL l + sumL m := by
  induction l with
  | nil => simp [sumL]
  | cons x l ih => rw [List.cons_append, sumL_cons, sumL_cons, ih]; omega

theorem weights_l0 {n : Int} {bs : List Int} (hn : 1 ≤ n) (h8 : n ≤ 8) : ∀ (m k : Nat) (a : List Int) (x6 x7 p : Int), x7 + m + 1 = n → (a.length : Int) = x7 → m + 1 ≤ k → CV bs p → (∀ x ∈ a, 0 ≤ x) → 0 ≤ x6 → sumL a + x6 = 10000 → 
    ∃ W p', flagstonelaw13_weights.l0 k n (a ++ List.replicate (m + 1) 0) x6 x7 bs p = some (W, p') ∧ okW n W := by
  intro m
  induction m with
  | zero =>
    intro k a x6 x7 p hx ha hk hc hpos h6 hs
    obtain ⟨k, rfl⟩ : ∃ k', k = k' + 1 := ⟨k - 1, by omega⟩
    have w1 : wrap64 (n - 1) = n - 1 := w64 (by omega) (by omega)
    unfold flagstonelaw13_weights.l0
    rw [w1, if_neg (by omega), if_pos (by omega), if_pos (by simp; omega)]
    have hi : (n - 1).toNat = a.length := by omega
    refine ⟨_, _, rfl, ?_⟩
    rw [hi]
    have : (a ++ List.replicate (0 + 1) (0 : Int)).set a.length x6 = a ++ [x6] := by simp [List.set_append]
    rw [this]
    refine ⟨by simp; omega, ?_, ?_⟩
    · intro x hx
      rcases List.mem_append.1 hx with h | h
      · exact hpos x h
      · obtain rfl := List.mem_singleton.1 h
        exact h6
    · rw [sumL_append]
      simp [sumL_cons, sumL] at hs ⊢
      omega
  | succ m ih =>
    intro k a x6 x7 p hx ha hk hc hpos h6 hs
    obtain ⟨k, rfl⟩ : ∃ k', k = k' + 1 := ⟨k - 1, by omega⟩
    have hx6 : x6 ≤ 10000 := by
      have : 0 ≤ sumL a := by
        clear hs ha ih
        induction a with
        | nil => simp [sumL]
        | cons y a ih => rw [sumL_cons]; have := ih (fun x hx => hpos x (by simp [hx])); have := hpos y (by simp); omega
      omega
    have w1 : wrap64 (n - 1) = n - 1 := w64 (by omega) (by omega)
    have w2 : wrap64 (x6 + 1) = x6 + 1 := w64 (by omega) (by omega)
    have w3 : wrap64 (x7 + 1) = x7 + 1 := w64 (by omega) (by omega)
    obtain ⟨v, p1, e1, a1, b1, c1⟩ := wide_ok hc (n := x6 + 1) (by omega)
    obtain ⟨u, p2, e2, a2, b2, c2⟩ := next_ok c1 (n := 3) (by omega)
    have hi : x7.toNat = a.length := by omega
    have hset : ∀ y : Int, (a ++ List.replicate (m + 1 + 1) (0 : Int)).set a.length y = (a ++ [y]) ++ List.replicate (m + 1) 0 := by
      intro y
      rw [List.replicate_succ]
      simp [List.set_append]
    have hset2 : ∀ y z : Int, ((a ++ [y]) ++ List.replicate (m + 1) (0 : Int)).set a.length z = (a ++ [z]) ++ List.replicate (m + 1) 0 := by
      intro y z
      simp [List.set_append]
    have hrd : ∀ y : Int, rd ((a ++ [y]) ++ List.replicate (m + 1) (0 : Int)) x7 = y := by
      intro y
      unfold rd
      rw [hi]
      simp
    have hstep : ∀ y : Int, 0 ≤ y → y ≤ x6 → ∃ W p', flagstonelaw13_weights.l0 k n ((a ++ [y]) ++ List.replicate (m + 1) 0) (wrap64 (x6 - y)) (x7 + 1) bs p2 = some (W, p') ∧ okW n W := by
      intro y hy0 hy1
      have w4 : wrap64 (x6 - y) = x6 - y := w64 (by omega) (by omega)
      rw [w4]
      refine ih k (a ++ [y]) (x6 - y) (x7 + 1) p2 (by omega) (by simp; omega) (by omega) c2 ?_ (by omega) ?_
      · intro x hx
        rcases List.mem_append.1 hx with h | h
        · exact hpos x h
        · obtain rfl := List.mem_singleton.1 h
          exact hy0
      · rw [sumL_append]
        simp [sumL_cons, sumL] at hs ⊢
        omega
    unfold flagstonelaw13_weights.l0
    rw [w1, w2, w3, if_pos (by omega), e1, Option.bind_some, if_pos (by omega), if_pos (by simp; omega), hi, hset, Option.bind_some, e2, Option.bind_some]
    by_cases hu : u = 1
    · rw [if_pos hu, hset2, Option.bind_some, hrd]
      exact hstep 0 (by omega) h6
    · rw [if_neg hu, hrd]
      exact hstep v a1 (by omega)

theorem weights_ok {n p : Int} {bs : List Int} {k : Nat} (hk : 9 ≤ k) (hc : CV bs p) (hn : 1 ≤ n) (h8 : n ≤ 8) : ∃ W p', flagstonelaw13_weights.f k bs p n = some (W, p') ∧ okW n W := by
  unfold flagstonelaw13_weights.f
  rw [if_pos (by omega), if_pos (by omega)]
  obtain ⟨m, hm⟩ : ∃ m : Nat, n.toNat = m + 1 := ⟨n.toNat - 1, by omega⟩
  rw [hm]
  exact weights_l0 hn h8 m k [] 10000 0 p (by omega) (by simp) (by omega) hc (by simp) (by omega) (by simp [sumL])
end Go.Proofs.YtefglphdiimhnaaDoor.Plain
