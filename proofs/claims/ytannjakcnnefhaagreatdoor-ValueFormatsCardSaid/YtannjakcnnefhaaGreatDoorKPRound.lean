import Derived.Test.YtannjakcnnefhaaGreatDoorKPGuess
set_option linter.unusedVariables false
set_option linter.unusedSimpArgs false
namespace Go.Proofs.YtannjakcnnefhaaGreatDoor.V
open Go Go.RowKit Go.Proofs.YtannjakcnnefhaaGreatDoor Go.Proofs.YtannjakcnnefhaaGreatDoorW.PrintWords Go.Proofs.YtannjakcnnefhaaGreatDoorW.PrintLast Go.Proofs.YtannjakcnnefhaaGreatDoorW.PrintMore
theorem empty_of {c : ByteArray} (h : c.toList = []) : c = ⟨#[]⟩ := ba_ext (by rw [← ba_list, h])
theorem shape_num {a b : Int} {c : ByteArray} {l : List ByteArray} (h : shapeB a b c l = true) (ha : a = 1 ∨ a = 2) : c = ⟨#[]⟩ ∧ l = [] := by
  unfold shapeB at h
  rw [if_pos ha] at h
  simp only [Bool.and_eq_true, beq_iff_eq] at h
  exact ⟨empty_of h.1, List.eq_nil_of_length_eq_zero (by omega)⟩
theorem shape_text {a b : Int} {c : ByteArray} {l : List ByteArray} (h : shapeB a b c l = true) (ha : a = 3 ∨ a = 4) : b = 0 ∧ l = [] := by
  unfold shapeB at h
  rw [if_neg (by omega), if_pos ha] at h
  simp only [Bool.and_eq_true, beq_iff_eq] at h
  exact ⟨h.1, List.eq_nil_of_length_eq_zero (by omega)⟩
theorem shape_list {a b : Int} {c : ByteArray} {l : List ByteArray} (h : shapeB a b c l = true) (ha : a = 5) : b = 0 ∧ c = ⟨#[]⟩ := by
  unfold shapeB at h
  rw [if_neg (by omega), if_neg (by omega)] at h
  simp only [Bool.and_eq_true, beq_iff_eq] at h
  exact ⟨h.1, empty_of h.2⟩
theorem idx_none {l : List UInt8} {c : UInt8} (h : c ∉ l) : Lib.indexByte l c = -1 := by
  have h1 := Lib.indexByte_ge l c
  rcases Int.lt_or_le (Lib.indexByte l c) 0 with h2 | h2
  · omega
  · have h3 := (Lib.indexByte_some (l := l) (c := c) (o := (Lib.indexByte l c).toNat) (by omega)).1
    exact absurd (List.mem_of_getElem? h3) h
theorem idx_some {l : List UInt8} {c : UInt8} (h : c ∈ l) : 0 ≤ Lib.indexByte l c := by
  rcases Int.lt_or_le (Lib.indexByte l c) 0 with h2 | h2
  · have h1 := Lib.indexByte_ge l c
    have h3 := Lib.indexByte_none (l := l) (c := c) (by omega)
    obtain ⟨j, hj, he⟩ := List.mem_iff_getElem.1 h
    exact absurd (by rw [List.getElem?_eq_getElem hj, he]) (h3 j)
  · exact h2
theorem contains_dot (s : ByteArray) : strings_Contains.f s ⟨#[46]⟩ = some (decide (0 ≤ Lib.indexByte s.data.toList 46)) := rfl
/-- The signs of a number. -/
theorem itoa_signs (n : Int) : ∀ x ∈ Lib.itoa n, x = 45 ∨ isDig x = true := by
  obtain ⟨f1, -, -, -⟩ := dec_facts n.natAbs
  have hd : ∀ x ∈ Lib.decDigits n.natAbs, isDig x = true := List.all_eq_true.1 f1
  intro x hx
  unfold Lib.itoa at hx
  split at hx
  · rcases List.mem_cons.1 hx with h | h
    · exact .inl h
    · exact .inr (hd x h)
  · rw [show n.toNat = n.natAbs by omega] at hx
    exact .inr (hd x hx)
theorem itoa_ne (n : Int) : ∃ c r, Lib.itoa n = c :: r := by
  obtain ⟨-, -, f3, -⟩ := dec_facts n.natAbs
  cases h : Lib.itoa n with
  | cons c r => exact ⟨c, r, rfl⟩
  | nil =>
    unfold Lib.itoa at h
    split at h
    · cases h
    · rw [show n.toNat = n.natAbs by omega] at h
      exact absurd h f3
theorem dig_not {x : UInt8} (h : x = 45 ∨ isDig x = true) (y : Nat) (hy : y ≠ 45) (hy2 : y < 48 ∨ 57 < y) : x.toNat ≠ y := by
  rcases h with h | h
  · rw [h]
    intro e
    exact hy e.symm
  · have := of_decide_eq_true h
    omega
/-- A version: it holds a period and begins with a digit. -/
theorem version_facts (c : ByteArray) (h : (partsR (parts3 (dots c))).2.2.2 = true) : 46 ∈ c.data.toList ∧ ∃ d r, c.data.toList = d :: r ∧ isDig d = true := by
  have h3 : parts3L (dotsL c.data.toList) ≠ none := fun e => by
    rw [parts3_dots, e] at h
    cases h
  have hmem : 46 ∈ c.data.toList := by
    apply Classical.byContradiction
    intro hn
    apply h3
    rw [dotsL_miss _ (fun j hj hx => hn (List.mem_of_getElem? hx))]
    rfl
  refine ⟨hmem, ?_⟩
  have hi := idx_some hmem
  obtain ⟨e1, e2⟩ := Lib.indexByte_some (l := c.data.toList) (c := 46) (o := (Lib.indexByte c.data.toList 46).toNat) (by omega)
  have hd := dotsL_hit c.data.toList _ e2 e1
  obtain ⟨p, hp⟩ : ∃ p, p = c.data.toList.take (Lib.indexByte c.data.toList 46).toNat := ⟨_, rfl⟩
  rw [← hp] at hd
  have hok : okL p := by
    apply Classical.byContradiction
    intro hn
    exact h3 (parts3L_bad (j := 0) (p := p) (by rw [hd]; rfl) hn)
  obtain ⟨d, r, hpr, hdig⟩ := pnum_first hok.1 hok.2.1
  have hc : c.data.toList = p ++ c.data.toList.drop (Lib.indexByte c.data.toList 46).toNat := by rw [hp, List.take_append_drop]
  rw [hc, hpr]
  exact ⟨d, _, rfl, hdig⟩
/-- The source form of a valid value is read as it was. -/
theorem guess_fmt (a b : Int) (c s : ByteArray) (l : List ByteArray) (K : Nat) (hK : 3000 < K) (hc : c.size ≤ 4294967280)
    (k1 : 1 ≤ a) (k5 : a ≤ 5) (ksh : shapeB a b c l = true) (kb : a = 1 → b = 0 ∨ b = 1) (kn : a = 2 → -1099511627776 ≤ b ∧ b ≤ 1099511627776) (kt : a = 3 → validB c = true) (kv : a = 4 → (partsR (parts3 (dots c))).2.2.2 = true) (kl : a = 5 → l.length ≤ 20 ∧ ∀ x ∈ l, validB x = true)
    (hf : fmtV a b c l = some (s, 0)) : value_guess.f K s = some (a, b, c, l) := by
  unfold fmtV at hf
  by_cases a1 : a = 1
  · rw [if_pos a1] at hf
    obtain ⟨rfl, rfl⟩ := shape_num ksh (.inl a1)
    subst a1
    rcases kb rfl with b0 | b0
    · subst b0
      obtain rfl := (Prod.mk.inj (Option.some.inj hf)).1
      unfold value_guess.f
      rw [if_pos (by rw [ba_list]; rfl)]
    · subst b0
      obtain rfl := (Prod.mk.inj (Option.some.inj hf)).1
      unfold value_guess.f
      rw [if_neg (by rw [ba_list, ba_data]; decide), if_pos (by rw [ba_list]; rfl)]
  rw [if_neg a1] at hf
  by_cases a2 : a = 2
  · rw [if_pos a2] at hf
    obtain ⟨n1, n2⟩ := kn a2
    obtain ⟨rfl, rfl⟩ := shape_num ksh (.inr a2)
    unfold text_Number.f at hf
    rw [if_pos (by omega)] at hf
    obtain rfl := (Prod.mk.inj (Option.some.inj hf)).1
    subst a2
    have hs : (⟨(Lib.itoa b).toArray⟩ : ByteArray).data.toList = Lib.itoa b := rfl
    obtain ⟨d, r, hd⟩ := itoa_ne b
    have hsg := itoa_signs b
    have hds := hsg d (by rw [hd]; exact List.mem_cons_self ..)
    have g1 : ¬ (⟨(Lib.itoa b).toArray⟩ : ByteArray).toList = ([102, 97, 108, 115, 101] : List UInt8) := fun h => by
      rw [ba_list, hs, hd] at h
      exact dig_not hds 102 (by decide) (by decide) (by rw [(List.cons.inj h).1]; rfl)
    have g2 : ¬ (⟨(Lib.itoa b).toArray⟩ : ByteArray).toList = ([116, 114, 117, 101] : List UInt8) := fun h => by
      rw [ba_list, hs, hd] at h
      exact dig_not hds 116 (by decide) (by decide) (by rw [(List.cons.inj h).1]; rfl)
    have h9 : text_ParseNumber.f ⟨(Lib.itoa b).toArray⟩ = some (b, 0) := by
      unfold text_ParseNumber.f
      have hl := Lib.itoa_length_le b (by omega) (by omega)
      rw [if_pos (by rw [ba_size, hs]; omega), hs, pnum_itoa b n1 n2]
    unfold value_guess.f
    rw [if_neg g1, if_neg g2, prefix_one, prefix_one, contains_dot, h9, hs, hd]
    have p1 : ((d :: r).head? == some 34) = false := by
      rw [beq_eq_false_iff_ne]
      intro h
      exact dig_not hds 34 (by decide) (by decide) (by rw [Option.some.inj h]; rfl)
    have p2 : ((d :: r).head? == some 91) = false := by
      rw [beq_eq_false_iff_ne]
      intro h
      exact dig_not hds 91 (by decide) (by decide) (by rw [Option.some.inj h]; rfl)
    have p3 : decide (0 ≤ Lib.indexByte (d :: r) 46) = false := by
      rw [idx_none]
      · rfl
      · intro h
        exact dig_not (hsg 46 (by rw [hd]; exact h)) 46 (by decide) (by decide) rfl
    rw [p1, p2, p3]
    simp only [Option.bind_some, Bool.false_eq_true, if_false]
    rfl
  rw [if_neg a2] at hf
  by_cases a3 : a = 3
  · rw [if_pos a3, if_pos (by omega)] at hf
    obtain ⟨rfl, rfl⟩ := shape_text ksh (.inl a3)
    have hq : quoteR c = (ba (quoteL c.data.toList), 0) := by
      unfold quoteR
      rw [if_pos (kt a3)]
    rw [hq] at hf
    obtain rfl := (Prod.mk.inj (Option.some.inj hf)).1
    have hs : (ba (quoteL c.data.toList)).data.toList = 34 :: (escL c.data.toList ++ [34]) := rfl
    have g1 : ¬ (ba (quoteL c.data.toList)).toList = ([102, 97, 108, 115, 101] : List UInt8) := fun h => by
      rw [ba_list, hs] at h
      exact absurd (List.cons.inj h).1 (by decide)
    have g2 : ¬ (ba (quoteL c.data.toList)).toList = ([116, 114, 117, 101] : List UInt8) := fun h => by
      rw [ba_list, hs] at h
      exact absurd (List.cons.inj h).1 (by decide)
    unfold value_guess.f
    rw [if_neg g1, if_neg g2, prefix_one, hs]
    simp only [Option.bind_some, List.head?_cons, beq_self_eq_true, if_true]
    rw [unquote_quote c (kt a3)]
    subst a3
    rfl
  rw [if_neg a3] at hf
  by_cases a4 : a = 4
  · rw [if_pos a4] at hf
    obtain ⟨rfl, rfl⟩ := shape_text ksh (.inr a4)
    obtain rfl := (Prod.mk.inj (Option.some.inj hf)).1
    obtain ⟨hm, d, r, hd, hdig⟩ := version_facts c (kv a4)
    have g1 : ¬ c.toList = ([102, 97, 108, 115, 101] : List UInt8) := fun h => by
      rw [ba_list, hd] at h
      exact dig_not (.inr hdig) 102 (by decide) (by decide) (by rw [(List.cons.inj h).1]; rfl)
    have g2 : ¬ c.toList = ([116, 114, 117, 101] : List UInt8) := fun h => by
      rw [ba_list, hd] at h
      exact dig_not (.inr hdig) 116 (by decide) (by decide) (by rw [(List.cons.inj h).1]; rfl)
    have p1 : (c.data.toList.head? == some 34) = false := by
      rw [beq_eq_false_iff_ne, hd]
      intro h
      exact dig_not (.inr hdig) 34 (by decide) (by decide) (by rw [Option.some.inj h]; rfl)
    have p2 : (c.data.toList.head? == some 91) = false := by
      rw [beq_eq_false_iff_ne, hd]
      intro h
      exact dig_not (.inr hdig) 91 (by decide) (by decide) (by rw [Option.some.inj h]; rfl)
    unfold value_guess.f
    rw [if_neg g1, if_neg g2, prefix_one, prefix_one, contains_dot, p1, p2, decide_eq_true (idx_some hm)]
    subst a4
    rfl
  rw [if_neg a4] at hf
  have a5 : a = 5 := by omega
  obtain ⟨l1, l2⟩ := kl a5
  obtain ⟨rfl, rfl⟩ := shape_list ksh a5
  split at hf
  · obtain rfl := (Prod.mk.inj (Option.some.inj hf)).1
    have hs : (ba (listL l)).data.toList = 91 :: restL l := by
      rw [ba_data, restL_join l l2]
      rfl
    have g1 : ¬ (ba (listL l)).toList = ([102, 97, 108, 115, 101] : List UInt8) := fun h => by
      rw [ba_list, hs] at h
      exact absurd (List.cons.inj h).1 (by decide)
    have g2 : ¬ (ba (listL l)).toList = ([116, 114, 117, 101] : List UInt8) := fun h => by
      rw [ba_list, hs] at h
      exact absurd (List.cons.inj h).1 (by decide)
    have hz : 1 ≤ (ba (listL l)).size := by rw [ba_size, hs]; simp
    unfold value_guess.f
    rw [if_neg g1, if_neg g2, prefix_one, prefix_one, hs]
    have p1 : ((91 :: restL l).head? == some (34 : UInt8)) = false := by simp
    have p2 : ((91 :: restL l).head? == some (91 : UInt8)) = true := by simp
    rw [p1, p2]
    simp only [Option.bind_some, Bool.false_eq_true, if_false, if_true]
    rw [if_pos (by omega)]
    unfold value_list.f
    rw [list_l l K _ [] l2 (by
      rw [piece_list _ 1 _ hz (Nat.le_refl _), hs, List.take_of_length_le (by rw [ba_size, hs]; simp)]
      rfl) (by simpa using l1) (by omega)]
    subst a5
    rfl
  · cases hf
theorem parse_fmt (a b : Int) (c s : ByteArray) (l : List ByteArray) (K : Nat) (hK : 3000 < K) (hc : c.size ≤ 4294967280) (hl : l.length ≤ 1000) (hs : ∀ x ∈ l, x.size ≤ 9223372036854775800)
    (hck : value_Check.f K a b c l = some 0) (hf : fmtV a b c l = some (s, 0)) (hv : value_Format.f K a b c l = some (s, 0)) : value_Parse.f K s = some (a, b, c, l, 0) := by
  obtain ⟨r, c1, -, c3⟩ := check_both a b c l K hK hc hl hs
  rw [hck] at c1
  obtain rfl := (Option.some.inj c1)
  obtain ⟨k1, k5, ksh, kb, kn, kt, kv, kl⟩ := c3 rfl
  unfold value_Parse.f
  rw [guess_fmt a b c s l K hK hc k1 k5 ksh kb kn kt kv kl hf]
  simp only [Option.bind_some]
  rw [hv]
  simp
theorem same_l (l : List ByteArray) (hl : l.length ≤ 1000) : ∀ (d k i : Nat), l.length - i = d → d < k → flagstoneref1_Same.l0 k l l (i : Int) = some true := by
  intro d
  induction d with
  | zero =>
    intro k i hd hk
    obtain ⟨k, rfl⟩ : ∃ m, k = m + 1 := ⟨k - 1, by omega⟩
    simp only [flagstoneref1_Same.l0]
    rw [if_neg (by omega)]
  | succ d ih =>
    intro k i hd hk
    obtain ⟨k, rfl⟩ : ∃ m, k = m + 1 := ⟨k - 1, by omega⟩
    simp only [flagstoneref1_Same.l0, if_true]
    rw [if_pos (show (i : Int) < (l.length : Int) by omega), if_pos (by omega), if_pos (show (i : Int) < (l.length : Int) by omega), w64 (by omega) (by omega)]
    exact ih k (i + 1) (by omega) (by omega)
theorem equal_refl (a b : Int) (c : ByteArray) (l : List ByteArray) (hl : l.length ≤ 1000) (K : Nat) (hK : 3000 < K) : flagstoneref3_Equal.f K a b c l a b c l = some true := by
  unfold flagstoneref3_Equal.f flagstoneref1_Same.f
  rw [if_pos rfl, if_pos rfl, if_pos rfl, if_pos rfl]
  have := same_l l hl l.length K 0 (by omega) (by omega)
  have h2 : flagstoneref1_Same.l0 K l l 0 = some true := this
  rw [h2]
  rfl
end Go.Proofs.YtannjakcnnefhaaGreatDoor.V
