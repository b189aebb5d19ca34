import Derived.Test.YtannjakcnnefhaaGreatDoorKPFmt
set_option linter.unusedVariables false
set_option linter.unusedSimpArgs false
namespace Go.Proofs.YtannjakcnnefhaaGreatDoor.V
open Go Go.RowKit Go.Proofs.YtannjakcnnefhaaGreatDoor Go.Proofs.YtannjakcnnefhaaGreatDoorW.PrintWords Go.Proofs.YtannjakcnnefhaaGreatDoorW.PrintLast Go.Proofs.YtannjakcnnefhaaGreatDoorW.PrintMore
/-- strings.HasPrefix at one letter. -/
theorem prefix_one (s : ByteArray) (c : UInt8) : strings_HasPrefix.f s ⟨#[c]⟩ = some (s.data.toList.head? == some c) := by
  unfold strings_HasPrefix.f stringslite_HasPrefix.f
  have e1 : ((⟨#[c]⟩ : ByteArray).size : Int) = 1 := rfl
  rw [e1]
  cases hs : s.data.toList with
  | nil =>
    have h0 : s.size = 0 := by rw [ba_size, hs]; rfl
    rw [if_neg (by omega)]
    rfl
  | cons d r =>
    have h1 : 1 ≤ s.size := by rw [ba_size, hs]; simp
    rw [if_pos (by omega), if_pos (by omega), if_pos (by omega)]
    simp only [Option.bind_some]
    have e2 : (s.extract 0 (1 : Int).toNat).toList = [d] := by
      rw [ba_list, show (1 : Int).toNat = 1 from rfl]
      have h3 := Lib.extract_from_zero s 1
      rw [h3, hs]
      rfl
    have e3 : (⟨#[c]⟩ : ByteArray).toList = [c] := by rw [ba_list]
    rw [e2, e3]
    simp
/-- strings.TrimPrefix at ", ". -/
theorem trim_sep (s : ByteArray) : (∃ r, s.data.toList = 44 :: 32 :: r ∧ strings_TrimPrefix.f s ⟨#[44, 32]⟩ = some (ba r)) ∨ ((∀ r, s.data.toList ≠ 44 :: 32 :: r) ∧ strings_TrimPrefix.f s ⟨#[44, 32]⟩ = some s) := by
  unfold strings_TrimPrefix.f stringslite_TrimPrefix.f stringslite_HasPrefix.f
  have e1 : ((⟨#[44, 32]⟩ : ByteArray).size : Int) = 2 := rfl
  have e3 : (⟨#[44, 32]⟩ : ByteArray).toList = [44, 32] := by rw [ba_list]
  rw [e1, e3]
  by_cases h2 : (s.size : Int) ≥ 2
  · rw [if_pos h2, if_pos (by omega), if_pos (by omega)]
    simp only [Option.bind_some]
    have e2 : (s.extract 0 (2 : Int).toNat).toList = s.data.toList.take 2 := by
      rw [ba_list, show (2 : Int).toNat = 2 from rfl]
      exact Lib.extract_from_zero s 2
    rw [e2]
    have hl : 2 ≤ s.data.toList.length := by rw [data_length]; omega
    rcases hs : s.data.toList with _ | ⟨x, _ | ⟨y, r⟩⟩
    · rw [hs] at hl; simp at hl
    · rw [hs] at hl; simp at hl
    · by_cases hxy : x = 44 ∧ y = 32
      · obtain ⟨rfl, rfl⟩ := hxy
        refine .inl ⟨r, rfl, ?_⟩
        have hb : (List.take 2 (44 :: 32 :: r) == ([44, 32] : List UInt8)) = true := by simp
        rw [hb, if_pos rfl, if_pos (by omega), if_pos (by omega)]
        simp only [Option.bind_some]
        refine congrArg some (ba_ext ?_)
        rw [ba_data, show (2 : Int).toNat = 2 from rfl]
        have : (s.extract 2 s.size).data.toList = s.data.toList.drop 2 := by
          rw [piece_list s 2 s.size (by omega) (Nat.le_refl _), List.take_of_length_le (by rw [List.length_drop, data_length]; exact Nat.le_refl _)]
        rw [this, hs]
        rfl
      · refine .inr ⟨fun r' h => hxy (by simp at h; exact ⟨h.1, h.2.1⟩), ?_⟩
        have hb : (List.take 2 (x :: y :: r) == ([44, 32] : List UInt8)) = false := by
          rw [beq_eq_false_iff_ne]
          intro h
          simp at h
          exact hxy h
        rw [hb]
        rfl
  · rw [if_neg h2]
    refine .inr ⟨fun r h => ?_, rfl⟩
    have := data_length s
    rw [h] at this
    simp at this
    omega
/-- The length of a quotation at the beginning. -/
theorem quoted_l (s : ByteArray) (hs : s.size ≤ 1000000) (rest : List UInt8) : ∀ (t : List UInt8) (k i : Nat), 1 ≤ i → s.data.toList.drop i = escL t ++ 34 :: rest → 2 * t.length + 2 < k →
    value_quoted.l0 k s false (i : Int) = some ((i + (escL t).length + 1 : Nat) : Int)
  | [], k, i, h1, h, hk => by
    obtain ⟨k, rfl⟩ : ∃ m, k = m + 1 := ⟨k - 1, by omega⟩
    have hi : i < s.size := by
      rcases Nat.lt_or_ge i s.size with h2 | h2
      · exact h2
      · rw [List.drop_of_length_le (by rw [data_length]; exact h2)] at h
        simp [escL] at h
    rw [drop_at s i hi, escL, List.nil_append] at h
    obtain ⟨e, -⟩ := List.cons.inj h
    simp only [value_quoted.l0, Bool.false_eq_true, if_false]
    rw [if_pos (by omega), if_pos (by omega), bt_list s i hi, e, if_neg (by decide), if_pos (by decide), w64 (by omega) (by omega)]
    simp [escL]
  | c :: t, k, i, h1, h, hk => by
    simp only [List.length_cons] at hk
    obtain ⟨k, rfl⟩ : ∃ m, k = m + 2 := ⟨k - 2, by omega⟩
    have hi : i < s.size := by
      rcases Nat.lt_or_ge i s.size with h2 | h2
      · exact h2
      · rw [List.drop_of_length_le (by rw [data_length]; exact h2)] at h
        unfold escL escC at h
        split at h <;> simp at h
    rw [drop_at s i hi, escL] at h
    by_cases hc : c = 34 ∨ c = 92
    · have e : escC c = [92, c] := by unfold escC; rw [if_pos hc]
      rw [e] at h
      simp only [List.cons_append, List.nil_append] at h
      obtain ⟨e1, h2⟩ := List.cons.inj h
      have hi2 : i + 1 < s.size := by
        rcases Nat.lt_or_ge (i + 1) s.size with h3 | h3
        · exact h3
        · rw [List.drop_of_length_le (by rw [data_length]; exact h3)] at h2
          simp at h2
      rw [drop_at s (i + 1) hi2] at h2
      obtain ⟨e2, h3⟩ := List.cons.inj h2
      have ih := quoted_l s hs rest t k (i + 1 + 1) (by omega) h3 (by omega)
      have s1 : value_quoted.l0 (k + 2) s false (i : Int) = value_quoted.l0 (k + 1) s true ((i + 1 : Nat) : Int) := by
        conv => lhs; rw [value_quoted.l0]
        simp only [Bool.false_eq_true, if_false]
        rw [if_pos (by omega), if_pos (by omega), bt_list s i hi, e1, if_pos (by decide), w64 (by omega) (by omega)]
        rfl
      have s2 : value_quoted.l0 (k + 1) s true ((i + 1 : Nat) : Int) = value_quoted.l0 k s false ((i + 1 + 1 : Nat) : Int) := by
        conv => lhs; rw [value_quoted.l0]
        simp only [if_true]
        rw [if_pos (by omega), w64 (by omega) (by omega)]
        rfl
      rw [s1, s2, ih, escL, e]
      simp
      omega
    · have e : escC c = [c] := by unfold escC; rw [if_neg hc]
      rw [e] at h
      simp only [List.cons_append, List.nil_append] at h
      obtain ⟨e1, h2⟩ := List.cons.inj h
      have ih := quoted_l s hs rest t (k + 1) (i + 1) (by omega) h2 (by omega)
      have n92 : ¬ ((c.toNat : Int) = 92) := fun hh => hc (.inr (UInt8.toNat_inj.1 (show c.toNat = 92 by omega)))
      have n34 : ¬ ((c.toNat : Int) = 34) := fun hh => hc (.inl (UInt8.toNat_inj.1 (show c.toNat = 34 by omega)))
      have s1 : value_quoted.l0 (k + 2) s false (i : Int) = value_quoted.l0 (k + 1) s false ((i + 1 : Nat) : Int) := by
        conv => lhs; rw [value_quoted.l0]
        simp only [Bool.false_eq_true, if_false]
        rw [if_pos (by omega), if_pos (by omega), bt_list s i hi, e1, if_neg n92, if_neg n34, w64 (by omega) (by omega)]
        rfl
      rw [s1, ih, escL, e]
      simp
      omega
/-- A quotation is read as it was. -/
theorem unquote_quote (s : ByteArray) (hv : validB s = true) : text_Unquote.f (ba (quoteL s.data.toList)) = some (s, 0) := by
  have h200 := validB_size hv
  have hlen := escL_len s.data.toList
  rw [data_length] at hlen
  have hsz : (ba (quoteL s.data.toList)).size = (escL s.data.toList).length + 2 := by rw [ba_size, ba_data]; simp [quoteL]
  unfold text_Unquote.f
  rw [if_pos (by omega)]
  unfold unquoteR
  have hm : marks (ba (quoteL s.data.toList)) := by
    refine ⟨by omega, rfl, ?_⟩
    have : (ba (quoteL s.data.toList))[(ba (quoteL s.data.toList)).size - 1]'(by omega) = (quoteL s.data.toList)[(quoteL s.data.toList).length - 1]'(by simp [quoteL]) := by
      have h1 : (ba (quoteL s.data.toList)).size = (quoteL s.data.toList).length := by rw [ba_size, ba_data]
      simp only [h1]
      rfl
    rw [this]
    simp [quoteL]
  rw [if_pos hm]
  have hin : (inside (ba (quoteL s.data.toList))).data.toList = escL s.data.toList := by
    unfold inside
    rw [piece_list _ 1 _ (by omega) (by omega), hsz, ba_data]
    simp [quoteL]
  rw [hin]
  have hu := unqA_esc s.data.toList [] []
  rw [List.append_nil] at hu
  rw [hu]
  have e : unqA ([] ++ s.data.toList) false [] = some s.data.toList := by simp [unqA]
  rw [e]
  have e2 : ba s.data.toList = s := ba_ext rfl
  show some (if validB (ba s.data.toList) = true then (ba s.data.toList, (0 : Int)) else (ba [], 2)) = _
  rw [e2, if_pos hv]
/-- What stands behind an element of a list. -/
def tailL : List ByteArray → List UInt8
  | [] => [93]
  | y :: q => 44 :: 32 :: (quoteL y.data.toList ++ tailL q)
/-- What stands behind the opening bracket of a list. -/
def restL : List ByteArray → List UInt8
  | [] => [93]
  | x :: r => quoteL x.data.toList ++ tailL r
theorem quoteR_valid {x : ByteArray} (hx : validB x = true) : (quoteR x).1.data.toList = quoteL x.data.toList := by unfold quoteR; rw [if_pos hx]; rfl
theorem tailL_join : ∀ l : List ByteArray, (∀ x ∈ l, validB x = true) → tailL l = Lib.joinTail [44, 32] (l.map fun s => (quoteR s).1.data.toList) ++ [93]
  | [], _ => rfl
  | y :: q, h => by
    rw [tailL, tailL_join q (fun z hz => h z (List.mem_cons_of_mem _ hz))]
    simp [Lib.joinTail, quoteR_valid (h y (List.mem_cons_self ..))]
theorem restL_join (l : List ByteArray) (hv : ∀ x ∈ l, validB x = true) : restL l = Lib.join (l.map fun s => (quoteR s).1.data.toList) [44, 32] ++ [93] := by
  cases l with
  | nil => rfl
  | cons x r =>
    rw [List.map_cons, Lib.join_cons, quoteR_valid (hv x (List.mem_cons_self ..)), List.append_assoc, restL, tailL_join r (fun y hy => hv y (List.mem_cons_of_mem _ hy))]
theorem tailL_len : ∀ l : List ByteArray, (∀ x ∈ l, validB x = true) → (tailL l).length ≤ 404 * l.length + 1
  | [], _ => by simp [tailL]
  | y :: q, h => by
    have h1 := tailL_len q (fun z hz => h z (List.mem_cons_of_mem _ hz))
    have h2 := escL_len y.data.toList
    have h3 := validB_size (h y (List.mem_cons_self ..))
    rw [data_length] at h2
    rw [tailL]
    simp only [List.length_cons, List.length_append, quoteL, List.length_nil]
    omega
/-- value.list reads the elements. -/
theorem list_l : ∀ (m : List ByteArray) (k : Nat) (s : ByteArray) (acc : List ByteArray), (∀ x ∈ m, validB x = true) → s.data.toList = restL m → acc.length + m.length ≤ 20 → 2 * m.length + 2000 < k →
    value_list.l0 k s 5 0 ⟨#[]⟩ acc = some (5, 0, ⟨#[]⟩, acc ++ m)
  | [], k, s, acc, hv, hs, hl, hk => by
    obtain ⟨k, rfl⟩ : ∃ n, k = n + 2 := ⟨k - 2, by omega⟩
    have h93 : s.toList = ([93] : List UInt8) := by rw [ba_list, hs]; rfl
    simp only [value_list.l0, value_list.j1]
    rw [if_pos h93]
    simp
  | x :: m, k, s, acc, hv, hs, hl, hk => by
    obtain ⟨k, rfl⟩ : ∃ n, k = n + 2 := ⟨k - 2, by omega⟩
    simp only [List.length_cons] at hl hk
    have hx := hv x (List.mem_cons_self ..)
    have h200 := validB_size hx
    have hel := escL_len x.data.toList
    rw [data_length] at hel
    have htl := tailL_len m (fun y hy => hv y (List.mem_cons_of_mem _ hy))
    obtain ⟨T, hT⟩ : ∃ T, T = tailL m := ⟨_, rfl⟩
    have hs2 : s.data.toList = 34 :: (escL x.data.toList ++ 34 :: T) := by
      rw [hs, restL, ← hT]
      simp [quoteL]
    have hsz : s.size = (escL x.data.toList).length + T.length + 2 := by rw [ba_size, hs2]; simp; omega
    rw [← hT] at htl
    have hsmall : s.size ≤ 1000000 := by omega
    have h93 : ¬ s.toList = ([93] : List UInt8) := by
      rw [ba_list, hs2]
      intro h
      simp at h
    have hq : value_quoted.f k s = some ((1 + (escL x.data.toList).length + 1 : Nat) : Int) := by
      unfold value_quoted.f
      have := quoted_l s hsmall T x.data.toList k 1 (Nat.le_refl _) (by rw [hs2]; rfl) (by rw [data_length]; omega)
      exact this
    have hsplit : s.data.toList = quoteL x.data.toList ++ T := by rw [hs2]; simp [quoteL]
    have hqn : (quoteL x.data.toList).length = 1 + (escL x.data.toList).length + 1 := by simp [quoteL]; omega
    simp only [value_list.l0, value_list.j1]
    rw [if_neg h93, decide_eq_true (show (acc.length : Int) ≤ 20 by omega), if_pos rfl, hq]
    simp only [Option.bind_some]
    rw [if_pos (by omega), if_pos (by omega)]
    have e1 : s.extract 0 (((1 + (escL x.data.toList).length + 1 : Nat) : Int)).toNat = ba (quoteL x.data.toList) := by
      apply ba_ext
      rw [Int.toNat_natCast, Lib.extract_from_zero, hsplit, ba_data, ← hqn, List.take_left]
    have e2 : (s.extract (((1 + (escL x.data.toList).length + 1 : Nat) : Int)).toNat s.size).data.toList = T := by
      rw [Int.toNat_natCast, piece_list _ _ _ (by omega) (Nat.le_refl _), hsplit, ← hqn, List.drop_left, List.take_of_length_le (by rw [ba_size, hsplit, List.length_append]; omega)]
    rw [e1, unquote_quote x hx]
    simp only [Option.bind_some, if_true]
    rw [if_pos (by omega)]
    have hv' : ∀ y ∈ m, validB y = true := fun y hy => hv y (List.mem_cons_of_mem _ hy)
    have ih := fun s' (h' : s'.data.toList = restL m) => list_l m k s' (acc ++ [x]) hv' h' (by simp; omega) (by omega)
    have hend : ∃ s', strings_TrimPrefix.f (s.extract (((1 + (escL x.data.toList).length + 1 : Nat) : Int)).toNat s.size) ⟨#[44, 32]⟩ = some s' ∧ s'.data.toList = restL m := by
      rcases trim_sep (s.extract (((1 + (escL x.data.toList).length + 1 : Nat) : Int)).toNat s.size) with ⟨r, h1, h2⟩ | ⟨h1, h2⟩
      · refine ⟨_, h2, ?_⟩
        rw [e2, hT] at h1
        cases m with
        | nil => simp [tailL] at h1
        | cons y q =>
          rw [tailL] at h1
          simp only [List.cons.injEq, true_and] at h1
          rw [ba_data, ← h1]
          rfl
      · refine ⟨_, h2, ?_⟩
        rw [e2, hT] at h1 ⊢
        cases m with
        | nil => rfl
        | cons y q => exact absurd rfl (h1 (quoteL y.data.toList ++ tailL q))
    obtain ⟨s', g1, g2⟩ := hend
    rw [g1]
    simp only [Option.bind_some]
    rw [ih s' g2]
    simp
end Go.Proofs.YtannjakcnnefhaaGreatDoor.V
