import Derived.Test.YtannjakcnnefhaaGreatDoorKPVal
set_option linter.unusedVariables false
set_option linter.unusedSimpArgs false
namespace Go.Proofs.YtannjakcnnefhaaGreatDoor.V
open Go Go.RowKit Go.Proofs.YtannjakcnnefhaaGreatDoor Go.Proofs.YtannjakcnnefhaaGreatDoorW.PrintWords Go.Proofs.YtannjakcnnefhaaGreatDoorW.PrintLast Go.Proofs.YtannjakcnnefhaaGreatDoorW.PrintMore
theorem ba_ext {a b : ByteArray} (h : a.data.toList = b.data.toList) : a = b := by
  apply ByteArray.ext
  exact Array.toList_inj.1 h
theorem ba_append (a b : ByteArray) : (a ++ b).data.toList = a.data.toList ++ b.data.toList := by simp
theorem ba_data (l : List UInt8) : (ba l).data.toList = l := rfl
theorem ba_size (a : ByteArray) : a.size = a.data.toList.length := (data_length a).symm
def numsOf (l : List UInt8) : List Int := l.map fun b => (b.toNat : Int)
theorem bt_list (s : ByteArray) (i : Nat) (h : i < s.size) : bt s (i : Int) = ((s[i]'h).toNat : Int) := by
  unfold bt
  rw [dif_pos (show (i : Int).toNat < s.size by omega)]
  rfl
theorem refquote_l (s : ByteArray) (hs : s.size ≤ 1000) : ∀ (d k i : Nat) (acc : List Int), s.size - i = d → d < k → acc.length + 2 * d ≤ 10000 →
    flagstoneref1_Quote.l0 k s acc (i : Int) = some (strOfNums (acc ++ numsOf (escL (s.data.toList.drop i)) ++ [34]), 0) := by
  intro d
  induction d with
  | zero =>
    intro k i acc hd hk hl
    obtain ⟨k, rfl⟩ : ∃ m, k = m + 1 := ⟨k - 1, by omega⟩
    simp only [flagstoneref1_Quote.l0]
    rw [if_neg (by omega), if_pos (by omega), List.drop_of_length_le (by rw [data_length]; omega)]
    simp [escL, numsOf]
  | succ d ih =>
    intro k i acc hd hk hl
    obtain ⟨k, rfl⟩ : ∃ m, k = m + 1 := ⟨k - 1, by omega⟩
    have hi : i < s.size := by omega
    have hdr : s.data.toList.drop i = s[i] :: s.data.toList.drop (i + 1) := drop_at s i hi
    simp only [flagstoneref1_Quote.l0]
    rw [if_pos (by omega), if_pos (by omega), bt_list s i hi, w64 (by omega) (by omega)]
    rw [hdr, escL]
    by_cases h1 : ((s[i]'hi).toNat : Int) = 34
    · have e : escC (s[i]'hi) = [92, s[i]] := by unfold escC; rw [if_pos (.inl (UInt8.toNat_inj.1 (show (s[i]'hi).toNat = 34 by omega)))]
      rw [if_pos h1, if_pos (by omega)]
      simp only [Option.bind_some]
      rw [if_pos (by simp; omega), show (i : Int) + 1 = ((i + 1 : Nat) : Int) by omega, ih k (i + 1) _ (by omega) (by omega) (by simp; omega), e]
      simp [numsOf]
    · rw [if_neg h1]
      by_cases h2 : ((s[i]'hi).toNat : Int) = 92
      · have e : escC (s[i]'hi) = [92, s[i]] := by unfold escC; rw [if_pos (.inr (UInt8.toNat_inj.1 (show (s[i]'hi).toNat = 92 by omega)))]
        rw [if_pos h2, if_pos (by omega)]
        simp only [Option.bind_some]
        rw [if_pos (by simp; omega), show (i : Int) + 1 = ((i + 1 : Nat) : Int) by omega, ih k (i + 1) _ (by omega) (by omega) (by simp; omega), e]
        simp [numsOf]
      · have e : escC (s[i]'hi) = [s[i]] := by
          unfold escC
          rw [if_neg]
          rintro (h | h)
          · exact h1 (by rw [h]; rfl)
          · exact h2 (by rw [h]; rfl)
        rw [if_neg h2, if_pos (by omega), show (i : Int) + 1 = ((i + 1 : Nat) : Int) by omega, ih k (i + 1) _ (by omega) (by omega) (by simp; omega), e]
        simp [numsOf]
theorem strOf_nums (l : List UInt8) : (strOfNums (numsOf l)).data.toList = l := by
  unfold strOfNums numsOf
  simp
  have h : ((fun n : Int => UInt8.ofNat n.toNat) ∘ fun b : UInt8 => (b.toNat : Int)) = id := funext fun b => by simp
  rw [h, List.map_id]
theorem refquote (s : ByteArray) (hs : s.size ≤ 9223372036854775800) (k : Nat) (hk : 1000 < k) : flagstoneref1_Quote.f k s = some (quoteR s) := by
  unfold flagstoneref1_Quote.f quoteR
  rw [refvalid s hs k (by omega)]
  simp only [Option.bind_some]
  cases hv : validB s with
  | false => rfl
  | true =>
    have h200 := validB_size hv
    rw [if_pos rfl, if_pos rfl]
    have h := refquote_l s (by omega) s.size k 0 [34] (by omega) (by omega) (by simp; omega)
    have h' : flagstoneref1_Quote.l0 k s [34] 0 = _ := h
    rw [h']
    refine congrArg some (Prod.ext (ba_ext ?_) rfl)
    have e : ([34] : List Int) ++ numsOf (escL (s.data.toList.drop 0)) ++ [34] = numsOf (quoteL s.data.toList) := by
      simp [quoteL, numsOf]
    rw [e, strOf_nums]
    rfl
theorem refformat_l (l : List ByteArray) (hl : l.length ≤ 20) (hs : ∀ x ∈ l, x.size ≤ 9223372036854775800) (x1 x2 x3 : Int) (x4 : ByteArray) : ∀ (d k i : Nat) (acc : ByteArray), l.length - i = d → d + 1000 < k → acc.size + 404 * d ≤ 20000 →
    ∃ r, flagstoneref3_Format.l0 k acc (i : Int) x1 x2 x4 l = some (r, 0) ∧ r.data.toList = acc.data.toList ++ ((if i = 0 then Lib.join ((l.drop i).map fun s => (quoteR s).1.data.toList) [44, 32] else Lib.joinTail [44, 32] ((l.drop i).map fun s => (quoteR s).1.data.toList)) ++ [93]) := by
  intro d
  induction d with
  | zero =>
    intro k i acc hd hk ha
    obtain ⟨k, rfl⟩ : ∃ m, k = m + 1 := ⟨k - 1, by omega⟩
    refine ⟨acc ++ ⟨#[93]⟩, ?_, ?_⟩
    · simp only [flagstoneref3_Format.l0]
      rw [if_neg (by omega), if_pos (by omega)]
    · rw [List.drop_of_length_le (by omega), ba_append]
      have e1 : Lib.join ([] : List (List UInt8)) [44, 32] = [] := rfl
      have e2 : Lib.joinTail [44, 32] ([] : List (List UInt8)) = [] := rfl
      rw [List.map_nil, e1, e2, ite_self]
      rfl
  | succ d ih =>
    intro k i acc hd hk ha
    obtain ⟨k, rfl⟩ : ∃ m, k = m + 1 := ⟨k - 1, by omega⟩
    have hi : i < l.length := by omega
    have hq := refquote l[i] (hs _ (List.getElem_mem _)) k (by omega)
    have hql := quoteR_len l[i]
    rw [← ba_size] at hql
    have hdr : l.drop i = l[i] :: l.drop (i + 1) := List.drop_eq_getElem_cons hi
    simp only [flagstoneref3_Format.l0]
    rw [if_pos (by omega), if_pos (by omega), rd_at l i hi, hq]
    simp only [Option.bind_some]
    rw [w64 (by omega) (by omega), hdr, List.map_cons]
    by_cases h0 : i = 0
    · subst h0
      rw [if_neg (by omega), if_pos (by omega), if_pos rfl]
      obtain ⟨r, e1, e2⟩ := ih k 1 (acc ++ (quoteR l[0]).1) (by omega) (by omega) (by rw [ByteArray.size_append]; omega)
      refine ⟨r, e1, ?_⟩
      rw [e2, if_neg (by omega), ba_append, Lib.join_cons]
      simp
    · rw [if_pos (by omega), if_pos (by omega), if_pos (by rw [ByteArray.size_append]; show acc.size + 2 + _ ≤ _; omega), if_neg h0]
      obtain ⟨r, e1, e2⟩ := ih k (i + 1) (acc ++ ⟨#[44, 32]⟩ ++ (quoteR l[i]).1) (by omega) (by omega) (by rw [ByteArray.size_append, ByteArray.size_append]; show acc.size + 2 + _ + _ ≤ _; omega)
      refine ⟨r, e1, ?_⟩
      rw [e2, if_neg (by omega), ba_append, ba_append]
      have e3 : (⟨#[44, 32]⟩ : ByteArray).data.toList = [44, 32] := rfl
      rw [e3]
      simp [Lib.joinTail]
/-- The source form of a value, or the error. -/
theorem format_both (a b : Int) (c : ByteArray) (l : List ByteArray) (K : Nat) (hK : 3000 < K) (hc : c.size ≤ 4294967280) (hl : l.length ≤ 1000) (hs : ∀ x ∈ l, x.size ≤ 9223372036854775800) :
    ∃ s e, value_Format.f K a b c l = some (s, e) ∧ flagstoneref3_Format.f K a b c l = some (s, e) ∧ (e = 0 → value_Check.f K a b c l = some 0 ∧ fmtV a b c l = some (s, 0)) := by
  obtain ⟨r, c1, c2, c3⟩ := check_both a b c l K hK hc hl hs
  unfold value_Format.f flagstoneref3_Format.f
  rw [c1, c2]
  simp only [Option.bind_some]
  by_cases hr : r = 0
  · subst hr
    obtain ⟨k1, k5, ksh, kb, kn, kt, kv, kl⟩ := c3 rfl
    rw [if_neg (by decide), if_pos rfl]
    unfold fmtV
    by_cases a1 : a = 1
    · rw [if_pos a1, if_pos a1]
      rcases kb a1 with b0 | b0
      · subst b0
        exact ⟨_, _, rfl, rfl, fun _ => ⟨rfl, rfl⟩⟩
      · subst b0
        exact ⟨_, _, rfl, rfl, fun _ => ⟨rfl, rfl⟩⟩
    rw [if_neg a1, if_neg a1]
    by_cases a2 : a = 2
    · obtain ⟨n1, n2⟩ := kn a2
      rw [if_pos a2, if_pos a2]
      unfold text_Number.f flagstoneref1_Number.f
      rw [if_pos (by omega)]
      exact ⟨_, _, rfl, rfl, fun _ => ⟨rfl, rfl⟩⟩
    rw [if_neg a2, if_neg a2]
    by_cases a3 : a = 3
    · rw [if_pos a3, if_pos a3, if_pos (by omega), refquote c (by omega) K (by omega)]
      have hq : quoteR c = ((quoteR c).1, 0) := by
        unfold quoteR
        rw [if_pos (kt a3)]
      refine ⟨(quoteR c).1, 0, congrArg some hq, ?_, fun _ => ⟨rfl, congrArg some hq⟩⟩
      rw [hq]
      rfl
    rw [if_neg a3, if_neg a3]
    by_cases a4 : a = 4
    · rw [if_pos a4, if_pos a4]
      exact ⟨_, _, rfl, rfl, fun _ => ⟨rfl, rfl⟩⟩
    rw [if_neg a4, if_neg a4]
    obtain ⟨l1, l2⟩ := kl (by omega)
    rw [if_pos ⟨l1, fun x hx => by have := hs x hx; omega⟩]
    obtain ⟨r, e1, e2⟩ := refformat_l l l1 hs a b 0 c l.length K 0 ⟨#[91]⟩ (by omega) (by omega) (by show 1 + _ ≤ _; omega)
    have e1' : flagstoneref3_Format.l0 K ⟨#[91]⟩ 0 a b c l = some (r, 0) := e1
    refine ⟨ba (listL l), 0, rfl, ?_, fun _ => ⟨rfl, rfl⟩⟩
    rw [e1']
    refine congrArg some (Prod.ext (ba_ext ?_) rfl)
    rw [e2, if_pos rfl]
    rfl
  · rw [if_pos hr, if_neg hr]
    exact ⟨_, _, rfl, rfl, fun h => absurd h hr⟩
end Go.Proofs.YtannjakcnnefhaaGreatDoor.V
