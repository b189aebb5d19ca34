import Derived.Test.YtefglphdiimhnaaDoorPFrame
import Derived.Test.YtefglphdiimhnaaDoorPN
import Derived.Lib.ItoaLen
set_option linter.unusedVariables false
set_option linter.unusedSimpArgs false
namespace Go.Proofs.YtefglphdiimhnaaDoor.Plain
open Go Go.RowKit Go.Proofs.YtefglphdiimhnaaDoor.Q Go.Proofs.YtefglphdiimhnaaDoorW.PrintWords Go.Proofs.YtefglphdiimhnaaDoorW.PrintLast Go.Proofs.YtefglphdiimhnaaDoorW.PrintMore
def I64 (n : Int) : Prop := -9223372036854775808 ≤ n ∧ n ≤ 9223372036854775807
theorem key_both {a b : Int} {c : ByteArray} {l : List ByteArray} (hb : I64 b) {k : Nat} (hk : 1 ≤ k) : ∃ s ok, bucket_Key.f k a b c l = some (s, ok) ∧ flagstoneref13_Key.f a b c l = some (s, ok) := by
  obtain ⟨k, rfl⟩ : ∃ k', k = k' + 1 := ⟨k - 1, by omega⟩
  have hn : text_Number.f b = some ⟨(Lib.itoa b).toArray⟩ := by unfold text_Number.f; exact if_pos hb
  have hr : flagstoneref1_Number.f b = some ⟨(Lib.itoa b).toArray⟩ := by unfold flagstoneref1_Number.f; exact if_pos hb
  unfold bucket_Key.f flagstoneref13_Key.f bucket_Key.j0
  by_cases c3 : a = 3
  · subst c3
    exact ⟨_, _, rfl, rfl⟩
  have n3 : (a == 3) = false := by simpa using c3
  by_cases c4 : a = 4
  · subst c4
    exact ⟨_, _, rfl, rfl⟩
  have n4 : (a == 4) = false := by simpa using c4
  by_cases c2 : a = 2
  · subst c2
    simp only [hn, hr]
    exact ⟨_, _, rfl, rfl⟩
  by_cases c1 : a = 1
  · subst c1
    by_cases d : b = 1
    · subst d; exact ⟨_, _, rfl, rfl⟩
    · simp only [if_neg d]
      exact ⟨_, _, rfl, rfl⟩
  · simp only [if_neg c3, if_neg c4, if_neg c2, if_neg c1, n4, Bool.false_eq_true, if_false]
    exact ⟨_, _, rfl, rfl⟩
/-- Both hashes of two texts, the second as long as it can be. -/
theorem of_both2 {s t : ByteArray} {k : Nat} (hs : s.size ≤ 400) (ht : t.size ≤ 140737488351232) (hk : 200000000000000 ≤ k) : ∃ r, bucket_Of.f k s t = some r ∧ flagstoneref13_Of.f k s t = some r := by
  have hls := bytesOf_len s
  have hlt := bytesOf_len t
  have hfl : (frL [bytesOf s, bytesOf t]).length = 16 + s.size + t.size := by
    simp only [frL, List.length_append, lenBs_len, hls, hlt, List.length_nil]; omega
  have hby : ∀ x ∈ frL [bytesOf s, bytesOf t], 0 ≤ x ∧ x ≤ 255 := by
    intro x hx
    simp only [frL, List.mem_append, List.append_nil] at hx
    rcases hx with hx | hx | hx | hx
    · exact lenBs_byte _ _ x hx
    · exact bytesOf_byte s x hx
    · exact lenBs_byte _ _ x hx
    · exact bytesOf_byte t x hx
  have h1 := dig_l0 [bytesOf s, bytesOf t] [] k [] (by rw [hfl]; simp; omega) (by simp) (by simp; omega)
  have h2 := ref_f0 [bytesOf s, bytesOf t] [] k [] (by rw [hfl]; simp; omega) (by simp) (by simp; omega)
  rw [List.nil_append, List.nil_append] at h1 h2
  have g1 : digest_Frame.f k [bytesOf s, bytesOf t] = some (frL [bytesOf s, bytesOf t]) := h1
  have g2 : flagstoneref2_Frame.f k [bytesOf s, bytesOf t] = some (frL [bytesOf s, bytesOf t]) := h2
  have h3 := refsum_ok (l := frL [bytesOf s, bytesOf t]) (by omega) hby 1 0 (k := k) (by omega)
  have hsz : s.size ≤ 140737488355328 ∧ t.size ≤ 140737488355328 := by omega
  have hd : digest_Sum.f 1 0 (frL [bytesOf s, bytesOf t]) = some (sumP 1 0 (frL [bytesOf s, bytesOf t])) := by
    unfold digest_Sum.f
    rw [if_pos ⟨by omega, hby⟩]
  have hnn := sumP_nn 1 0 (frL [bytesOf s, bytesOf t])
  generalize sumP 1 0 (frL [bytesOf s, bytesOf t]) = v at h3 hd hnn
  refine ⟨v % 10000, ?_, ?_⟩
  · unfold bucket_Of.f digest_Hash.f
    rw [if_pos hsz, g1, Option.bind_some, hd, Option.bind_some, Option.bind_some, if_pos hnn]
  · unfold flagstoneref13_Of.f flagstoneref2_Hash.f
    rw [if_pos hsz, g2, Option.bind_some, h3, Option.bind_some, Option.bind_some, if_pos hnn]
/-- An attribute that a call can hold. -/
def GA (x : S98) : Prop := I64 x.f1.f1 ∧ x.f1.f2.size ≤ 140737488351232 ∧ x.f1.f3.length ≤ 8796093022208
def GC (x : S85) : Prop := x.f1.size ≤ 140737488351232 ∧ x.f2.length ≤ 100000000000000 ∧ ∀ a ∈ x.f2, GA a
/-- The attribute of a name, found by both. -/
theorem look_l0 {L : List S98} (n : ByteArray) (u v : ByteArray) (hl : L.length ≤ 100000000000000) (hL : ∀ x ∈ L, GA x) : ∀ (d i k : Nat), i + d = L.length → d + 1 ≤ k →
    ∃ a b c l ok, subject_Lookup.l0 k n L (L.length : Int) (i : Int) = some (a, b, c, l, ok) ∧ flagstoneref5_Lookup.l0 k n (i : Int) u v L = some (a, b, c, l, ok) ∧ I64 b ∧ c.size ≤ 140737488351232 := by
  intro d
  induction d with
  | zero =>
    intro i k hi hk
    obtain ⟨k, rfl⟩ : ∃ k', k = k' + 1 := ⟨k - 1, by omega⟩
    have c1 : ¬ ((i : Int) < (L.length : Int)) := by omega
    refine ⟨0, 0, ⟨#[]⟩, [], false, ?_, ?_, by unfold I64; omega, ?_⟩
    · rw [subject_Lookup.l0, if_neg c1]
    · rw [flagstoneref5_Lookup.l0, if_neg c1]
    · show 0 ≤ _
      exact Nat.zero_le _
  | succ d ih =>
    intro i k hi hk
    obtain ⟨k, rfl⟩ : ∃ k', k = k' + 1 := ⟨k - 1, by omega⟩
    have c1 : (i : Int) < (L.length : Int) := by omega
    have c2 : 0 ≤ (i : Int) := by omega
    have hlt : i < L.length := by omega
    have hw : wrap64 ((i : Int) + 1) = ((i + 1 : Nat) : Int) := by rw [w64 (by omega) (by omega)]; omega
    have hr : rd_T98 L (i : Int) = L[i] := by unfold rd_T98; simp [hlt]
    obtain ⟨g1, g2, g3⟩ := hL _ (List.getElem_mem hlt)
    rw [subject_Lookup.l0, flagstoneref5_Lookup.l0]
    simp only [if_pos c1, if_pos c2, hr, hw]
    by_cases c : (L[i]).f0.toList = n.toList
    · have c4 : (L[i]).f1.f3.length * 16 ≤ 140737488355328 := by omega
      simp only [if_pos c, clone_Value.f, slices_Clone_string_string.f, if_pos c4, Option.bind_some]
      exact ⟨_, _, _, _, _, rfl, rfl, g1, g2⟩
    · simp only [if_neg c]
      exact ih (i + 1) k (by omega) (by omega)
/-- The context of a kind, found by both. -/
theorem find_l0 {L : List S85} (n : ByteArray) (hl : L.length ≤ 100000000000000) : ∀ (d i k : Nat), i + d = L.length → d + 1 ≤ k →
    (idxFrom n (L.drop i) i = -1 ∧ flagstoneref5_Find.l0 k n (i : Int) L = some (⟨#[]⟩, ⟨#[]⟩, [], false)) ∨
    ∃ j : Nat, j < L.length ∧ idxFrom n (L.drop i) i = (j : Int) ∧ flagstoneref5_Find.l0 k n (i : Int) L = some ((rd_T85 L j).f0, (rd_T85 L j).f1, (rd_T85 L j).f2, true) := by
  intro d
  induction d with
  | zero =>
    intro i k hi hk
    obtain ⟨k, rfl⟩ : ∃ k', k = k' + 1 := ⟨k - 1, by omega⟩
    have c1 : ¬ ((i : Int) < (L.length : Int)) := by omega
    left
    rw [flagstoneref5_Find.l0, if_neg c1, List.drop_of_length_le (by omega)]
    exact ⟨rfl, rfl⟩
  | succ d ih =>
    intro i k hi hk
    obtain ⟨k, rfl⟩ : ∃ k', k = k' + 1 := ⟨k - 1, by omega⟩
    have c1 : (i : Int) < (L.length : Int) := by omega
    have c2 : 0 ≤ (i : Int) := by omega
    have hlt : i < L.length := by omega
    have hw : wrap64 ((i : Int) + 1) = ((i + 1 : Nat) : Int) := by rw [w64 (by omega) (by omega)]; omega
    have hr : rd_T85 L (i : Int) = L[i] := by unfold rd_T85; simp [hlt]
    rw [flagstoneref5_Find.l0]
    simp only [if_pos c1, if_pos c2, hr, hw]
    rw [List.drop_eq_getElem_cons hlt, idxFrom]
    by_cases c : (L[i]).f0.toList = n.toList
    · right
      simp only [if_pos c]
      exact ⟨i, hlt, rfl, by rw [hr]⟩
    · simp only [if_neg c]
      exact ih (i + 1) k (by omega) (by omega)
theorem lookup_both {L : List S85} (n b : ByteArray) (hl : L.length ≤ 100) (hL : ∀ x ∈ L, GC x) {k : Nat} (hk : 100000000000001 ≤ k) :
    ∃ r1 r2 r3 r4 ok, subject_Lookup.f k L n b = some (r1, r2, r3, r4, ok) ∧ flagstoneref5_Lookup.f k L n b = some (r1, r2, r3, r4, ok) ∧ I64 r2 ∧ r3.size ≤ 140737488351232 := by
  unfold subject_Lookup.f flagstoneref5_Lookup.f subject_index.f flagstoneref5_Find.f
  have hf := find_l0 (L := L) n (by omega) L.length 0 k (by omega) (by omega)
  rw [List.drop_zero] at hf
  rcases hf with ⟨h1, h2⟩ | ⟨j, hj, h1, h2⟩
  · have h2' : flagstoneref5_Find.l0 k n 0 L = _ := h2
    rw [h1, h2', Option.bind_some, Option.bind_some]
    refine ⟨0, 0, ⟨#[]⟩, [], false, ?_, ?_, by unfold I64; omega, ?_⟩
    · rw [if_pos (by omega)]
    · simp
    · show 0 ≤ _
      exact Nat.zero_le _
  · have h2' : flagstoneref5_Find.l0 k n 0 L = _ := h2
    have hr : rd_T85 L (j : Int) = L[j] := by unfold rd_T85; simp [hj]
    obtain ⟨g1, g2, g3⟩ := hL _ (List.getElem_mem hj)
    have c1 : ¬ ((j : Int) < 0) := by omega
    have c2 : 0 ≤ (j : Int) := by omega
    have c3 : (j : Int) < (L.length : Int) := by omega
    rw [h1, h2', Option.bind_some, Option.bind_some]
    simp only [if_neg c1, if_pos c2, if_pos c3, if_true, hr]
    by_cases c : b.toList = ([107, 101, 121] : List UInt8)
    · simp only [if_pos c]
      exact ⟨_, _, _, _, _, rfl, rfl, by unfold I64; omega, g1⟩
    · simp only [if_neg c]
      exact look_l0 b _ _ g2 g3 (L[j]).f2.length 0 k (by omega) (by omega)
theorem key_size {a b : Int} {c : ByteArray} {l : List ByteArray} (hb : I64 b) (hc : c.size ≤ 140737488351232) {k : Nat} (hk : 1 ≤ k) : ∃ s ok, bucket_Key.f k a b c l = some (s, ok) ∧ flagstoneref13_Key.f a b c l = some (s, ok) ∧ s.size ≤ 140737488351232 := by
  obtain ⟨s, ok, h1, h2⟩ := key_both (a := a) (c := c) (l := l) hb hk
  refine ⟨s, ok, h1, h2, ?_⟩
  have hr : flagstoneref1_Number.f b = some ⟨(Lib.itoa b).toArray⟩ := by unfold flagstoneref1_Number.f; exact if_pos hb
  unfold flagstoneref13_Key.f at h2
  by_cases c1 : a = 1
  · rw [if_pos c1] at h2
    by_cases d : b = 1
    · rw [if_pos d] at h2
      obtain ⟨rfl, rfl⟩ := Prod.mk.inj (Option.some.inj h2)
      show 4 ≤ _; omega
    · rw [if_neg d] at h2
      obtain ⟨rfl, rfl⟩ := Prod.mk.inj (Option.some.inj h2)
      show 5 ≤ _; omega
  rw [if_neg c1] at h2
  by_cases c2 : a = 2
  · rw [if_pos c2, hr] at h2
    obtain ⟨rfl, rfl⟩ := Prod.mk.inj (Option.some.inj h2)
    have := Lib.itoa_length_le b hb.1 hb.2
    show ((Lib.itoa b).toArray).size ≤ _
    rw [List.size_toArray]
    omega
  rw [if_neg c2] at h2
  by_cases c3 : a = 3
  · rw [if_pos c3] at h2
    obtain ⟨rfl, rfl⟩ := Prod.mk.inj (Option.some.inj h2)
    exact hc
  rw [if_neg c3] at h2
  by_cases c4 : a = 4
  · rw [if_pos c4] at h2
    obtain ⟨rfl, rfl⟩ := Prod.mk.inj (Option.some.inj h2)
    exact hc
  · rw [if_neg c4] at h2
    obtain ⟨rfl, rfl⟩ := Prod.mk.inj (Option.some.inj h2)
    show 0 ≤ _; omega
theorem subj_both {L : List S85} (n b s : ByteArray) (hl : L.length ≤ 100) (hL : ∀ x ∈ L, GC x) (hs : s.size ≤ 400) {k : Nat} (hk : 200000000000000 ≤ k) :
    ∃ r ok, bucket_Subject.f k L n b s = some (r, ok) ∧ flagstoneref13_Subject.f k L n b s = some (r, ok) := by
  obtain ⟨r1, r2, r3, r4, ok, h1, h2, h3, h4⟩ := lookup_both n b hl hL (k := k) (by omega)
  unfold bucket_Subject.f flagstoneref13_Subject.f
  rw [h1, h2, Option.bind_some, Option.bind_some]
  cases ok with
  | false => exact ⟨_, _, rfl, rfl⟩
  | true =>
    obtain ⟨t, ok, g1, g2, g3⟩ := key_size (a := r1) (l := r4) h3 h4 (k := k) (by omega)
    simp only [if_true, g1, g2, Option.bind_some]
    cases ok with
    | false => exact ⟨_, _, rfl, rfl⟩
    | true =>
      obtain ⟨r, e1, e2⟩ := of_both2 (s := s) (t := t) hs g3 hk
      simp only [if_true, e1, e2, Option.bind_some]
      exact ⟨_, _, rfl, rfl⟩
theorem texts_short : ∀ i : Int, (rdOf ByteArray.empty textsL i).size ≤ 140737488351232 := by
  intro i
  unfold rdOf
  rw [List.getD_eq_getElem?_getD]
  have : ∀ x ∈ textsL, x.size ≤ 140737488351232 := by decide +kernel
  rcases h : textsL[i.toNat]? with _ | x
  · show 0 ≤ _; omega
  · exact this x (List.mem_of_getElem? h)
theorem versions_short : ∀ i : Int, (rdOf ByteArray.empty versionsL i).size ≤ 140737488351232 := by
  intro i
  unfold rdOf
  rw [List.getD_eq_getElem?_getD]
  have : ∀ x ∈ versionsL, x.size ≤ 140737488351232 := by decide +kernel
  rcases h : versionsL[i.toNat]? with _ | x
  · show 0 ≤ _; omega
  · exact this x (List.mem_of_getElem? h)
theorem lists_short : ∀ i : Int, (rd_L11 listsL i).length ≤ 3 := by
  intro i
  unfold rd_L11
  rw [List.getD_eq_getElem?_getD]
  have : ∀ x ∈ listsL, x.length ≤ 3 := by decide
  rcases h : listsL[i.toNat]? with _ | x
  · simp
  · exact this x (List.mem_of_getElem? h)
theorem text_ok {bs : List Int} {p : Int} (h : CV bs p) : ∃ t p', flagstonedraw_Codes_Text.f bs p = some (t, p') ∧ CV bs p' ∧ t.size ≤ 140737488351232 := by
  obtain ⟨v, p1, e1, a1, b1, c1⟩ := next_ok h (n := 11) (by omega)
  unfold flagstonedraw_Codes_Text.f
  rw [e1, Option.bind_some]
  simp only [if_pos a1, if_pos b1]
  exact ⟨_, _, rfl, c1, texts_short _⟩
theorem empty_short : (⟨#[]⟩ : ByteArray).size ≤ 140737488351232 := by show 0 ≤ _; omega
theorem value_ok {bs : List Int} {p : Int} (h : CV bs p) (k : Int) (h1 : 1 ≤ k) (h5 : k ≤ 5) : ∃ n t l p', flagstonedraw_Codes_Value.f bs p k = some (k, n, t, l, p') ∧ CV bs p' ∧ I64 n ∧ t.size ≤ 140737488351232 ∧ l.length ≤ 8796093022208 := by
  have l0 : ([] : List ByteArray).length ≤ 8796093022208 := by simp
  unfold flagstonedraw_Codes_Value.f
  by_cases c1 : k = 1
  · rw [if_pos c1]
    obtain ⟨v, p1, e1, a1, b1, d1⟩ := next_ok h (n := 2) (by omega)
    rw [e1, Option.bind_some]
    exact ⟨_, _, _, _, rfl, d1, by unfold I64; omega, empty_short, l0⟩
  rw [if_neg c1]
  by_cases c2 : k = 2
  · rw [if_pos c2]
    obtain ⟨v, p1, e1, a1, b1, d1⟩ := next_ok h (n := 9) (by omega)
    have hl : (([0, 1, 17, 18, 19, (-5), 64, 1099511627776, (-1099511627776)] : List Int).length : Int) = 9 := rfl
    rw [Option.bind_some, hl, e1, Option.bind_some]
    simp only [if_pos a1, if_pos b1]
    refine ⟨_, _, _, _, rfl, d1, ?_, empty_short, l0⟩
    have hm := rd_mem (bs := [0, 1, 17, 18, 19, (-5), 64, 1099511627776, (-1099511627776)]) a1 (by rw [hl]; exact b1)
    have : ∀ x ∈ ([0, 1, 17, 18, 19, (-5), 64, 1099511627776, (-1099511627776)] : List Int), -9223372036854775808 ≤ x ∧ x ≤ 9223372036854775807 := by decide
    exact this _ hm
  rw [if_neg c2]
  by_cases c3 : k = 3
  · rw [if_pos c3]
    obtain ⟨t, p1, e1, d1, z1⟩ := text_ok h
    rw [e1, Option.bind_some]
    exact ⟨_, _, _, _, rfl, d1, by unfold I64; omega, z1, l0⟩
  rw [if_neg c3]
  by_cases c4 : k = 4
  · rw [if_pos c4]
    obtain ⟨v, p1, e1, a1, b1, d1⟩ := next_ok h (n := 6) (by omega)
    rw [e1, Option.bind_some]
    simp only [if_pos a1, if_pos b1]
    exact ⟨_, _, _, _, rfl, d1, by unfold I64; omega, versions_short _, l0⟩
  rw [if_neg c4]
  obtain ⟨v, p1, e1, a1, b1, d1⟩ := next_ok h (n := 5) (by omega)
  have hs := lists_short v
  have hlt : ([] : List ByteArray).length + (rd_L11 listsL v).length < 8796093022208 := by simp; omega
  rw [e1, Option.bind_some]
  simp only [if_pos a1, if_pos b1, if_pos hlt]
  obtain rfl : k = 5 := by omega
  exact ⟨_, _, _, _, rfl, d1, by unfold I64; omega, empty_short, by rw [List.nil_append]; omega⟩
theorem ckey_ok {bs : List Int} {p : Int} (h : CV bs p) : ∃ t p', flagstonedraw_Codes_Key.f bs p = some (t, p') ∧ CV bs p' ∧ t.size ≤ 140737488351232 := by
  obtain ⟨v, p1, e1, a1, b1, c1⟩ := next_ok h (n := 10) (by omega)
  unfold flagstonedraw_Codes_Key.f
  rw [e1, Option.bind_some, if_pos ⟨a1, b1⟩]
  exact ⟨_, _, rfl, c1, by show 2 ≤ _; omega⟩
theorem ctx_l0 {bs : List Int} {D : List S65} (hD : D.length ≤ 100) (hd : ∀ x ∈ D, 1 ≤ x.f2 ∧ x.f2 ≤ 5) (kd a b : ByteArray) : ∀ (d i k : Nat) (p : Int) (l : List S98), i + d = D.length → d + 1 ≤ k → CV bs p → l.length ≤ i → (∀ x ∈ l, GA x) →
    ∃ l' p', flagstonedraw_Codes_context.l0 k kd D (i : Int) bs p a b l = some (a, b, l', p') ∧ CV bs p' ∧ l'.length ≤ 100 ∧ ∀ x ∈ l', GA x := by
  intro d
  induction d with
  | zero =>
    intro i k p l hi hk hc hl hg
    obtain ⟨k, rfl⟩ : ∃ k', k = k' + 1 := ⟨k - 1, by omega⟩
    have c1 : ¬ ((i : Int) < (D.length : Int)) := by omega
    rw [flagstonedraw_Codes_context.l0, if_neg c1]
    exact ⟨_, _, rfl, hc, by omega, hg⟩
  | succ d ih =>
    intro i k p l hi hk hc hl hg
    obtain ⟨k, rfl⟩ : ∃ k', k = k' + 1 := ⟨k - 1, by omega⟩
    have c1 : (i : Int) < (D.length : Int) := by omega
    have c2 : 0 ≤ (i : Int) := by omega
    have hlt : i < D.length := by omega
    have hw : wrap64 ((i : Int) + 1) = ((i + 1 : Nat) : Int) := by rw [w64 (by omega) (by omega)]; omega
    have hr : rd_T65 D (i : Int) = D[i] := by unfold rd_T65; simp [hlt]
    obtain ⟨t1, t5⟩ := hd _ (List.getElem_mem hlt)
    rw [flagstonedraw_Codes_context.l0]
    simp only [if_pos c1, if_pos c2, hr, hw]
    by_cases c : (D[i]).f0.toList = kd.toList
    · obtain ⟨v, p1, e1, a1, b1, d1⟩ := next_ok hc (n := 4) (by omega)
      simp only [if_pos c, e1, Option.bind_some]
      by_cases cv : v > 0
      · obtain ⟨n, t, ll, p2, e2, d2, z1, z2, z3⟩ := value_ok d1 (D[i]).f2 t1 t5
        have c5 : l.length < 1954687338268 := by omega
        simp only [if_pos cv, e2, Option.bind_some, if_pos c5]
        refine ih (i + 1) k p2 _ (by omega) (by omega) d2 (by simp; omega) (fun x hx => ?_)
        rw [List.mem_append, List.mem_singleton] at hx
        rcases hx with hx | rfl
        · exact hg x hx
        · exact ⟨z1, z2, z3⟩
      · simp only [if_neg cv]
        exact ih (i + 1) k p1 l (by omega) (by omega) d1 (by omega) hg
    · simp only [if_neg c]
      exact ih (i + 1) k p l (by omega) (by omega) hc (by omega) hg
theorem context_ok {bs : List Int} {p : Int} (h : CV bs p) (kd : ByteArray) {k : Nat} (hk : 100 ≤ k) : ∃ b l p', flagstonedraw_Codes_context.f k bs p kd = some (kd, b, l, p') ∧ CV bs p' ∧ GC ⟨kd, b, l⟩ := by
  obtain ⟨b, p1, e1, d1, z1⟩ := ckey_ok h
  unfold flagstonedraw_Codes_context.f flagstonedraw_Declared.f
  rw [e1, Option.bind_some, Option.bind_some]
  obtain ⟨l, p2, e2, d2, z2, z3⟩ := ctx_l0 (bs := bs) (D := [(⟨(⟨#[100, 101, 118, 105, 99, 101]⟩ : ByteArray), (⟨#[99, 111, 114, 101, 115]⟩ : ByteArray), 2⟩ : S65), (⟨(⟨#[100, 101, 118, 105, 99, 101]⟩ : ByteArray), (⟨#[111, 115]⟩ : ByteArray), 3⟩ : S65), (⟨(⟨#[117, 115, 101, 114]⟩ : ByteArray), (⟨#[97, 103, 101]⟩ : ByteArray), 2⟩ : S65), (⟨(⟨#[117, 115, 101, 114]⟩ : ByteArray), (⟨#[97, 112, 112]⟩ : ByteArray), 4⟩ : S65), (⟨(⟨#[117, 115, 101, 114]⟩ : ByteArray), (⟨#[98, 101, 116, 97]⟩ : ByteArray), 1⟩ : S65), (⟨(⟨#[117, 115, 101, 114]⟩ : ByteArray), (⟨#[99, 111, 117, 110, 116, 114, 121]⟩ : ByteArray), 3⟩ : S65), (⟨(⟨#[117, 115, 101, 114]⟩ : ByteArray), (⟨#[112, 108, 97, 110]⟩ : ByteArray), 3⟩ : S65), (⟨(⟨#[117, 115, 101, 114]⟩ : ByteArray), (⟨#[116, 97, 103, 115]⟩ : ByteArray), 5⟩ : S65)]) (by decide) (by
    intro x hx
    simp only [List.mem_cons, List.not_mem_nil, or_false] at hx
    rcases hx with rfl | rfl | rfl | rfl | rfl | rfl | rfl | rfl <;> exact ⟨by decide, by decide⟩) kd kd b 8 0 k p1 [] rfl (by omega) d1 (by simp) (by simp)
  exact ⟨b, l, p2, e2, d2, z1, (by show l.length ≤ _; omega), z3⟩
theorem subject_ok {bs : List Int} {p : Int} (h : CV bs p) {k : Nat} (hk : 102 ≤ k) : ∃ L p', flagstonedraw_Codes_Subject.f k bs p = some (L, p') ∧ L.length ≤ 2 ∧ ∀ x ∈ L, GC x := by
  obtain ⟨v, p1, e1, a1, b1, d1⟩ := next_ok h (n := 6) (by omega)
  have main : ∀ b : Bool, ∃ L p', flagstonedraw_Codes_Subject.j0 k v b bs p1 = some (L, p') ∧ L.length ≤ 2 ∧ ∀ x ∈ L, GC x := by
    intro b
    obtain ⟨k, rfl⟩ : ∃ k', k = k' + 1 := ⟨k - 1, by omega⟩
    rw [flagstonedraw_Codes_Subject.j0]
    have l0 : ([] : List S85).length < 2513169434916 := by simp
    cases b with
    | true =>
      obtain ⟨b, l, p2, e2, d2, z2⟩ := context_ok d1 (⟨#[100, 101, 118, 105, 99, 101]⟩ : ByteArray) (k := k) (by omega)
      simp only [if_true, e2, Option.bind_some, if_pos l0]
      have m1 : ∀ x ∈ ([] : List S85) ++ [(⟨(⟨#[100, 101, 118, 105, 99, 101]⟩ : ByteArray), b, l⟩ : S85)], GC x := by
        intro x hx
        rw [List.nil_append, List.mem_singleton] at hx
        subst hx
        exact z2
      by_cases c1 : v = 1
      · simp only [if_pos c1]
        exact ⟨_, _, rfl, by simp, m1⟩
      by_cases c5 : v = 5
      · simp only [if_neg c1, if_pos c5]
        exact ⟨_, _, rfl, by simp, m1⟩
      obtain ⟨b', l', p3, e3, d3, z3⟩ := context_ok d2 (⟨#[117, 115, 101, 114]⟩ : ByteArray) (k := k) (by omega)
      have l1 : (([] : List S85) ++ [(⟨(⟨#[100, 101, 118, 105, 99, 101]⟩ : ByteArray), b, l⟩ : S85)]).length < 2513169434916 := by simp
      simp only [if_neg c1, if_neg c5, e3, Option.bind_some, if_pos l1]
      refine ⟨_, _, rfl, by simp, fun x hx => ?_⟩
      rw [List.mem_append, List.mem_singleton] at hx
      rcases hx with hx | rfl
      · exact m1 x hx
      · exact z3
    | false =>
      simp only [Bool.false_eq_true, if_false]
      by_cases c1 : v = 1
      · simp only [if_pos c1]
        exact ⟨_, _, rfl, by simp, by simp⟩
      by_cases c5 : v = 5
      · simp only [if_neg c1, if_pos c5]
        exact ⟨_, _, rfl, by simp, by simp⟩
      obtain ⟨b', l', p3, e3, d3, z3⟩ := context_ok d1 (⟨#[117, 115, 101, 114]⟩ : ByteArray) (k := k) (by omega)
      simp only [if_neg c1, if_neg c5, e3, Option.bind_some, if_pos l0]
      refine ⟨_, _, rfl, by simp, fun x hx => ?_⟩
      rw [List.nil_append, List.mem_singleton] at hx
      subst hx
      exact z3
  unfold flagstonedraw_Codes_Subject.f
  rw [e1, Option.bind_some]
  by_cases c1 : v = 1
  · simp only [if_pos c1]; exact main true
  by_cases c2 : v = 2
  · simp only [if_neg c1, if_pos c2]; exact main true
  · simp only [if_neg c1, if_neg c2]; exact main _
theorem law_l1 (n b s : ByteArray) {Y : List S58} (hY : Y.length ≤ 10) (hs : s.size ≤ 400) (hg : ∀ x ∈ Y, x.f0.length ≤ 100 ∧ ∀ c ∈ x.f0, GC c) : ∀ (d i k : Nat), i + d = Y.length → 200000000000000 + d + 1 ≤ k →
    flagstonelaw13_BucketSubjects.l1 k n b s Y (Y.length : Int) (i : Int) = some true := by
  intro d
  induction d with
  | zero =>
    intro i k hi hk
    obtain ⟨k, rfl⟩ : ∃ k', k = k' + 1 := ⟨k - 1, by omega⟩
    have c1 : ¬ ((i : Int) < (Y.length : Int)) := by omega
    rw [flagstonelaw13_BucketSubjects.l1, if_neg c1]
  | succ d ih =>
    intro i k hi hk
    obtain ⟨k, rfl⟩ : ∃ k', k = k' + 1 := ⟨k - 1, by omega⟩
    have c1 : (i : Int) < (Y.length : Int) := by omega
    have c2 : 0 ≤ (i : Int) := by omega
    have hlt : i < Y.length := by omega
    have hw : wrap64 ((i : Int) + 1) = ((i + 1 : Nat) : Int) := by rw [w64 (by omega) (by omega)]; omega
    have hr : rd_T58 Y (i : Int) = Y[i] := by unfold rd_T58; simp [hlt]
    obtain ⟨g1, g2⟩ := hg _ (List.getElem_mem hlt)
    obtain ⟨r, ok, e1, e2⟩ := subj_both n b s g1 g2 hs (k := k) (by omega)
    obtain ⟨r', ok', e3, e4⟩ := subj_both (⟨#[117, 115, 101, 114]⟩ : ByteArray) (⟨#[107, 101, 121]⟩ : ByteArray) s g1 g2 hs (k := k) (by omega)
    have b1 : (ok != ok) = false := by simp
    have b2 : (ok' != ok') = false := by simp
    rw [flagstonelaw13_BucketSubjects.l1]
    simp only [if_pos c1, if_pos c2, hr, hw, e1, e2, e3, e4, Option.bind_some, if_true, b1, b2, Bool.false_eq_true, if_false]
    exact ih (i + 1) k (by omega) (by omega)
theorem law_l0 (n b s : ByteArray) {D : List S65} {A X : List S85} (hD : D.length ≤ 100) (hs : s.size ≤ 400) (hA : A.length ≤ 100 ∧ ∀ c ∈ A, GC c) (hX : X.length ≤ 100 ∧ ∀ c ∈ X, GC c) : ∀ (d i k : Nat), i + d = D.length → 200000000000010 + d + 1 ≤ k →
    flagstonelaw13_BucketSubjects.l0 k n b s D (i : Int) A X = some true := by
  intro d
  induction d with
  | zero =>
    intro i k hi hk
    obtain ⟨k, rfl⟩ : ∃ k', k = k' + 1 := ⟨k - 1, by omega⟩
    have c1 : ¬ ((i : Int) < (D.length : Int)) := by omega
    rw [flagstonelaw13_BucketSubjects.l0, if_neg c1, Option.bind_some]
    refine law_l1 n b s (by simp) hs (fun x hx => ?_) 2 0 k rfl (by omega)
    simp only [List.mem_cons, List.not_mem_nil, or_false] at hx
    rcases hx with rfl | rfl
    · exact hX
    · exact hA
  | succ d ih =>
    intro i k hi hk
    obtain ⟨k, rfl⟩ : ∃ k', k = k' + 1 := ⟨k - 1, by omega⟩
    have c1 : (i : Int) < (D.length : Int) := by omega
    have c2 : 0 ≤ (i : Int) := by omega
    have hw : wrap64 ((i : Int) + 1) = ((i + 1 : Nat) : Int) := by rw [w64 (by omega) (by omega)]; omega
    obtain ⟨r, ok, e1, e2⟩ := subj_both (rd_T65 D (i : Int)).f0 (rd_T65 D (i : Int)).f1 s hX.1 hX.2 hs (k := k) (by omega)
    have b1 : (ok != ok) = false := by simp
    rw [flagstonelaw13_BucketSubjects.l0]
    simp only [if_pos c1, if_pos c2, hw, e1, e2, Option.bind_some, if_true, b1, Bool.false_eq_true, if_false]
    exact ih (i + 1) k (by omega) (by omega)
theorem subjects_true (l0 : List Int) (A : List S85) (n b s : ByteArray) (h0 : ∀ x ∈ l0, 0 ≤ x ∧ x < 256) (hA : A.length ≤ 8 → ∀ c ∈ A, GC c) : ∃ k, flagstonelaw13_BucketSubjects.f k l0 A n b s = some true := by
  obtain ⟨K, hK⟩ : ∃ K : Nat, K = 300000000000000 := ⟨_, rfl⟩
  refine ⟨K + 1, ?_⟩
  unfold flagstonelaw13_BucketSubjects.f flagstonelaw13_awake.f
  rw [Option.bind_some, if_pos rfl]
  by_cases c1 : (A.length : Int) > 8
  · rw [if_pos c1, flagstonelaw13_BucketSubjects.j0, if_pos rfl]
  rw [if_neg c1, flagstonelaw13_BucketSubjects.j0]
  by_cases c2 : (s.size : Int) > 400
  · rw [decide_eq_true c2, if_pos rfl]
  rw [decide_eq_false c2, if_neg (by decide)]
  obtain ⟨bs, e0, v0⟩ := new_okm 60 (by omega) (by omega) h0
  rw [e0, Option.bind_some]
  obtain ⟨X, p, e1, z1, z2⟩ := subject_ok v0 (k := K) (by omega)
  simp only [e1, Option.bind_some, flagstonedraw_Declared.f]
  exact law_l0 n b s (by decide) (by omega) ⟨by omega, hA (by omega)⟩ ⟨by omega, z2⟩ 8 0 K rfl (by omega)
end Go.Proofs.YtefglphdiimhnaaDoor.Plain
