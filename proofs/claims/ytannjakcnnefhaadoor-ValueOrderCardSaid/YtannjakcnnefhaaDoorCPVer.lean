import Derived.Test.YtannjakcnnefhaaDoorCPNumI
import Derived.Test.YtannjakcnnefhaaDoorCPParts
import Derived.Test.YtannjakcnnefhaaDoorCStrOrd
import Derived.Test.YtannjakcnnefhaaDoorCWCmp3
set_option linter.unusedVariables false
set_option linter.unusedSimpArgs false
namespace Go.Proofs.YtannjakcnnefhaaDoor
open Go Go.RowKit
/-- What three answers of a comparison have to do with one another: of x and y, of y and z, of x and z. -/
def T3 (xy yz xz : Int) : Prop := (xy = 0 → xz = yz) ∧ (yz = 0 → xz = xy) ∧ (xy < 0 → yz < 0 → xz < 0)
theorem T3.lex {a b c d e f : Int} (h1 : T3 a b c) (h2 : T3 d e f) : T3 (if a ≠ 0 then a else d) (if b ≠ 0 then b else e) (if c ≠ 0 then c else f) := by
  obtain ⟨p1, p2, p3⟩ := h1
  obtain ⟨q1, q2, q3⟩ := h2
  refine ⟨?_, ?_, ?_⟩ <;> intro h <;> (repeat' split at *) <;> omega
theorem T3.int (x y z : Int) : T3 (Lib.compareInt x y) (Lib.compareInt y z) (Lib.compareInt x z) := by
  unfold Lib.compareInt
  refine ⟨?_, ?_, ?_⟩ <;> intro h <;> (repeat' split at *) <;> omega
theorem cmp3_lex (x y : Int × Int × Int) : cmp3 x y = if Lib.compareInt x.1 y.1 ≠ 0 then Lib.compareInt x.1 y.1 else if Lib.compareInt x.2.1 y.2.1 ≠ 0 then Lib.compareInt x.2.1 y.2.1 else Lib.compareInt x.2.2 y.2.2 := by
  unfold cmp3
  simp only [ne_eq, compare_zero]
theorem T3.three (x y z : Int × Int × Int) : T3 (cmp3 x y) (cmp3 y z) (cmp3 x z) := by
  rw [cmp3_lex, cmp3_lex, cmp3_lex]
  exact T3.lex (T3.int _ _ _) (T3.lex (T3.int _ _ _) (T3.int _ _ _))
theorem int_flip (x y : Int) : Lib.compareInt y x = - Lib.compareInt x y := by
  unfold Lib.compareInt
  (repeat' split) <;> omega
theorem int_range (x y : Int) : -1 ≤ Lib.compareInt x y ∧ Lib.compareInt x y ≤ 1 := by
  unfold Lib.compareInt
  (repeat' split) <;> omega
theorem cmp3_flip (x y : Int × Int × Int) : cmp3 y x = - cmp3 x y := by
  rw [cmp3_lex, cmp3_lex, int_flip x.1 y.1, int_flip x.2.1 y.2.1, int_flip x.2.2 y.2.2]
  (repeat' split) <;> omega
theorem cmp3_range (x y : Int × Int × Int) : -1 ≤ cmp3 x y ∧ cmp3 x y ≤ 1 := by
  have h1 := int_range x.1 y.1
  have h2 := int_range x.2.1 y.2.1
  have h3 := int_range x.2.2 y.2.2
  rw [cmp3_lex]
  (repeat' split) <;> omega
theorem cmp3_zero (x y : Int × Int × Int) : cmp3 x y = 0 ↔ x = y := by
  obtain ⟨a, b, c⟩ := x
  obtain ⟨d, e, f⟩ := y
  rw [cmp3_lex]
  have h1 := @compare_zero a d
  have h2 := @compare_zero b e
  have h3 := @compare_zero c f
  simp only [Prod.mk.injEq]
  show (if Lib.compareInt a d ≠ 0 then Lib.compareInt a d else if Lib.compareInt b e ≠ 0 then Lib.compareInt b e else Lib.compareInt c f) = 0 ↔ _
  rw [← h1, ← h2, ← h3]
  clear h1 h2 h3
  generalize Lib.compareInt a d = p
  generalize Lib.compareInt b e = q
  generalize Lib.compareInt c f = r
  (repeat' split) <;> omega
/-- How two texts compare, letter by letter. -/
def cmpL (a b : List UInt8) : Int := if Op.bytesLess a b = true then -1 else if Op.bytesLess b a = true then 1 else 0
theorem less_trans : ∀ a b c : List UInt8, Op.bytesLess a b = true → Op.bytesLess b c = true → Op.bytesLess a c = true
  | [], [], _, h, _ => by simp [Op.bytesLess] at h
  | [], _ :: _, [], _, h => by simp [Op.bytesLess] at h
  | [], _ :: _, _ :: _, _, _ => by simp [Op.bytesLess]
  | _ :: _, [], _, h, _ => by simp [Op.bytesLess] at h
  | _ :: _, _ :: _, [], _, h => by simp [Op.bytesLess] at h
  | x :: a, y :: b, z :: c, h1, h2 => by
    simp only [Op.bytesLess] at h1 h2 ⊢
    have ih := less_trans a b c
    simp only [UInt8.lt_iff_toNat_lt] at h1 h2 ⊢
    simp only [Bool.or_eq_true, Bool.and_eq_true, decide_eq_true_eq, beq_iff_eq] at h1 h2 ⊢
    rcases h1 with h1 | ⟨rfl, h1⟩
    · rcases h2 with h2 | ⟨rfl, h2⟩
      · exact .inl (by omega)
      · exact .inl h1
    · rcases h2 with h2 | ⟨rfl, h2⟩
      · exact .inl h2
      · exact .inr ⟨rfl, ih h1 h2⟩
theorem less_eq {a b : List UInt8} (h1 : Op.bytesLess a b = false) (h2 : Op.bytesLess b a = false) : a = b := by
  have h := less_flip a b
  rw [h1, h2] at h
  simpa using h
theorem less_asym {a b : List UInt8} (h1 : Op.bytesLess a b = true) : Op.bytesLess b a = false := by
  have h := less_flip a b
  rw [h1] at h
  simpa using h.symm
theorem cmpL_flip (a b : List UInt8) : cmpL b a = - cmpL a b := by
  unfold cmpL
  cases h1 : Op.bytesLess a b with
  | true => rw [less_asym h1]; rfl
  | false => cases h2 : Op.bytesLess b a <;> rfl
theorem cmpL_range (a b : List UInt8) : -1 ≤ cmpL a b ∧ cmpL a b ≤ 1 := by
  unfold cmpL
  (repeat' split) <;> omega
theorem cmpL_zero (a b : List UInt8) : cmpL a b = 0 ↔ a = b := by
  unfold cmpL
  constructor
  · intro h
    cases h1 : Op.bytesLess a b with
    | true => rw [h1] at h; simp at h
    | false =>
      cases h2 : Op.bytesLess b a with
      | true => rw [h1, h2] at h; simp at h
      | false => exact less_eq h1 h2
  · rintro rfl
    rw [less_irrefl]; rfl
theorem T3.text (a b c : List UInt8) : T3 (cmpL a b) (cmpL b c) (cmpL a c) := by
  refine ⟨fun h => ?_, fun h => ?_, fun h1 h2 => ?_⟩
  · rw [(cmpL_zero a b).1 h]
  · rw [(cmpL_zero b c).1 h]
  · have e1 : Op.bytesLess a b = true := by
      unfold cmpL at h1
      cases h : Op.bytesLess a b with
      | true => rfl
      | false => rw [h] at h1; (repeat' split at h1) <;> simp_all
    have e2 : Op.bytesLess b c = true := by
      unfold cmpL at h2
      cases h : Op.bytesLess b c with
      | true => rfl
      | false => rw [h] at h2; (repeat' split at h2) <;> simp_all
    unfold cmpL
    rw [if_pos (less_trans a b c e1 e2)]
    omega
/-- What the law asks of three answers. -/
theorem T3.law {xy yz xz : Int} (h : T3 xy yz xz) (r1 : -1 ≤ xy ∧ xy ≤ 1) (h1 : xy ≤ 0) (h2 : yz ≤ 0) : xz ≤ 0 ∧ (xz < 0 ∨ xy = 0 ∧ yz = 0) := by
  obtain ⟨p1, p2, p3⟩ := h
  rcases Int.lt_or_eq_of_le h1 with a | a
  · rcases Int.lt_or_eq_of_le h2 with b | b
    · have := p3 a b; omega
    · have := p2 b; omega
  · have := p1 a; omega
theorem dotsL_none : ∀ {l : List UInt8}, (46 : UInt8) ∉ l → dotsL l = [l]
  | [], _ => rfl
  | c :: r, h => by
    have hc : ¬ c = 46 := fun e => h (by rw [e]; exact List.mem_cons_self ..)
    rw [dotsL, if_neg hc, dotsL_none (fun hm => h (List.mem_cons_of_mem _ hm))]
theorem dotsL_app : ∀ {x : List UInt8} (y : List UInt8), (46 : UInt8) ∉ x → dotsL (x ++ 46 :: y) = x :: dotsL y
  | [], y, _ => by simp [dotsL]
  | c :: r, y, h => by
    have hc : ¬ c = 46 := fun e => h (by rw [e]; exact List.mem_cons_self ..)
    rw [List.cons_append, dotsL, if_neg hc, dotsL_app y (fun hm => h (List.mem_cons_of_mem _ hm))]
/-- A number's text. -/
def numB (n : Int) : ByteArray := ⟨(Lib.itoa n).toArray⟩
/-- A version's text. -/
def ver (a b c : Int) : ByteArray := (((numB a ++ ⟨#[46]⟩) ++ numB b) ++ ⟨#[46]⟩) ++ numB c
theorem itoa_dot (n : Int) : (46 : UInt8) ∉ Lib.itoa n := by
  obtain ⟨f1, -, -, -⟩ := dec_facts n.natAbs
  have hd : ∀ x ∈ Lib.decDigits n.natAbs, isDig x = true := List.all_eq_true.1 f1
  intro hx
  unfold Lib.itoa at hx
  split at hx
  · rcases List.mem_cons.1 hx with h | h
    · cases h
    · exact absurd (hd _ h) (by decide)
  · rw [show n.toNat = n.natAbs by omega] at hx
    exact absurd (hd _ hx) (by decide)
theorem numB_data (n : Int) : (numB n).data.toList = Lib.itoa n := rfl
theorem ver_data (a b c : Int) : (ver a b c).data.toList = Lib.itoa a ++ 46 :: (Lib.itoa b ++ 46 :: Lib.itoa c) := by
  unfold ver
  simp [ByteArray.data_append, numB]
theorem ba_ext2 {a b : ByteArray} (h : a.data.toList = b.data.toList) : a = b := by
  apply ByteArray.ext
  exact Array.toList_inj.1 h
theorem ver_dots (a b c : Int) : dots (ver a b c) = [numB a, numB b, numB c] := by
  have h := dots_data (ver a b c)
  rw [ver_data, dotsL_app _ (itoa_dot a), dotsL_app _ (itoa_dot b), dotsL_none (itoa_dot c)] at h
  generalize dots (ver a b c) = l at h
  rcases l with _ | ⟨x, _ | ⟨y, _ | ⟨z, _ | ⟨u, r⟩⟩⟩⟩ <;> simp at h
  obtain ⟨h1, h2, h3⟩ := h
  rw [ba_ext2 (a := x) (b := numB a) (by rw [numB_data]; simpa using h1), ba_ext2 (a := y) (b := numB b) (by rw [numB_data]; simpa using h2), ba_ext2 (a := z) (b := numB c) (by rw [numB_data]; simpa using h3)]
theorem num_ok (n : Int) (h0 : 0 ≤ n) (h1 : n ≤ 999999) : okPart (numB n) ∧ (pnum (numB n).data.toList).1 = n := by
  have h : pnum (numB n).data.toList = (n, 0) := pnum_itoa n (by omega) (by omega)
  unfold okPart
  rw [h]
  exact ⟨⟨rfl, h0, h1⟩, rfl⟩
theorem ver_parts (a b c : Int) (ha : 0 ≤ a ∧ a ≤ 999999) (hb : 0 ≤ b ∧ b ≤ 999999) (hc : 0 ≤ c ∧ c ≤ 999999) : parts3 (dots (ver a b c)) = some (a, b, c) := by
  obtain ⟨a1, a2⟩ := num_ok a ha.1 ha.2
  obtain ⟨b1, b2⟩ := num_ok b hb.1 hb.2
  obtain ⟨c1, c2⟩ := num_ok c hc.1 hc.2
  rw [ver_dots, parts3_good a1 b1 c1, a2, b2, c2]
end Go.Proofs.YtannjakcnnefhaaDoor
