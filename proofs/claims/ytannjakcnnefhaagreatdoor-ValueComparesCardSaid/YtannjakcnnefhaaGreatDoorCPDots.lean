import Derived.Test.YtannjakcnnefhaaGreatDoorCPParts
set_option linter.unusedVariables false
set_option linter.unusedSimpArgs false
set_option linter.unusedVariables false
namespace Go.Proofs.YtannjakcnnefhaaGreatDoor
open Go
def okL (p : List UInt8) : Prop := (pnum p).2 = 0 ∧ 0 ≤ (pnum p).1 ∧ (pnum p).1 ≤ 999999
instance (p : List UInt8) : Decidable (okL p) := inferInstanceAs (Decidable (_ ∧ _ ∧ _))
def parts3L (l : List (List UInt8)) : Option (Int × Int × Int) :=
  match l with
  | [a, b, c] => if okL a ∧ okL b ∧ okL c then some ((pnum a).1, (pnum b).1, (pnum c).1) else none
  | _ => none
theorem parts3_map (l : List ByteArray) : parts3 l = parts3L (l.map (·.data.toList)) := by
  rcases l with _ | ⟨a, _ | ⟨b, _ | ⟨c, _ | ⟨d, r⟩⟩⟩⟩ <;> rfl
theorem parts3_dots (s : ByteArray) : parts3 (dots s) = parts3L (dotsL s.data.toList) := by rw [parts3_map, dots_data]
theorem parts3L_len {l : List (List UInt8)} (h : l.length ≠ 3) : parts3L l = none := by
  rcases l with _ | ⟨a, _ | ⟨b, _ | ⟨c, _ | ⟨d, r⟩⟩⟩⟩ <;> simp_all [parts3L]
theorem parts3L_bad {l : List (List UInt8)} {j : Nat} {p : List UInt8} (h : l[j]? = some p) (hp : ¬ okL p) : parts3L l = none := by
  rcases l with _ | ⟨a, _ | ⟨b, _ | ⟨c, _ | ⟨d, r⟩⟩⟩⟩
  · rfl
  · rfl
  · rfl
  · show (if okL a ∧ okL b ∧ okL c then _ else none) = none
    rw [if_neg]
    rintro ⟨h1, h2, h3⟩
    rcases j with _ | _ | _ | j
    · exact hp (Option.some.inj h ▸ h1)
    · exact hp (Option.some.inj h ▸ h2)
    · exact hp (Option.some.inj h ▸ h3)
    · simp at h
  · rfl
theorem dotsL_ne (l : List UInt8) : 1 ≤ (dotsL l).length := by
  cases l with
  | nil => simp [dotsL]
  | cons c r =>
    rw [dotsL]
    split
    · simp
    · split <;> simp
theorem dotsL_hit : ∀ (l : List UInt8) (e : Nat), (∀ j, j < e → l[j]? ≠ some 46) → l[e]? = some 46 → dotsL l = l.take e :: dotsL (l.drop (e + 1))
  | [], e, h, he => by simp at he
  | c :: r, 0, h, he => by
    obtain rfl : c = 46 := by simpa using he
    rw [dotsL, if_pos rfl]
    simp
  | c :: r, e + 1, h, he => by
    have hc : c ≠ 46 := fun x => h 0 (by omega) (by rw [x]; rfl)
    have ih := dotsL_hit r e (fun j hj => h (j + 1) (by omega)) (by simpa using he)
    rw [dotsL, if_neg hc, ih]
    simp
theorem dotsL_miss : ∀ (l : List UInt8), (∀ j, j < l.length → l[j]? ≠ some 46) → dotsL l = [l]
  | [], h => rfl
  | c :: r, h => by
    have hc : c ≠ 46 := fun x => h 0 (by simp) (by rw [x]; rfl)
    have ih := dotsL_miss r (fun j hj => h (j + 1) (by simp; omega))
    rw [dotsL, if_neg hc, ih]
end Go.Proofs.YtannjakcnnefhaaGreatDoor
