import Derived.Test.YtannjakcnnefhaaGreatDoorKPRound
import Derived.Test.YtannjakcnnefhaaGreatDoorKPDrawV
set_option linter.unusedVariables false
set_option linter.unusedSimpArgs false
namespace Go.Proofs.YtannjakcnnefhaaGreatDoor.V
open Go Go.RowKit Go.Proofs.YtannjakcnnefhaaGreatDoor Go.Proofs.YtannjakcnnefhaaGreatDoorW.PrintWords Go.Proofs.YtannjakcnnefhaaGreatDoorW.PrintLast Go.Proofs.YtannjakcnnefhaaGreatDoorW.PrintMore
set_option maxRecDepth 1000000 in
theorem awake60 : flagstonelaw3_awake.f 60 = some true := by kernel_rfl
theorem awake_ok (K : Nat) (hK : 60 ≤ K) : flagstonelaw3_awake.f K = some true := at_rounds flagstonelaw3_awake.mono hK awake60
theorem formats_l (xs : List S24) (hx : xs.length = 2) (hs : ∀ x ∈ xs, SV x.f2 x.f3) : ∀ (d k i : Nat), xs.length - i = d → 2 * d + 4000 < k → flagstonelaw3_ValueFormats.l0 k xs (i : Int) = some true := by
  intro d
  induction d with
  | zero =>
    intro k i hd hk
    obtain ⟨k, rfl⟩ : ∃ m, k = m + 1 := ⟨k - 1, by omega⟩
    simp only [flagstonelaw3_ValueFormats.l0]
    rw [if_neg (by omega)]
  | succ d ih =>
    intro k i hd hk
    obtain ⟨k, rfl⟩ : ∃ m, k = m + 2 := ⟨k - 2, by omega⟩
    have hi : i < xs.length := by omega
    have hr : rd_T24 xs (i : Int) = xs[i] := by unfold rd_T24; simp [hi]
    obtain ⟨s1, s2, s3⟩ := hs xs[i] (List.getElem_mem _)
    obtain ⟨v, hv⟩ : ∃ v, v = xs[i] := ⟨_, rfl⟩
    rw [← hv] at hr s1 s2 s3
    have g1 : v.f2.size ≤ 4294967280 := by omega
    have g2 : v.f3.length ≤ 1000 := by omega
    have g3 : ∀ x ∈ v.f3, x.size ≤ 9223372036854775800 := fun x hx => by have := s3 x hx; omega
    obtain ⟨s, e, f1, f2, -⟩ := format_both v.f0 v.f1 v.f2 v.f3 (k + 1) (by omega) g1 g2 g3
    obtain ⟨s', e', f1', -, f3⟩ := format_both v.f0 v.f1 v.f2 v.f3 k (by omega) g1 g2 g3
    have hse : (s, e) = (s', e') := by
      have := at_rounds (value_Format.mono v.f0 v.f1 v.f2 v.f3) (show k ≤ k + 1 by omega) f1'
      rw [f1] at this
      exact Option.some.inj this
    obtain ⟨rfl, rfl⟩ := Prod.mk.inj hse
    have hnext := ih (k + 1) (i + 1) (by omega) (by omega)
    have hnext' := ih k (i + 1) (by omega) (by omega)
    simp only [flagstonelaw3_ValueFormats.l0]
    rw [if_pos (by omega), if_pos (by omega), hr, f1, f2]
    simp only [Option.bind_some, if_true, bne_self_eq_false, flagstonelaw3_ValueFormats.j1, Bool.false_eq_true, if_false]
    by_cases he : e = 0
    · subst he
      obtain ⟨c1, c2⟩ := f3 rfl
      rw [if_pos rfl, parse_fmt v.f0 v.f1 v.f2 s v.f3 k (by omega) g1 g2 g3 c1 c2 f1']
      simp only [Option.bind_some, if_true]
      rw [if_pos (by omega), if_pos (by omega), hr, equal_refl v.f0 v.f1 v.f2 v.f3 g2 k (by omega)]
      simp only [Option.bind_some, if_true]
      rw [w64 (by omega) (by omega)]
      exact hnext'
    · rw [if_neg he, w64 (by omega) (by omega)]
      exact hnext'
theorem formats_true (a b : Int) (c : ByteArray) (l : List ByteArray) (l1 : List Int) (hl : ∀ x ∈ l, x.size ≤ 9223372036854775800) (h1 : ∀ x ∈ l1, 0 ≤ x ∧ x < 256) : flagstonelaw3_ValueFormats.f 5000 a b c l l1 = some true := by
  obtain ⟨K, hK⟩ : ∃ K : Nat, K = 5000 := ⟨_, rfl⟩
  rw [← hK]
  unfold flagstonelaw3_ValueFormats.f
  rw [awake_ok K (by omega)]
  simp only [Option.bind_some, if_true]
  obtain ⟨r, e1, hr⟩ := small_ok a b c l hl K (by omega)
  rw [e1]
  simp only [Option.bind_some]
  cases r with
  | false => rfl
  | true =>
    rw [if_pos rfl]
    obtain ⟨bs, e2, cv⟩ := new_ok l1 h1 10 (by omega)
    have e2' : flagstonedraw_New.f l1 10 = some (bs, 0) := e2
    rw [e2']
    simp only [Option.bind_some]
    obtain ⟨a2, b2, c2, l2, p2, e3, sv, -⟩ := any_ok cv
    rw [e3]
    simp only [Option.bind_some]
    exact formats_l _ rfl (fun x hx => by
      rcases List.mem_cons.1 hx with rfl | hx
      · exact hr rfl
      · obtain rfl := List.mem_singleton.1 hx
        exact sv) 2 K 0 rfl (by omega)
end Go.Proofs.YtannjakcnnefhaaGreatDoor.V
