import Derived.Test.YtannjakcnnefhaaGreatDoorCUPCmp
import Derived.Test.YtannjakcnnefhaaGreatDoorCUPDrawV
set_option linter.unusedVariables false
set_option linter.unusedSimpArgs false
namespace Go.Proofs.YtannjakcnnefhaaGreatDoor.U
open Go Go.RowKit Go.Proofs.YtannjakcnnefhaaGreatDoor Go.Proofs.YtannjakcnnefhaaGreatDoorW.PrintWords Go.Proofs.YtannjakcnnefhaaGreatDoorW.PrintLast Go.Proofs.YtannjakcnnefhaaGreatDoorW.PrintMore
set_option maxRecDepth 1000000 in
theorem awake60 : flagstonelaw3_awake.f 60 = some true := by kernel_rfl
theorem awake_ok (K : Nat) (hK : 60 ≤ K) : flagstonelaw3_awake.f K = some true := at_rounds flagstonelaw3_awake.mono hK awake60
theorem compares_l1 (xs : List S24) (hx : xs.length = 5) (hs : ∀ x ∈ xs, SV x.f2 x.f3) (i : Nat) (hi : i < xs.length) (B : Nat) (hB : 4000 ≤ B)
    (hnext : ∀ k, B < k → flagstonelaw3_ValueCompares.l0 k xs ((i + 1 : Nat) : Int) = some true) : ∀ (d k j : Nat), xs.length - j = d → d + 2 + B < k → flagstonelaw3_ValueCompares.l1 k xs (i : Int) (j : Int) = some true := by
  intro d
  induction d with
  | zero =>
    intro k j hd hk
    obtain ⟨k, rfl⟩ : ∃ m, k = m + 1 := ⟨k - 1, by omega⟩
    simp only [flagstonelaw3_ValueCompares.l1]
    rw [if_neg (by omega), w64 (by omega) (by omega)]
    exact hnext k (by omega)
  | succ d ih =>
    intro k j hd hk
    obtain ⟨k, rfl⟩ : ∃ m, k = m + 1 := ⟨k - 1, by omega⟩
    have hj : j < xs.length := by omega
    have hr : rd_T24 xs (i : Int) = xs[i] := by unfold rd_T24; simp [hi]
    have hr' : rd_T24 xs (j : Int) = xs[j] := by unfold rd_T24; simp [hj]
    obtain ⟨s1, s2, s3⟩ := hs xs[i] (List.getElem_mem _)
    obtain ⟨z1, z2, z3⟩ := hs xs[j] (List.getElem_mem _)
    obtain ⟨v, hv⟩ : ∃ v, v = xs[i] := ⟨_, rfl⟩
    obtain ⟨u, hu⟩ : ∃ u, u = xs[j] := ⟨_, rfl⟩
    rw [← hv] at hr s1 s2 s3
    rw [← hu] at hr' z1 z2 z3
    obtain ⟨n, e, f1, f2⟩ := compare_both v.f0 v.f1 v.f2 v.f3 u.f0 u.f1 u.f2 u.f3 k (by omega) (by omega) (by omega) (fun x hx => by have := s3 x hx; omega) (by omega) (by omega) (fun x hx => by have := z3 x hx; omega)
    obtain ⟨t, g1, g2⟩ := equal_both v.f0 v.f1 v.f2 v.f3 u.f0 u.f1 u.f2 u.f3 k (by omega) (by omega)
    have hn := ih k (j + 1) (by omega) (by omega)
    simp only [flagstonelaw3_ValueCompares.l1]
    rw [if_pos (show (j : Int) < (xs.length : Int) by omega), if_pos (show (0 : Int) ≤ (i : Int) by omega), if_pos (show (i : Int) < (xs.length : Int) by omega), if_pos (show (0 : Int) ≤ (j : Int) by omega), hr, hr', f1, f2]
    simp only [Option.bind_some, if_true]
    rw [g1, g2]
    simp only [Option.bind_some, bne_self_eq_false, Bool.false_eq_true, if_false]
    rw [w64 (by omega) (by omega)]
    exact hn
theorem compares_l0 (xs : List S24) (hx : xs.length = 5) (hs : ∀ x ∈ xs, SV x.f2 x.f3) : ∀ (d k i : Nat), xs.length - i = d → 4000 + 10 * d < k → flagstonelaw3_ValueCompares.l0 k xs (i : Int) = some true := by
  intro d
  induction d with
  | zero =>
    intro k i hd hk
    obtain ⟨k, rfl⟩ : ∃ m, k = m + 1 := ⟨k - 1, by omega⟩
    simp only [flagstonelaw3_ValueCompares.l0]
    rw [if_neg (by omega)]
  | succ d ih =>
    intro k i hd hk
    obtain ⟨k, rfl⟩ : ∃ m, k = m + 1 := ⟨k - 1, by omega⟩
    simp only [flagstonelaw3_ValueCompares.l0]
    rw [if_pos (by omega)]
    exact compares_l1 xs hx hs i (by omega) (4000 + 10 * d) (by omega) (fun k hk => ih k (i + 1) (by omega) hk) xs.length k 0 rfl (by omega)
theorem compares_true (a b : Int) (c : ByteArray) (l : List ByteArray) (a' b' : Int) (c' : ByteArray) (l' : List ByteArray) (l1 : List Int) (hl : ∀ x ∈ l, x.size ≤ 9223372036854775800) (hl' : ∀ x ∈ l', x.size ≤ 9223372036854775800) (h1 : ∀ x ∈ l1, 0 ≤ x ∧ x < 256) :
    flagstonelaw3_ValueCompares.f 5000 a b c l a' b' c' l' l1 = some true := by
  obtain ⟨K, hK⟩ : ∃ K : Nat, K = 5000 := ⟨_, rfl⟩
  rw [← hK]
  obtain ⟨k, hk⟩ : ∃ m, K = m + 1 := ⟨K - 1, by omega⟩
  unfold flagstonelaw3_ValueCompares.f
  rw [awake_ok K (by omega)]
  simp only [Option.bind_some, if_true]
  obtain ⟨r, e1, hr⟩ := small_ok a b c l hl K (by omega)
  rw [e1]
  simp only [Option.bind_some]
  have hj : ∀ q : Bool, (q = false → SV c l ∧ SV c' l') → flagstonelaw3_ValueCompares.j0 K l1 q a b c l a' b' c' l' = some true := by
    intro q hq
    rw [hk]
    simp only [flagstonelaw3_ValueCompares.j0]
    cases q with
    | true => rfl
    | false =>
      obtain ⟨sv, sv'⟩ := hq rfl
      rw [if_neg (by decide)]
      obtain ⟨bs, e2, cv⟩ := new_ok l1 h1 30 (by omega)
      have e2' : flagstonedraw_New.f l1 30 = some (bs, 0) := e2
      rw [e2']
      simp only [Option.bind_some]
      obtain ⟨v, p1, e3, v0, v5, c1⟩ := next_ok cv 5 (by omega) (by omega)
      rw [e3]
      simp only [Option.bind_some]
      obtain ⟨b2, c2, l2, p2, a2, e4, sv2, cv2⟩ := value_ok c1 (wrap64 (1 + v))
      rw [e4]
      simp only [Option.bind_some]
      obtain ⟨b3, c3, l3, p3, a3, e5, sv3, cv3⟩ := value_ok cv2 (wrap64 (1 + v))
      rw [e5]
      simp only [Option.bind_some]
      obtain ⟨a4, b4, c4, l4, p4, e6, sv4, -⟩ := any_ok cv3
      rw [e6]
      simp only [Option.bind_some]
      exact compares_l0 _ rfl (fun x hx => by
        simp only [List.mem_cons, List.not_mem_nil, or_false] at hx
        rcases hx with rfl | rfl | rfl | rfl | rfl
        · exact sv
        · exact sv'
        · exact sv2
        · exact sv3
        · exact sv4) 5 k 0 rfl (by omega)
  cases r with
  | false =>
    rw [if_neg (by decide)]
    exact hj true (fun h => by cases h)
  | true =>
    rw [if_pos rfl]
    obtain ⟨r', e1', hr'⟩ := small_ok a' b' c' l' hl' K (by omega)
    rw [e1']
    simp only [Option.bind_some]
    exact hj (!r') (fun h => ⟨hr rfl, hr' (by simpa using h)⟩)
end Go.Proofs.YtannjakcnnefhaaGreatDoor.U
