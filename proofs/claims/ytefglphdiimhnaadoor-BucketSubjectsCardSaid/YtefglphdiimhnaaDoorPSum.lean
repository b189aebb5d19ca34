import Derived.Test.YtefglphdiimhnaaDoorQ
import Derived.Laws.BitsAllLaws
set_option linter.unusedVariables false
set_option linter.unusedSimpArgs false
namespace Go.Proofs.YtefglphdiimhnaaDoor.Plain
open Go Go.RowKit Go.Proofs.YtefglphdiimhnaaDoor.Q Go.Proofs.YtefglphdiimhnaaDoorW.PrintWords Go.Proofs.YtefglphdiimhnaaDoorW.PrintLast Go.Proofs.YtefglphdiimhnaaDoorW.PrintMore
theorem w64' {n : Int} (h : -9223372036854775808 ≤ n) (h2 : n ≤ 9223372036854775807) : wrap64 n = n := by unfold wrap64; omega
def U64 (x : Int) : Prop := 0 ≤ x ∧ x < 18446744073709551616
theorem wrap_U (n : Int) : U64 (IntKind.u64.wrap n) := by rw [IntKind.wrap_u64]; exact ⟨by omega, by omega⟩
theorem or_U (a b : Int) : U64 (Go.bits .or .u64 a b) := wrap_U _
theorem xor_nn (a b : Int) : 0 ≤ Go.bits .xor .u64 a b := (wrap_U _).1
theorem or_right {a b c : Int} (ha : U64 a) (hb : U64 b) (hc : U64 c) : Go.bits .or .u64 (Go.bits .or .u64 a b) c = Go.bits .or .u64 (Go.bits .or .u64 a c) b := by
  have h1 := u64_or a b ha.1 ha.2 hb.1 hb.2
  have h2 := u64_or a c ha.1 ha.2 hc.1 hc.2
  have u1 := or_U a b
  have u2 := or_U a c
  rw [u64_or _ c u1.1 u1.2 hc.1 hc.2, u64_or _ b u2.1 u2.2 hb.1 hb.2, h1, h2, Int.toNat_natCast, Int.toNat_natCast, Nat.or_assoc, Nat.or_assoc, Nat.or_comm b.toNat c.toNat]
theorem or_zero {a : Int} (ha : U64 a) : Go.bits .or .u64 0 a = a := by
  rw [u64_or 0 a (by omega) (by omega) ha.1 ha.2]
  simp
  have := ha.1
  omega
theorem word_U (l : List Int) (i : Nat) : ∀ k, U64 (wordOf l i k)
  | 0 => ⟨by simp [wordOf], by simp [wordOf]⟩
  | k + 1 => or_U _ _
/-- The last word, the length laid in at the end. -/
theorem last_word (l : List Int) : ∀ k, Go.bits .or .u64 (wordOf l (8 * (l.length / 8)) k) (IntKind.u64.wrap ((l.length : Int) * 72057594037927936)) = Q.lastW l k
  | 0 => or_zero (wrap_U _)
  | k + 1 => by
    have ih := last_word l k
    have e : l.length - l.length % 8 + k = 8 * (l.length / 8) + k := by omega
    unfold wordOf Q.lastW
    rw [e, ← ih]
    unfold orB
    rw [or_right (word_U _ _ _) (wrap_U _) (wrap_U _)]
theorem len_word (n : Nat) : IntKind.u64.wrap ((n : Int) * 72057594037927936) = ((n : Int) % 256) * 72057594037927936 := by
  rw [IntKind.wrap_u64]; omega
theorem wrap_small {n : Int} (h : 0 ≤ n) (h2 : n < 18446744073709551616) : IntKind.u64.wrap n = n := by rw [IntKind.wrap_u64]; omega
theorem shl_at (b : Int) {j : Nat} (h : j < 8) : shl .u64 b (8 * (j : Int)) = IntKind.u64.wrap (b * 2 ^ (8 * j)) := by
  unfold shl
  have h1 : IntKind.u64.bits = 64 := rfl
  have h2 : min (8 * (j : Int)).toNat IntKind.u64.bits = 8 * j := by rw [h1]; omega
  rw [h2]
theorem rounds_some2 (a b c d : Int) : flagstoneref2_state_rounds.f a b c d 2 = some (sipN 2 (a, b, c, d)) := by
  unfold flagstoneref2_state_rounds.f
  have hn : (2 : Int).toNat = 2 := rfl
  rw [if_pos (by decide), hn]
theorem rounds_some4 (a b c d : Int) : flagstoneref2_state_rounds.f a b c d 4 = some (sipN 4 (a, b, c, d)) := by
  unfold flagstoneref2_state_rounds.f
  have hn : (4 : Int).toNat = 4 := rfl
  rw [if_pos (by decide), hn]
theorem word_at (s : Int × Int × Int × Int) (m : Int) {s' : Int × Int × Int × Int} (h : s' = wordS s m) {u : Int × Int × Int × Int} (hu : u = sipN 2 (s.1, s.2.1, s.2.2.1, Go.bits .xor .u64 s.2.2.2 m)) :
    s'.1 = Go.bits .xor .u64 u.1 m ∧ s'.2.1 = u.2.1 ∧ s'.2.2.1 = u.2.2.1 ∧ s'.2.2.2 = u.2.2.2 := by
  subst h
  rw [wordS, ← hu]
  exact ⟨rfl, rfl, rfl, rfl⟩
def finP (s : Int × Int × Int × Int) : Int := finS (sipN 4 (s.1, s.2.1, Go.bits .xor .u64 s.2.2.1 255, s.2.2.2))
theorem ref_l1 {l : List Int} (hl : l.length ≤ 140737488355328) (hb : ∀ x ∈ l, 0 ≤ x ∧ x ≤ 255) {q : Nat} (hq : q ≤ l.length / 8) {s : Int × Int × Int × Int} {r : Option Int} {K : Nat}
    (hT : ∀ s', s' = wordS s (if q = l.length / 8 then Q.lastW l (l.length % 8) else wordOf l (8 * q) 8) → ∀ k, K ≤ k → flagstoneref2_Sum.l0 k l ((q : Int) + 1) s'.1 s'.2.1 s'.2.2.1 s'.2.2.2 = r) :
    ∀ (d j k : Nat), j + d = min 8 (l.length - 8 * q) → K + d + 1 ≤ k → flagstoneref2_Sum.l1 k l (q : Int) (wordOf l (8 * q) j) (j : Int) s.1 s.2.1 s.2.2.1 s.2.2.2 = r := by
  have h8 : wrap64 (8 * (q : Int)) = 8 * (q : Int) := w64' (by omega) (by omega)
  have hq1 : wrap64 ((q : Int) + 1) = (q : Int) + 1 := w64' (by omega) (by omega)
  have hdiv : wrap64 ((l.length : Int) / 8) = ((l.length / 8 : Nat) : Int) := by rw [w64' (by omega) (by omega)]; omega
  intro d
  induction d with
  | zero =>
    intro j k hj hk
    obtain ⟨k, rfl⟩ : ∃ k', k = k' + 1 := ⟨k - 1, by omega⟩
    have hend : (if q = l.length / 8 then Q.lastW l (l.length % 8) else wordOf l (8 * q) 8) = if (q : Int) = ((l.length / 8 : Nat) : Int) then Go.bits .or .u64 (wordOf l (8 * q) j) (((l.length : Int) % 256) * 72057594037927936) else wordOf l (8 * q) j := by
      by_cases c : q = l.length / 8
      · rw [if_pos c, if_pos (by omega), ← len_word, show j = l.length % 8 by omega, c, last_word]
      · rw [if_neg c, if_neg (by omega), show j = 8 by omega]
    rw [hend] at hT
    clear hend
    have hfin : (if (q : Int) = wrap64 ((l.length : Int) / 8) then ((flagstoneref2_state_rounds.f s.1 s.2.1 s.2.2.1 (Go.bits .xor .u64 s.2.2.2 (Go.bits .or .u64 (wordOf l (8 * q) j) (((l.length : Int) % 256) * 72057594037927936))) 2).bind fun bt => (flagstoneref2_Sum.l0 k l (wrap64 ((q : Int) + 1)) (Go.bits .xor .u64 bt.1 (Go.bits .or .u64 (wordOf l (8 * q) j) (((l.length : Int) % 256) * 72057594037927936))) bt.2.1 bt.2.2.1 bt.2.2.2))
        else ((flagstoneref2_state_rounds.f s.1 s.2.1 s.2.2.1 (Go.bits .xor .u64 s.2.2.2 (wordOf l (8 * q) j)) 2).bind fun bt => (flagstoneref2_Sum.l0 k l (wrap64 ((q : Int) + 1)) (Go.bits .xor .u64 bt.1 (wordOf l (8 * q) j)) bt.2.1 bt.2.2.1 bt.2.2.2))) = r := by
      rw [hdiv, hq1]
      by_cases c : (q : Int) = ((l.length / 8 : Nat) : Int)
      · rw [if_pos c] at hT ⊢
        rw [rounds_some2, Option.bind_some]
        obtain ⟨s', hs'⟩ : ∃ s', s' = wordS s (Go.bits .or .u64 (wordOf l (8 * q) j) (((l.length : Int) % 256) * 72057594037927936)) := ⟨_, rfl⟩
        obtain ⟨u, hu⟩ : ∃ u, u = sipN 2 (s.1, s.2.1, s.2.2.1, Go.bits .xor .u64 s.2.2.2 (Go.bits .or .u64 (wordOf l (8 * q) j) (((l.length : Int) % 256) * 72057594037927936))) := ⟨_, rfl⟩
        obtain ⟨z1, z2, z3, z4⟩ := word_at s _ hs' hu
        have hk2 := hT s' hs' k (by omega)
        rw [z1, z2, z3, z4] at hk2
        rw [← hu]
        with_reducible exact hk2
      · rw [if_neg c] at hT ⊢
        rw [rounds_some2, Option.bind_some]
        obtain ⟨s', hs'⟩ : ∃ s', s' = wordS s (wordOf l (8 * q) j) := ⟨_, rfl⟩
        obtain ⟨u, hu⟩ : ∃ u, u = sipN 2 (s.1, s.2.1, s.2.2.1, Go.bits .xor .u64 s.2.2.2 (wordOf l (8 * q) j)) := ⟨_, rfl⟩
        obtain ⟨z1, z2, z3, z4⟩ := word_at s _ hs' hu
        have hk2 := hT s' hs' k (by omega)
        rw [z1, z2, z3, z4] at hk2
        rw [← hu]
        with_reducible exact hk2
    unfold flagstoneref2_Sum.l1
    by_cases c : (j : Int) < 8
    · have hadd : wrap64 (8 * (q : Int) + (j : Int)) = 8 * (q : Int) + (j : Int) := w64' (by omega) (by omega)
      have c5 : ¬ (8 * (q : Int) + (j : Int) < (l.length : Int)) := by
        clear hfin hT hdiv hq1 h8 hadd
        omega
      simp only [if_pos c, h8, hadd, if_neg c5]
      with_reducible exact hfin
    · rw [if_neg c]
      with_reducible exact hfin
  | succ d ih =>
    intro j k hj hk
    obtain ⟨k, rfl⟩ : ∃ k', k = k' + 1 := ⟨k - 1, by omega⟩
    have hi := ih (j + 1) k (by omega) (by omega)
    have hlt : 8 * q + j < l.length := by omega
    have hj7 : j < 8 := by omega
    clear ih hT hk hdiv
    have hby := rd_byte hb (8 * q + j) hlt
    obtain ⟨b, hbd⟩ : ∃ b, b = rd l ((8 * q + j : Nat) : Int) := ⟨_, rfl⟩
    rw [← hbd] at hby
    have c1 : (j : Int) < 8 := by omega
    have c2 : ((8 * q + j : Nat) : Int) < (l.length : Int) := by omega
    have c3 : 0 ≤ ((8 * q + j : Nat) : Int) := by omega
    have c4 : 0 ≤ 8 * (j : Int) := by omega
    have b1 : -9223372036854775808 ≤ 8 * (q : Int) + (j : Int) ∧ 8 * (q : Int) + (j : Int) ≤ 9223372036854775807 ∧ 8 * (q : Int) + (j : Int) = ((8 * q + j : Nat) : Int) := by omega
    have b2 : -9223372036854775808 ≤ 8 * (j : Int) ∧ 8 * (j : Int) ≤ 9223372036854775807 ∧ 8 * (j : Int) < 18446744073709551616 := by omega
    have b3 : -9223372036854775808 ≤ (j : Int) + 1 ∧ (j : Int) + 1 ≤ 9223372036854775807 ∧ (j : Int) + 1 = ((j + 1 : Nat) : Int) := by omega
    have b4 : 0 ≤ b ∧ b < 18446744073709551616 := by omega
    have hadd : wrap64 (8 * (q : Int) + (j : Int)) = ((8 * q + j : Nat) : Int) := (w64' b1.1 b1.2.1).trans b1.2.2
    have hj8 : wrap64 (8 * (j : Int)) = 8 * (j : Int) := w64' b2.1 b2.2.1
    have hjw : IntKind.u64.wrap (8 * (j : Int)) = 8 * (j : Int) := wrap_small c4 b2.2.2
    have hj1 : wrap64 ((j : Int) + 1) = ((j + 1 : Nat) : Int) := (w64' b3.1 b3.2.1).trans b3.2.2
    have hbw : IntKind.u64.wrap b = b := wrap_small b4.1 b4.2
    have hw : wordOf l (8 * q) (j + 1) = Go.bits .or .u64 (wordOf l (8 * q) j) (shl .u64 b (8 * (j : Int))) := by
      rw [wordOf, orB, ← hbd, shl_at b hj7]
    rw [flagstoneref2_Sum.l1]
    simp only [if_pos c1, h8, hadd, hj8, hjw, if_pos c2, if_pos c3, if_pos c4, ← hbd, hbw, hj1]
    rw [hw] at hi
    with_reducible exact hi
theorem ref_l0 {l : List Int} (hl : l.length ≤ 140737488355328) (hb : ∀ x ∈ l, 0 ≤ x ∧ x ≤ 255) (s0 : Int × Int × Int × Int) :
    ∀ (d q k : Nat), q + d = l.length / 8 → 10 * d + 30 ≤ k → flagstoneref2_Sum.l0 k l (q : Int) (stN s0 l q).1 (stN s0 l q).2.1 (stN s0 l q).2.2.1 (stN s0 l q).2.2.2 = some (finP (wordS (stN s0 l (l.length / 8)) (Q.lastW l (l.length % 8)))) := by
  have hdiv : wrap64 ((l.length : Int) / 8) = ((l.length / 8 : Nat) : Int) := by rw [w64' (by omega) (by omega)]; omega
  intro d
  induction d with
  | zero =>
    intro q k hq hk
    obtain ⟨k, rfl⟩ : ∃ k', k = k' + 1 := ⟨k - 1, by omega⟩
    obtain rfl : q = l.length / 8 := by omega
    unfold flagstoneref2_Sum.l0
    rw [hdiv, if_pos (by omega)]
    refine ref_l1 (K := 10) hl hb (Nat.le_refl _) (fun s' hs' k' hk' => ?_) (l.length % 8) 0 k (by omega) (by omega)
    rw [if_pos rfl] at hs'
    obtain ⟨k', rfl⟩ : ∃ k2, k' = k2 + 1 := ⟨k' - 1, by omega⟩
    unfold flagstoneref2_Sum.l0
    rw [hdiv, if_neg (by omega), rounds_some4, Option.bind_some, ← hs']
    rfl
  | succ d ih =>
    intro q k hq hk
    obtain ⟨k, rfl⟩ : ∃ k', k = k' + 1 := ⟨k - 1, by omega⟩
    unfold flagstoneref2_Sum.l0
    rw [hdiv, if_pos (by omega)]
    refine ref_l1 (K := 10 * d + 30) hl hb (by omega) (fun s' hs' k' hk' => ?_) 8 0 k (by omega) (by omega)
    rw [if_neg (by omega)] at hs'
    have := ih (q + 1) k' (by omega) (by omega)
    rw [show ((q + 1 : Nat) : Int) = (q : Int) + 1 by omega] at this
    rw [hs']
    exact this
theorem refsum_ok {l : List Int} (hl : l.length ≤ 140737488355328) (hb : ∀ x ∈ l, 0 ≤ x ∧ x ≤ 255) (a b : Int) {k : Nat} (hk : 10 * (l.length / 8) + 30 ≤ k) : flagstoneref2_Sum.f k a b l = some (sumP a b l) :=
  ref_l0 hl hb (Go.bits .xor .u64 a 8317987319222330741, Go.bits .xor .u64 b 7237128888997146477, Go.bits .xor .u64 a 7816392313619706465, Go.bits .xor .u64 b 8387220255154660723) (l.length / 8) 0 k (by omega) hk
theorem sumP_nn (a b : Int) (l : List Int) : 0 ≤ sumP a b l := xor_nn _ _
end Go.Proofs.YtefglphdiimhnaaDoor.Plain
