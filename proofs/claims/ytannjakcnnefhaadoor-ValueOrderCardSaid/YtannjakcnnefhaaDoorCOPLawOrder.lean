import Derived.Test.YtannjakcnnefhaaDoorCOPGood
set_option linter.unusedVariables false
set_option linter.unusedSimpArgs false
namespace Go.Proofs.YtannjakcnnefhaaDoor.O
open Go Go.RowKit Go.Proofs.YtannjakcnnefhaaDoor Go.Proofs.YtannjakcnnefhaaDoorW.PrintWords Go.Proofs.YtannjakcnnefhaaDoorW.PrintLast Go.Proofs.YtannjakcnnefhaaDoorW.PrintMore
set_option maxRecDepth 1000000 in
theorem awake60 : flagstonelaw3_awake.f 60 = some true := by kernel_rfl
theorem awake_ok (K : Nat) (hK : 60 ≤ K) : flagstonelaw3_awake.f K = some true := at_rounds flagstonelaw3_awake.mono hK awake60
/-- A valid value of a kind, without a list. -/
def GoodV (kind : Int) (x : S31) : Prop := x.f0 = kind ∧ x.f3 = [] ∧ (kind = 2 ∧ x.f2 = ⟨#[]⟩ ∧ -1099511627776 ≤ x.f1 ∧ x.f1 ≤ 1099511627776 ∨ kind = 3 ∧ x.f1 = 0 ∧ validB x.f2 = true ∨
  kind = 4 ∧ x.f1 = 0 ∧ ∃ a b c : Int, (0 ≤ a ∧ a ≤ 999999) ∧ (0 ≤ b ∧ b ≤ 999999) ∧ (0 ≤ c ∧ c ≤ 999999) ∧ x.f2 = ver a b c)
theorem check_good {kind : Int} {x : S31} (h : GoodV kind x) (K : Nat) (hK : 3 ≤ K) : value_Check.f K x.f0 x.f1 x.f2 x.f3 = some 0 := by
  obtain ⟨e0, e3, h⟩ := h
  rw [e0, e3]
  rcases h with ⟨rfl, h2, h3, h4⟩ | ⟨rfl, h2, h3⟩ | ⟨rfl, h2, a, b, c, ha, hb, hc, h3⟩
  · rw [h2]; exact check2 _ K hK h3 h4
  · rw [h2]; exact check3 _ K hK h3
  · rw [h2, h3]; exact check4 a b c ha hb hc K hK
/-- How two valid values of a kind compare. -/
def cmpG (kind : Int) (x y : S31) : Int := if kind = 2 then Lib.compareInt x.f1 y.f1 else if kind = 3 then cmpL x.f2.toList y.f2.toList else cmp3 (p3 x.f2) (p3 y.f2)
theorem compare_good {kind : Int} {x y : S31} (h : GoodV kind x) (h' : GoodV kind y) (K : Nat) (hK : 3 ≤ K) : value_Compare.f K x.f0 x.f1 x.f2 x.f3 y.f0 y.f1 y.f2 y.f3 = some (cmpG kind x y, 0) := by
  have c1 := check_good h K hK
  have c2 := check_good h' K hK
  obtain ⟨e0, e3, h⟩ := h
  obtain ⟨e0', e3', h'⟩ := h'
  unfold value_Compare.f
  rw [c1, c2]
  simp only [Option.bind_some]
  rw [if_neg (by decide), if_neg (by decide), e0, e0']
  unfold cmpV cmpG
  rcases h with ⟨rfl, -, -, -⟩ | ⟨rfl, -, -⟩ | ⟨rfl, -, a, b, c, ha, hb, hc, h3⟩
  · rw [if_neg (by decide), if_pos rfl, if_pos rfl]
  · rw [if_neg (by decide), if_neg (by decide), if_pos rfl, if_neg (by decide), if_pos rfl]; rfl
  · rcases h' with ⟨h, -⟩ | ⟨h, -⟩ | ⟨-, -, a', b', c', ha', hb', hc', h3'⟩
    · exact absurd h (by decide)
    · exact absurd h (by decide)
    · have s1 := ver_size a b c ha hb hc
      have s2 := ver_size a' b' c' ha' hb' hc'
      rw [if_neg (by decide), if_neg (by decide), if_neg (by decide), if_pos (by rw [h3, h3']; omega), if_neg (by decide), if_neg (by decide)]
theorem p3_ver (a b c : Int) (ha : 0 ≤ a ∧ a ≤ 999999) (hb : 0 ≤ b ∧ b ≤ 999999) (hc : 0 ≤ c ∧ c ≤ 999999) : p3 (ver a b c) = (a, b, c) := by
  unfold p3
  rw [ver_parts a b c ha hb hc]
  rfl
theorem cmpG_flip (kind : Int) (x y : S31) : cmpG kind y x = - cmpG kind x y := by
  unfold cmpG
  split
  · exact int_flip _ _
  · split
    · exact cmpL_flip _ _
    · exact cmp3_flip _ _
theorem cmpG_range (kind : Int) (x y : S31) : -1 ≤ cmpG kind x y ∧ cmpG kind x y ≤ 1 := by
  unfold cmpG
  split
  · exact int_range _ _
  · split
    · exact cmpL_range _ _
    · exact cmp3_range _ _
theorem cmpG_T3 (kind : Int) (x y z : S31) : T3 (cmpG kind x y) (cmpG kind y z) (cmpG kind x z) := by
  unfold cmpG
  split
  · exact T3.int _ _ _
  · split
    · exact T3.text _ _ _
    · exact T3.three _ _ _
theorem cmpG_zero {kind : Int} {x y : S31} (h : GoodV kind x) (h' : GoodV kind y) : cmpG kind x y = 0 ↔ x.f1 = y.f1 ∧ x.f2.toList = y.f2.toList := by
  obtain ⟨e0, e3, h⟩ := h
  obtain ⟨e0', e3', h'⟩ := h'
  unfold cmpG
  rcases h with ⟨rfl, h2, -, -⟩ | ⟨rfl, h2, -⟩ | ⟨rfl, h2, a, b, c, ha, hb, hc, h3⟩
  · rcases h' with ⟨-, h2', -, -⟩ | ⟨h, -⟩ | ⟨h, -⟩
    · rw [if_pos rfl, compare_zero, h2, h2']
      exact ⟨fun h => ⟨h, rfl⟩, fun h => h.1⟩
    · exact absurd h (by decide)
    · exact absurd h (by decide)
  · rcases h' with ⟨h, -⟩ | ⟨-, h2', -⟩ | ⟨h, -⟩
    · exact absurd h (by decide)
    · rw [if_neg (by decide), if_pos rfl, cmpL_zero, h2, h2']
      exact ⟨fun h => ⟨rfl, h⟩, fun h => h.2⟩
    · exact absurd h (by decide)
  · rcases h' with ⟨h, -⟩ | ⟨h, -⟩ | ⟨-, h2', a', b', c', ha', hb', hc', h3'⟩
    · exact absurd h (by decide)
    · exact absurd h (by decide)
    · rw [if_neg (by decide), if_neg (by decide), cmp3_zero, h2, h2']
      constructor
      · intro h
        rw [h3, h3', p3_ver a b c ha hb hc, p3_ver a' b' c' ha' hb' hc'] at h
        have q1 := congrArg (fun t => t.1) h
        have q2 := congrArg (fun t => t.2.1) h
        have q3 := congrArg (fun t => t.2.2) h
        dsimp only at q1 q2 q3
        exact ⟨rfl, by rw [h3, h3', q1, q2, q3]⟩
      · intro h
        have : x.f2 = y.f2 := ba_ext2 (by rw [← ba_list, ← ba_list, h.2])
        rw [this]
theorem equal_good {kind : Int} {x y : S31} (h : GoodV kind x) (h' : GoodV kind y) (K : Nat) (hK : 3 ≤ K) : value_Equal.f K x.f0 x.f1 x.f2 x.f3 y.f0 y.f1 y.f2 y.f3 = some (cmpG kind x y == 0) := by
  have hz := cmpG_zero h h'
  obtain ⟨e0, e3, -⟩ := h
  obtain ⟨e0', e3', -⟩ := h'
  obtain ⟨k, rfl⟩ : ∃ m, K = m + 1 := ⟨K - 1, by omega⟩
  unfold value_Equal.f
  rw [e0, e0', e3, e3', if_pos rfl]
  have hs : slices_Equal_string_string.f (k + 1) [] [] = some true := by
    unfold slices_Equal_string_string.f
    rw [if_pos rfl]
    simp only [slices_Equal_string_string.l0]
    rfl
  by_cases h1 : x.f1 = y.f1
  · rw [if_pos h1]
    by_cases h2 : x.f2.toList = y.f2.toList
    · rw [if_pos h2, hs, hz.2 ⟨h1, h2⟩]
      rfl
    · rw [if_neg h2, beq_eq_false_iff_ne.2 (fun h => h2 (hz.1 h).2)]
  · rw [if_neg h1, beq_eq_false_iff_ne.2 (fun h => h1 (hz.1 h).1)]
theorem order_j1 {kind : Int} {x y z : S31} (hx : GoodV kind x) (hy : GoodV kind y) (hz : GoodV kind z) (K : Nat) (hK : 5 ≤ K) : flagstonelaw3_ValueOrder.j1 K [x, y, z] = some true := by
  obtain ⟨k, rfl⟩ : ∃ m, K = m + 1 := ⟨K - 1, by omega⟩
  have r0 : rd_T31 [x, y, z] 0 = x := rfl
  have r1 : rd_T31 [x, y, z] 1 = y := rfl
  have r2 : rd_T31 [x, y, z] 2 = z := rfl
  have hl : (([x, y, z] : List S31).length : Int) = 3 := rfl
  simp only [flagstonelaw3_ValueOrder.j1]
  rw [r0, r1, r2, hl, if_pos (by decide), if_pos (by decide), compare_good hx hy k (by omega)]
  simp only [Option.bind_some]
  rw [if_pos (by decide), compare_good hy hz k (by omega)]
  simp only [Option.bind_some]
  rw [compare_good hx hz k (by omega)]
  simp only [Option.bind_some]
  rw [compare_good hy hx k (by omega)]
  simp only [Option.bind_some]
  have hr := cmpG_range kind x y
  have ht := T3.law (cmpG_T3 kind x y z) hr
  rw [if_pos trivial, if_pos trivial, if_pos trivial, if_pos trivial, if_pos (by rw [cmpG_flip kind x y, w64 (by omega) (by omega)]), equal_good hx hy k (by omega)]
  simp only [Option.bind_some, bne_self_eq_false, Bool.false_eq_true, if_false]
  by_cases q1 : cmpG kind x y ≤ 0
  · rw [if_pos q1]
    by_cases q2 : cmpG kind y z ≤ 0
    · rw [if_pos q2]
      obtain ⟨t1, t2⟩ := ht q1 q2
      rw [if_pos t1]
      by_cases q3 : cmpG kind x z < 0
      · rw [if_pos q3]
      · rw [if_neg q3]
        obtain ⟨u1, u2⟩ := t2.resolve_left q3
        rw [if_pos u1, u2]
        rfl
    · rw [if_neg q2]
  · rw [if_neg q1]
theorem mod_ok (a m : Int) (h0 : 0 < m) (h1 : m ≤ 1000000) : ∃ n, flagstonedraw_Mod.f a m = some n ∧ 0 ≤ n ∧ n < m := by
  have b1 := Int.tmod_lt_of_pos a h0
  have b2 := Int.lt_tmod_of_pos a h0
  unfold flagstonedraw_Mod.f
  rw [if_neg (by omega)]
  generalize Int.tmod a m = q at *
  by_cases h : q < 0
  · rw [if_pos h, w64 (by omega) (by omega)]; exact ⟨_, rfl, by omega, by omega⟩
  · rw [if_neg h]; exact ⟨_, rfl, by omega, by omega⟩
theorem num_of (n : Int) (h0 : 0 ≤ n) (h1 : n ≤ 999999) : flagstoneref1_Number.f n = some (numB n) := by
  unfold flagstoneref1_Number.f
  rw [if_pos (by omega)]
  rfl
theorem order_step (xs : List S31) (ys : List Int) (hx : xs.length = 3) (hy : ys.length = 3) (i k : Nat) (hi : i < 3) : ∃ a b c : Int, (0 ≤ a ∧ a ≤ 999999) ∧ (0 ≤ b ∧ b ≤ 999999) ∧ (0 ≤ c ∧ c ≤ 999999) ∧
    flagstonelaw3_ValueOrder.l0 (k + 1) xs ys 3 (i : Int) = flagstonelaw3_ValueOrder.l0 k (xs.set i ⟨(rd_T31 xs (i : Int)).f0, (rd_T31 xs (i : Int)).f1, ver a b c, (rd_T31 xs (i : Int)).f3⟩) ys 3 ((i + 1 : Nat) : Int) := by
  obtain ⟨n, e, n0, n1⟩ := mod_ok (rd ys (i : Int)) 1000000 (by omega) (by omega)
  have a0 : 0 ≤ Int.tmod n 12 := Int.tmod_nonneg _ n0
  have a1 : Int.tmod n 12 < 12 := Int.tmod_lt_of_pos _ (by omega)
  have d0 : 0 ≤ Int.tdiv n 12 := Int.tdiv_nonneg n0 (by omega)
  have d1 : Int.tdiv n 12 ≤ n := by rw [Int.tdiv_eq_ediv_of_nonneg n0]; omega
  have b0 : 0 ≤ Int.tmod (Int.tdiv n 12) 11 := Int.tmod_nonneg _ d0
  have b1 : Int.tmod (Int.tdiv n 12) 11 < 11 := Int.tmod_lt_of_pos _ (by omega)
  refine ⟨Int.tmod n 12, Int.tmod (Int.tdiv n 12) 11, n, by omega, by omega, by omega, ?_⟩
  have s1 := numB_size (Int.tmod n 12) (by omega) (by omega)
  have s2 := numB_size (Int.tmod (Int.tdiv n 12) 11) (by omega) (by omega)
  have s3 := numB_size n (by omega) (by omega)
  have sd : (⟨#[46]⟩ : ByteArray).size = 1 := rfl
  simp only [flagstonelaw3_ValueOrder.l0]
  rw [if_pos (show (i : Int) < 3 by omega), if_pos (show (0 : Int) ≤ (i : Int) by omega), if_pos (show (i : Int) < (ys.length : Int) by omega), e]
  simp only [Option.bind_some]
  rw [num_of _ a0 (by omega)]
  simp only [Option.bind_some]
  rw [if_pos (by omega), w64 (x := Int.tdiv n 12) (by omega) (by omega), num_of _ b0 (by omega)]
  simp only [Option.bind_some]
  rw [if_pos (by simp only [ByteArray.size_append]; omega), if_pos (by simp only [ByteArray.size_append]; omega), num_of _ n0 (by omega)]
  simp only [Option.bind_some]
  rw [if_pos (by simp only [ByteArray.size_append]; omega), if_pos (show (i : Int) < (xs.length : Int) by omega), w64 (x := (i : Int) + 1) (by omega) (by omega)]
  rfl
theorem order_l0 (x y z : S31) (ys : List Int) (hy : ys.length = 3) (hx : x.f0 = 4 ∧ x.f1 = 0 ∧ x.f3 = []) (hy' : y.f0 = 4 ∧ y.f1 = 0 ∧ y.f3 = []) (hz : z.f0 = 4 ∧ z.f1 = 0 ∧ z.f3 = []) (K : Nat) (hK : 20 ≤ K) :
    flagstonelaw3_ValueOrder.l0 K [x, y, z] ys 3 0 = some true := by
  obtain ⟨k, rfl⟩ : ∃ m, K = m + 4 := ⟨K - 4, by omega⟩
  obtain ⟨a, b, c, ha, hb, hc, e1⟩ := order_step [x, y, z] ys rfl hy 0 (k + 3) (by omega)
  have e1' : flagstonelaw3_ValueOrder.l0 (k + 4) [x, y, z] ys 3 0 = flagstonelaw3_ValueOrder.l0 (k + 3) [⟨x.f0, x.f1, ver a b c, x.f3⟩, y, z] ys 3 ((1 : Nat) : Int) := e1
  obtain ⟨a', b', c', ha', hb', hc', e2⟩ := order_step [⟨x.f0, x.f1, ver a b c, x.f3⟩, y, z] ys rfl hy 1 (k + 2) (by omega)
  have e2' : flagstonelaw3_ValueOrder.l0 (k + 3) [⟨x.f0, x.f1, ver a b c, x.f3⟩, y, z] ys 3 ((1 : Nat) : Int) = flagstonelaw3_ValueOrder.l0 (k + 2) [⟨x.f0, x.f1, ver a b c, x.f3⟩, ⟨y.f0, y.f1, ver a' b' c', y.f3⟩, z] ys 3 ((2 : Nat) : Int) := e2
  obtain ⟨a2, b2, c2, ha2, hb2, hc2, e3⟩ := order_step [⟨x.f0, x.f1, ver a b c, x.f3⟩, ⟨y.f0, y.f1, ver a' b' c', y.f3⟩, z] ys rfl hy 2 (k + 1) (by omega)
  have e3' : flagstonelaw3_ValueOrder.l0 (k + 2) [⟨x.f0, x.f1, ver a b c, x.f3⟩, ⟨y.f0, y.f1, ver a' b' c', y.f3⟩, z] ys 3 ((2 : Nat) : Int) = flagstonelaw3_ValueOrder.l0 (k + 1) [⟨x.f0, x.f1, ver a b c, x.f3⟩, ⟨y.f0, y.f1, ver a' b' c', y.f3⟩, ⟨z.f0, z.f1, ver a2 b2 c2, z.f3⟩] ys 3 ((3 : Nat) : Int) := e3
  rw [e1', e2', e3']
  simp only [flagstonelaw3_ValueOrder.l0]
  rw [if_neg (by decide)]
  exact order_j1 (kind := 4) (x := ⟨x.f0, x.f1, ver a b c, x.f3⟩) (y := ⟨y.f0, y.f1, ver a' b' c', y.f3⟩) (z := ⟨z.f0, z.f1, ver a2 b2 c2, z.f3⟩) ⟨hx.1, hx.2.2, .inr (.inr ⟨rfl, hx.2.1, a, b, c, ha, hb, hc, rfl⟩)⟩ ⟨hy'.1, hy'.2.2, .inr (.inr ⟨rfl, hy'.2.1, a', b', c', ha', hb', hc', rfl⟩)⟩ ⟨hz.1, hz.2.2, .inr (.inr ⟨rfl, hz.2.1, a2, b2, c2, ha2, hb2, hc2, rfl⟩)⟩ k (by omega)
theorem order_true (kind : Int) (l1 : List Int) (a2 a3 a4 : Int) (h1 : ∀ x ∈ l1, 0 ≤ x ∧ x < 256) : flagstonelaw3_ValueOrder.f 5000 kind l1 a2 a3 a4 = some true := by
  obtain ⟨K, hK⟩ : ∃ K : Nat, K = 5000 := ⟨_, rfl⟩
  rw [← hK]
  unfold flagstonelaw3_ValueOrder.f
  rw [awake_ok K (by omega)]
  simp only [Option.bind_some, if_true]
  obtain ⟨q, e0, q0, q1⟩ := mod_ok kind 3 (by omega) (by omega)
  rw [e0]
  simp only [Option.bind_some]
  obtain ⟨bs, e1, cv⟩ := new_ok l1 h1 20 (by omega)
  have e1' : flagstonedraw_New.f l1 20 = some (bs, 0) := e1
  rw [e1']
  simp only [Option.bind_some]
  rw [w64 (x := 2 + q) (by omega) (by omega)]
  rcases (show q = 0 ∨ q = 1 ∨ q = 2 by omega) with rfl | rfl | rfl
  · rw [show (2 : Int) + 0 = 2 from rfl]
    obtain ⟨b, p, f1, g1, g1', c1⟩ := drawn2 cv
    obtain ⟨b', p', f2, g2, g2', c2⟩ := drawn2 c1
    obtain ⟨b'', p'', f3, g3, g3', c3⟩ := drawn2 c2
    rw [f1]
    simp only [Option.bind_some]
    rw [f2]
    simp only [Option.bind_some]
    rw [f3]
    simp only [Option.bind_some]
    rw [if_neg (by decide)]
    exact order_j1 (kind := 2) ⟨rfl, rfl, .inl ⟨rfl, rfl, g1, g1'⟩⟩ ⟨rfl, rfl, .inl ⟨rfl, rfl, g2, g2'⟩⟩ ⟨rfl, rfl, .inl ⟨rfl, rfl, g3, g3'⟩⟩ K (by omega)
  · rw [show (2 : Int) + 1 = 3 from rfl]
    obtain ⟨b, p, f1, g1, c1⟩ := drawn3 cv
    obtain ⟨b', p', f2, g2, c2⟩ := drawn3 c1
    obtain ⟨b'', p'', f3, g3, c3⟩ := drawn3 c2
    rw [f1]
    simp only [Option.bind_some]
    rw [f2]
    simp only [Option.bind_some]
    rw [f3]
    simp only [Option.bind_some]
    rw [if_neg (by decide)]
    exact order_j1 (kind := 3) ⟨rfl, rfl, .inr (.inl ⟨rfl, rfl, g1⟩)⟩ ⟨rfl, rfl, .inr (.inl ⟨rfl, rfl, g2⟩)⟩ ⟨rfl, rfl, .inr (.inl ⟨rfl, rfl, g3⟩)⟩ K (by omega)
  · rw [show (2 : Int) + 2 = 4 from rfl]
    obtain ⟨b, p, f1, c1⟩ := drawn4 cv
    obtain ⟨b', p', f2, c2⟩ := drawn4 c1
    obtain ⟨b'', p'', f3, c3⟩ := drawn4 c2
    rw [f1]
    simp only [Option.bind_some]
    rw [f2]
    simp only [Option.bind_some]
    rw [f3]
    simp only [Option.bind_some]
    rw [if_pos trivial]
    exact order_l0 _ _ _ [a2, a3, a4] rfl ⟨rfl, rfl, rfl⟩ ⟨rfl, rfl, rfl⟩ ⟨rfl, rfl, rfl⟩ K (by omega)
end Go.Proofs.YtannjakcnnefhaaDoor.O
