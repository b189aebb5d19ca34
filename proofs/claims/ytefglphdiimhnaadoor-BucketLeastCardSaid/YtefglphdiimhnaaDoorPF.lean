import Derived.Test.YtefglphdiimhnaaDoorQ
import Derived.Test.YtefglphdiimhnaaDoorPE
import Derived.DataShut
set_option linter.unusedVariables false
set_option linter.unusedSimpArgs false
namespace Go.Proofs.YtefglphdiimhnaaDoor.Plain
open Go Go.RowKit Go.Proofs.YtefglphdiimhnaaDoor.Q Go.Proofs.YtefglphdiimhnaaDoorW.PrintWords Go.Proofs.YtefglphdiimhnaaDoorW.PrintLast Go.Proofs.YtefglphdiimhnaaDoorW.PrintMore

theorem sv_mono {g : Int → Int} (hg : ∀ v, 0 ≤ g v) : ∀ (n i : Nat), i ≤ n → 0 ≤ sv g i ∧ sv g i ≤ sv g n
  | 0, i, h => by
    obtain rfl : i = 0 := by omega
    exact ⟨Int.le_refl _, Int.le_refl _⟩
  | n + 1, i, h => by
    have hn := hg ((n : Int) + 1)
    have ih := fun i h => sv_mono hg n i h
    have e : sv g (n + 1) = sv g n + g ((n : Int) + 1) := rfl
    by_cases c : i = n + 1
    · subst c
      have := (ih n (Nat.le_refl _)).1
      rw [e]
      exact ⟨by omega, by omega⟩
    · have := ih i (by omega)
      rw [e]
      exact ⟨this.1, by omega⟩
theorem dif_le (f g : Nat → Int) : ∀ k, dif f g k ≤ k
  | 0 => by simp [dif]
  | k + 1 => by have := dif_le f g k; unfold dif; split <;> omega
theorem least_l0 {a1 nI S : Int} {L out : List S69} {W C : List Int} {n K : Nat} {g : Int → Int} (h8 : n ≤ 8) (hW : W.length = n) (hC : C.length = n)
    (hg : ∀ i : Nat, i < n → g ((i : Int) + 1) = mx 0 (wrap64 (rd C (i : Int) - rd W (i : Int)))) (hgb : ∀ v, 0 ≤ g v) (hSb : sv g n ≤ 10000) (hS : S = sv g n)
    (hT : ∀ k, K ≤ k → ((flagstonedraw_Mod.f a1 10000).bind fun t412 => ((bucket_Pick.f k L t412).bind fun t413 => (if t413 < 1 then (flagstonelaw13_BucketLeast.j1 k L W C out S t412 t413 true) else (flagstonelaw13_BucketLeast.j1 k L W C out S t412 t413 (decide (t413 > nI)))))) = some true) :
    ∀ (j i k : Nat), i + j = n → K + j + 1 ≤ k → flagstonelaw13_BucketLeast.l0 k a1 nI L W C out (sv g i) (n : Int) (i : Int) = some true := by
  intro j
  induction j with
  | zero =>
    intro i k hi hk
    obtain ⟨k, rfl⟩ : ∃ k', k = k' + 1 := ⟨k - 1, by omega⟩
    obtain rfl : i = n := by omega
    unfold flagstonelaw13_BucketLeast.l0
    rw [if_neg (Int.lt_irrefl _), ← hS]
    exact hT k (by clear hT hg hSb hS; omega)
  | succ j ih =>
    intro i k hi hk
    obtain ⟨k, rfl⟩ : ∃ k', k = k' + 1 := ⟨k - 1, by omega⟩
    have h1 := (sv_mono hgb i i (Nat.le_refl _)).1
    have h2 := hgb ((i : Int) + 1)
    have h3 : sv g i + g ((i : Int) + 1) ≤ 10000 := Int.le_trans (sv_mono hgb n (i + 1) (by omega)).2 hSb
    have e1 : wrap64 ((i : Int) + 1) = ((i + 1 : Nat) : Int) := by rw [w64 (by omega) (by omega)]; omega
    have e2 : wrap64 (sv g i + g ((i : Int) + 1)) = sv g (i + 1) := by rw [w64 (by omega) (by omega)]; rfl
    unfold flagstonelaw13_BucketLeast.l0
    have q1 : (i : Int) < (n : Int) := by clear hT hg hSb hS h1 h2 h3 e1 e2 ih; omega
    have q2 : 0 ≤ (i : Int) := Int.natCast_nonneg _
    rw [if_pos q1, if_pos q2, if_pos (hC.symm ▸ q1), if_pos (hW.symm ▸ q1), ← hg i (Int.ofNat_lt.1 q1), e1, e2]
    exact ih (i + 1) k (by clear hT hg hSb hS h1 h2 h3 e1 e2 ih; omega) (by clear hT hg hSb hS h1 h2 h3 e1 e2 ih; omega)

theorem dif_symm (f g : Nat → Int) : ∀ k, dif f g k = dif g f k
  | 0 => rfl
  | k + 1 => by
    unfold dif
    rw [dif_symm f g k]
    by_cases e : f k = g k
    · rw [if_pos e, if_pos e.symm]
    · rw [if_neg e, if_neg (fun h => e h.symm)]
theorem moved_dif {L M : List S69} {f g : Nat → Int} : ∀ k, k ≤ 10000 → (∀ b, b < k → pickL L b = f b ∧ pickL M b = g b) → cntNe (paintL L) (paintL M) k = dif f g k
  | 0, _, _ => rfl
  | k + 1, hk, h => by
    unfold cntNe dif
    rw [moved_dif k (by omega) (fun b hb => h b (by omega))]
    have h1 : (paintL L).getD k 0 = f k := (paint_rd (L := L) (b := k) (by omega)).trans (h k (by omega)).1
    have h2 : (paintL M).getD k 0 = g k := (paint_rd (L := M) (b := k) (by omega)).trans (h k (by omega)).2
    rw [h1, h2]

theorem least_true (l0 : List Int) (a1 : Int) (hl : ∀ x ∈ l0, 0 ≤ x ∧ x < 256) (ha : -9223372036854775808 ≤ a1 ∧ a1 ≤ 9223372036854775807) : flagstonelaw13_BucketLeast.f 200000 l0 a1 = some true := by
  obtain ⟨bs, e0, c0⟩ := new_ok hl
  obtain ⟨v, p1, e1, v0, v8, c1⟩ := next_ok c0 (n := 8) (by omega)
  obtain ⟨n, hnn⟩ : ∃ n : Nat, 1 + v = (n : Int) := ⟨(1 + v).toNat, by omega⟩
  have hn : wrap64 (1 + v) = (n : Int) := by rw [w64 (by omega) (by omega)]; exact hnn
  have hn1 : 1 ≤ n := by omega
  have hn8 : n ≤ 8 := by omega
  obtain ⟨L, p2, e2, s1, s2, c2⟩ := split_ok (k := 200000) (by omega) c1 (n := (n : Int)) (by omega) (by omega)
  obtain ⟨W, p3, e3, w1⟩ := weights_ok (k := 200000) (by omega) c2 (n := (n : Int)) (by omega) (by omega)
  have hm : (mx 0 (mn (n : Int) 8)).toNat = n := by unfold mx mn; repeat' split <;> omega
  have e4 := refweights_ok (L := L) (k := 200000) (n := (n : Int)) (by omega) (by omega)
  rw [hm] at e4
  have e5 := shape_ok (k := 200000) s1 (by omega) (by omega)
  have e6 := check_ok (k := 200000) w1 (by omega) (by omega)
  obtain ⟨N, hN, f2, r1, r2, r3, r4⟩ := rwA_ok hn1 hn8 s1 w1
  have hWl : W.length = n := by have := w1.1; omega
  have e7 : bucket_Reweigh.f 200000 L W = rwA L W := by
    unfold bucket_Reweigh.f
    rw [show (W.length : Int) = (n : Int) by omega, e5, Option.bind_some, if_pos rfl, e6, Option.bind_some, if_pos rfl]
  unfold flagstonelaw13_BucketLeast.f flagstonelaw13_awake.f
  rw [Option.bind_some, if_pos rfl, e0, Option.bind_some, e1, Option.bind_some]
  dsimp only
  rw [hn, e2, Option.bind_some, e3, Option.bind_some, e4, Option.bind_some, e7, r1]
  by_cases c : (rle f2 N).length > 16
  · rw [if_pos c, Option.bind_some, if_neg (by decide)]
    rfl
  · rw [if_neg c, Option.bind_some, if_pos rfl]
    have hcl : ∀ u : Int, 1 ≤ u → u ≤ n → rd (wcount (paintL L) n 10000) (u - 1) = cnt (pickL L) u N := fun u a b => by
      rw [← hN, wcount_cnt a b N (by rw [hN]; simp [paintL])]
      exact cnt_congr N (fun b hb => paint_rd (by omega))
    have hCl : (wcount (paintL L) n 10000).length = n := wcount_len _ _ _ (by simp [paintL])
    generalize wcount (paintL L) n 10000 = C at hcl hCl ⊢
    have hruns := (rle_runs f2 N).2
    have hpf : ∀ b, b < N → 1 ≤ pickL L b ∧ pickL L b ≤ n := fun b hb => okS_pick s1 (by omega) (by omega)
    generalize rle f2 N = out at c hruns ⊢
    have hW0 : ∀ u : Int, 1 ≤ u → u ≤ n → 0 ≤ rd W (u - 1) ∧ rd W (u - 1) ≤ 10000 := fun u a b => by
      have hmem := rd_mem (bs := W) (p := u - 1) (by omega) (by omega)
      refine ⟨w1.2.1 _ hmem, ?_⟩
      have : ∀ (l : List Int) (x : Int), (∀ y ∈ l, 0 ≤ y) → x ∈ l → x ≤ sumL l := by
        intro l
        induction l with
        | nil => intro x _ h; cases h
        | cons y l ih =>
          intro x hy hx
          rw [sumL_cons]
          have hnn := sumL_nn (a := l) (fun z hz => hy z (by simp [hz]))
          rcases List.mem_cons.1 hx with e | e
          · omega
          · have := ih x (fun z hz => hy z (by simp [hz])) e
            have := hy y (by simp)
            omega
      have := this W _ w1.2.1 hmem
      have := w1.2.2
      omega
    have hm1 : bucket_Moved.f L out = some (sv (fun v => mx 0 (cnt (pickL L) v N - rd W (v - 1))) n) := by
      unfold bucket_Moved.f
      rw [← hN, moved_dif N (by omega) (fun b hb => ⟨rfl, (hruns b hb).2⟩), r4]
    have hm2 : bucket_Moved.f out L = some (sv (fun v => mx 0 (cnt (pickL L) v N - rd W (v - 1))) n) := by
      unfold bucket_Moved.f
      rw [← hN, moved_dif N (by omega) (fun b hb => ⟨(hruns b hb).2, rfl⟩), dif_symm, r4]
    obtain ⟨b, eb, hb⟩ := mod_ok ha.1 ha.2
    have hbN : b < N := by omega
    obtain ⟨x, hx⟩ : ∃ x, x = pickL L b := ⟨_, rfl⟩
    have hxb := hpf b hbN
    rw [← hx] at hxb
    have h3 := r3 b hbN
    rw [← hx] at h3
    rw [hWl]
    have hsv : sv (fun v => if 1 ≤ v ∧ v ≤ (n : Int) then mx 0 (cnt (pickL L) v N - rd W (v - 1)) else 0) n = sv (fun v => mx 0 (cnt (pickL L) v N - rd W (v - 1))) n := sv_congr n (fun v a b => if_pos ⟨a, b⟩)
    refine least_l0 (K := 100) (g := fun v => if 1 ≤ v ∧ v ≤ n then mx 0 (cnt (pickL L) v N - rd W (v - 1)) else 0) hn8 hWl hCl (fun i hi => ?_) (fun v => ?_) ?_ rfl (fun k hk => ?_) n 0 200000 (by omega) (by omega)
    · have h1 := hcl ((i : Int) + 1) (by omega) (by omega)
      have h2 := hW0 ((i : Int) + 1) (by omega) (by omega)
      have h4 := cnt_nn (pickL L) ((i : Int) + 1) N
      have e : (i : Int) + 1 - 1 = (i : Int) := by omega
      rw [e] at h1 h2
      show (if 1 ≤ (i : Int) + 1 ∧ (i : Int) + 1 ≤ n then mx 0 (cnt (pickL L) ((i : Int) + 1) N - rd W ((i : Int) + 1 - 1)) else 0) = _
      rw [if_pos ⟨by omega, by omega⟩, h1, e, w64 (by omega) (by omega)]
    · show 0 ≤ (if 1 ≤ v ∧ v ≤ (n : Int) then mx 0 (cnt (pickL L) v N - rd W (v - 1)) else 0)
      split
      · unfold mx
        split <;> omega
      · omega
    · rw [hsv, ← r4]
      have := dif_le (pickL L) f2 N
      omega
    · obtain ⟨k, rfl⟩ : ∃ k', k = k' + 1 := ⟨k - 1, by omega⟩
      dsimp only
      rw [hsv, eb, Option.bind_some, pick_ok (by omega) (by omega), Option.bind_some, pickI_nat, ← hx, if_neg (by omega), decide_eq_false (show ¬ x > (n : Int) by omega)]
      unfold flagstonelaw13_BucketLeast.j1
      have ew : wrap64 (x - 1) = x - 1 := w64 (by omega) (by omega)
      dsimp only
      rw [if_neg (by decide), hm1, Option.bind_some, if_pos rfl, hm2, Option.bind_some, if_pos rfl, ew, if_pos (by omega), if_pos (by omega), if_pos (by omega), hcl x hxb.1 hxb.2]
      by_cases hgt : cnt (pickL L) x N > rd W (x - 1)
      · rw [if_pos hgt]
      · rw [if_neg hgt, pick_ok (by omega) (by omega), Option.bind_some, pickI_nat, (hruns b hbN).2, h3 (by omega)]
        rw [beq_self_eq_true]
theorem BucketLeast : flagstonelaw13_BucketLeast.Pure := by
  intro l0 a1 _ _ h1 h2
  refine ⟨200000, least_true l0 a1 (fun x hx => ?_) ((Lit.wf_int_iff .i64 a1).1 h2)⟩
  have := (Lit.wf_int_iff .u8 x).1 (h1 x hx)
  exact ⟨this.1, Int.lt_of_le_of_lt this.2 (by decide)⟩
end Go.Proofs.YtefglphdiimhnaaDoor.Plain
