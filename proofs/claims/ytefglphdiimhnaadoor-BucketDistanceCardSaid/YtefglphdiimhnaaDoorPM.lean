import Derived.Test.YtefglphdiimhnaaDoorPE0
import Derived.Test.YtefglphdiimhnaaDoorPR
set_option linter.unusedVariables false
set_option linter.unusedSimpArgs false
namespace Go.Proofs.YtefglphdiimhnaaDoor.Plain
open Go Go.RowKit Go.Proofs.YtefglphdiimhnaaDoor.Q Go.Proofs.YtefglphdiimhnaaDoorW.PrintWords Go.Proofs.YtefglphdiimhnaaDoorW.PrintLast Go.Proofs.YtefglphdiimhnaaDoorW.PrintMore
theorem neq_symm (x y : List Int) : ∀ k, cntNe x y k = cntNe y x k
  | 0 => rfl
  | k + 1 => by
    unfold cntNe
    rw [neq_symm x y k]
    by_cases e : x.getD k 0 = y.getD k 0
    · rw [if_pos e, if_pos e.symm]
    · rw [if_neg e, if_neg (fun h => e h.symm)]
theorem ne_self (x : List Int) : ∀ k, cntNe x x k = 0
  | 0 => rfl
  | k + 1 => by unfold cntNe; rw [ne_self x k, if_pos rfl]; rfl
theorem ne_tri (x y z : List Int) : ∀ k, cntNe x z k ≤ cntNe x y k + cntNe y z k
  | 0 => by simp [cntNe]
  | k + 1 => by
    have := ne_tri x y z k
    unfold cntNe
    by_cases a : x.getD k 0 = y.getD k 0 <;> by_cases b : y.getD k 0 = z.getD k 0
    · rw [if_pos a, if_pos b, if_pos (a.trans b)]; omega
    · rw [if_pos a, if_neg b]; split <;> omega
    · rw [if_neg a, if_pos b]; split <;> omega
    · rw [if_neg a, if_neg b]; split <;> omega
theorem refmoved_l0 {X Y : List Int} (hX : X.length = Y.length) (hl : X.length ≤ 1000000) : ∀ (j i k : Nat), i + j = X.length → j + 1 ≤ k → flagstoneref13_Moved.l0 k X Y (cntNe X Y i) (i : Int) = some (cntNe X Y X.length) := by
  intro j
  induction j with
  | zero =>
    intro i k hi hk
    obtain ⟨k, rfl⟩ : ∃ k', k = k' + 1 := ⟨k - 1, by omega⟩
    unfold flagstoneref13_Moved.l0
    rw [if_neg (by omega), show i = X.length by omega]
  | succ j ih =>
    intro i k hi hk
    obtain ⟨k, rfl⟩ : ∃ k', k = k' + 1 := ⟨k - 1, by omega⟩
    have q1 : (i : Int) < (X.length : Int) := by omega
    have q2 : 0 ≤ (i : Int) := by omega
    have q3 : (i : Int) < (Y.length : Int) := by omega
    have hw : wrap64 ((i : Int) + 1) = ((i + 1 : Nat) : Int) := by rw [w64 (by omega) (by omega)]; omega
    have hb := cntNe_bd X Y i
    have hw2 : wrap64 (cntNe X Y i + 1) = cntNe X Y i + 1 := w64 (by omega) (by omega)
    have hi2 := ih (i + 1) k (by omega) (by omega)
    have e1 : rd X (i : Int) = X.getD i 0 := rfl
    have e2 : rd Y (i : Int) = Y.getD i 0 := rfl
    rw [flagstoneref13_Moved.l0]
    simp only [if_pos q1, if_pos q2, if_pos q3, hw, hw2, e1, e2]
    by_cases c : X.getD i 0 = Y.getD i 0
    · rw [if_pos c]
      rw [cntNe, if_pos c, Int.add_zero] at hi2
      exact hi2
    · rw [if_neg c]
      rw [cntNe, if_neg c] at hi2
      exact hi2
set_option maxRecDepth 100000 in
theorem refmoved_ok {L M : List S69} {k : Nat} (hL : L.length ≤ 1000) (hM : M.length ≤ 1000) (h1 : L.length * 10002 + 10001 ≤ k) (h2 : M.length * 10002 + 1 ≤ k) : flagstoneref13_Moved.f k L M = some (cntNe (paintL L) (paintL M) 10000) := by
  unfold flagstoneref13_Moved.f
  rw [all_ok (by omega) (by omega), Option.bind_some, all_ok (by omega) (by omega), Option.bind_some]
  have h := refmoved_l0 (X := paintL L) (Y := paintL M) (by rw [paintL_len, paintL_len]) (by rw [paintL_len]; omega) 10000 0 k (by rw [paintL_len]) (by omega)
  rw [paintL_len] at h
  exact h
theorem moved_dif {L M : List S69} {f g : Nat → Int} : ∀ k, k ≤ 10000 → (∀ b, b < k → pickL L b = f b ∧ pickL M b = g b) → cntNe (paintL L) (paintL M) k = dif f g k
  | 0, _, _ => rfl
  | k + 1, hk, h => by
    unfold cntNe dif
    rw [moved_dif k (by omega) (fun b hb => h b (by omega))]
    have h1 : (paintL L).getD k 0 = f k := (paint_rd (L := L) (b := k) (by omega)).trans (h k (by omega)).1
    have h2 : (paintL M).getD k 0 = g k := (paint_rd (L := M) (b := k) (by omega)).trans (h k (by omega)).2
    rw [h1, h2]
/-- Places of colour v in f and of another one in g. -/
def lost (f g : Nat → Int) (v : Int) : Nat → Int
  | 0 => 0
  | k + 1 => lost f g v k + if f k = v ∧ g k ≠ v then 1 else 0
theorem lost_ge (f g : Nat → Int) (v : Int) : ∀ k, 0 ≤ lost f g v k ∧ cnt f v k - cnt g v k ≤ lost f g v k
  | 0 => by simp [lost, cnt]
  | k + 1 => by
    have := lost_ge f g v k
    unfold lost cnt
    by_cases a : f k = v <;> by_cases b : g k = v
    · rw [if_pos a, if_pos b, if_neg (fun h => h.2 b)]; omega
    · rw [if_pos a, if_neg b, if_pos ⟨a, b⟩]; omega
    · rw [if_neg a, if_pos b, if_neg (fun h => a h.1)]; omega
    · rw [if_neg a, if_neg b, if_neg (fun h => a h.1)]; omega
theorem lost_dif (f g : Nat → Int) (n : Nat) : ∀ k, sv (fun v => lost f g v k) n ≤ dif f g k
  | 0 => by
    have : sv (fun v => lost f g v 0) n = sv (fun _ => 0) n := rfl
    rw [this, sv_zero]; simp [dif]
  | k + 1 => by
    have ih := lost_dif f g n k
    have e : sv (fun v => lost f g v (k + 1)) n = sv (fun v => lost f g v k) n + sv (fun v => if f k = v ∧ g k ≠ v then 1 else 0) n := by rw [← sv_add]; rfl
    have h2 : sv (fun v => if f k = v ∧ g k ≠ v then 1 else 0) n ≤ if f k = g k then 0 else 1 := by
      by_cases c : f k = g k
      · rw [if_pos c]
        have : sv (fun v => if f k = v ∧ g k ≠ v then 1 else 0) n = sv (fun _ => 0) n := sv_congr n (fun v _ _ => if_neg (fun h => h.2 (c ▸ h.1)))
        rw [this, sv_zero]
        omega
      · rw [if_neg c]
        have h3 : sv (fun v => if f k = v ∧ g k ≠ v then 1 else 0) n ≤ sv (fun v => if f k = v then 1 else 0) n := sv_le n (fun v _ _ => by
          by_cases a : f k = v
          · rw [if_pos a]; split <;> omega
          · rw [if_neg a, if_neg (fun h => a h.1)]; omega)
        have h4 := sv_one (f k) n
        have h5 : sv (fun v => if f k = v then 1 else 0) n ≤ 1 := by rw [h4]; split <;> omega
        omega
    rw [e]
    unfold dif
    omega
/-- The weights of a split are shares of all. -/
theorem split_weights {n : Nat} {L : List S69} (h8 : n ≤ 8) (hS : okS n 0 0 L) : okW n (wcount (paintL L) n 10000) ∧ ∀ v : Int, 1 ≤ v → v ≤ n → rd (wcount (paintL L) n 10000) (v - 1) = cnt (pickL L) v 10000 := by
  obtain ⟨N, hN⟩ : ∃ N : Nat, N = 10000 := ⟨_, rfl⟩
  have hp : (paintL L).length = N := by rw [hN, paintL_len]
  rw [← hN]
  have hcl : ∀ u : Int, 1 ≤ u → u ≤ n → rd (wcount (paintL L) n N) (u - 1) = cnt (pickL L) u N := fun u a b => by
    rw [wcount_cnt a b N (by omega)]
    exact cnt_congr N (fun b hb => paint_rd (by omega))
  have hl := wcount_len (paintL L) n N (by omega)
  have hpf : ∀ b, b < N → 1 ≤ pickL L b ∧ pickL L b ≤ n := fun b hb => okS_pick hS (by omega) (by omega)
  refine ⟨⟨by rw [hl], fun x hx => ?_, ?_⟩, hcl⟩
  · obtain ⟨i, hi, rfl⟩ := List.getElem_of_mem hx
    have := (wcount_le (paintL L) n N (by omega) i).1
    rw [List.getD_eq_getElem?_getD, List.getElem?_eq_getElem hi] at this
    exact this
  · have h1 := sumL_sv (wcount (paintL L) n N) n (by omega)
    rw [List.take_of_length_le (by omega)] at h1
    have h2 := cnt_total (f := pickL L) (n := n) N (fun b hb => ⟨by have := (hpf b hb).1; omega, (hpf b hb).2⟩)
    have h3 : cnt (pickL L) 0 N = 0 := by
      have h4 := cnt_nn (pickL L) 0 N
      apply Classical.byContradiction
      intro hne
      obtain ⟨b, hb, he⟩ := cnt_pos (f := pickL L) (v := 0) N (by omega)
      have := (hpf b hb).1
      omega
    have h5 : sv (fun v => rd (wcount (paintL L) n N) (v - 1)) n = sv (fun v => cnt (pickL L) v N) n := sv_congr n (fun v a b => hcl v a b)
    rw [h1, h5]
    omega
/-- No split with the weights of y is nearer to x than the one that comes out. -/
theorem nearest {n : Nat} {x y : List S69} {k : Nat} (h1 : 1 ≤ n) (h8 : n ≤ 8) (hx : okS n 0 0 x) (hy : okS n 0 0 y) (hl : x.length ≤ 16) (hk : 33 ≤ k) :
    ∃ R e, bucket_Reweigh.f k x (wcount (paintL y) n 10000) = some (R, e) ∧ (e = 19 ∨ e = 0 ∧ ∃ d, bucket_Moved.f x R = some d ∧ d ≤ cntNe (paintL x) (paintL y) 10000) := by
  obtain ⟨hW, hc⟩ := split_weights h8 hy
  have e5 := shape_ok (k := k) hx hl hk
  have e6 := check_ok (k := k) hW (by omega) (by omega)
  obtain ⟨N, hN, f2, r1, r2, r3, r4⟩ := rwA_ok h1 h8 hx hW
  have hWl : ((wcount (paintL y) n 10000).length : Int) = n := hW.1
  have e7 : bucket_Reweigh.f k x (wcount (paintL y) n 10000) = rwA x (wcount (paintL y) n 10000) := by
    unfold bucket_Reweigh.f
    rw [hWl, e5, Option.bind_some, if_pos rfl, e6, Option.bind_some, if_pos rfl]
  rw [e7, r1]
  by_cases c : (rle f2 N).length > 16
  · rw [if_pos c]
    exact ⟨_, _, rfl, .inl rfl⟩
  · rw [if_neg c]
    refine ⟨_, _, rfl, .inr ⟨rfl, _, rfl, ?_⟩⟩
    have hruns := (rle_runs f2 N).2
    rw [← hN, moved_dif N (by omega) (fun b hb => ⟨rfl, (hruns b hb).2⟩), moved_dif (f := pickL x) (g := pickL y) N (by omega) (fun b hb => ⟨rfl, rfl⟩), r4]
    refine Int.le_trans (sv_le n (fun v a b => ?_)) (lost_dif (pickL x) (pickL y) n N)
    rw [hc v a b, ← hN]
    have := lost_ge (pickL x) (pickL y) v N
    show mx 0 (cnt (pickL x) v N - cnt (pickL y) v N) ≤ lost (pickL x) (pickL y) v N
    unfold mx
    split <;> omega
end Go.Proofs.YtefglphdiimhnaaDoor.Plain
