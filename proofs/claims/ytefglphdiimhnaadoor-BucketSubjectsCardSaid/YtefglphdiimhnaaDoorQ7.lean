-- printed by wip/hp.py (the session's driver of the print, with hand-proved contracts)
import Derived.Test.YtefglphdiimhnaaDoorQ0
import Derived.Test.YtefglphdiimhnaaDoorQ2
import Derived.Test.YtefglphdiimhnaaDoorQ3
import Derived.Test.YtefglphdiimhnaaDoorQ4
import Derived.Test.YtefglphdiimhnaaDoorQ6
namespace Go.Proofs.YtefglphdiimhnaaDoor.Q
open Go.RowKit Go.Proofs.YtefglphdiimhnaaDoorW.PrintWords Go.Proofs.YtefglphdiimhnaaDoorW.PrintLast Go.Proofs.YtefglphdiimhnaaDoorW.PrintMore
attribute [local go_sem] max2_int min2_int max_two min_two max_three min_three max_four min_four   -- for this text's walks alone
set_option linter.unusedVariables false
set_option linter.unusedSimpArgs false

/-! ### flagstonelaw13_awake: function 10 -/
section
def halvesL : List S69 := [⟨0, 5000, 1⟩, ⟨5000, 10000, 2⟩]
def run3 (a b c : Nat) : List Int := List.replicate a 1 ++ (List.replicate b 2 ++ List.replicate c 0)
theorem run3_rd (a b c i : Nat) (h : i < a + b + c) : rd (run3 a b c) (i : Int) = if i < a then 1 else if i < a + b then 2 else 0 := by
  unfold rd run3
  rw [Int.toNat_natCast, List.getD_eq_getElem?_getD, List.getElem?_append]
  simp only [List.length_replicate]
  split
  · rw [List.getElem?_replicate_of_lt (by omega)]; rfl
  · rw [List.getElem?_append]
    simp only [List.length_replicate]
    split
    · rw [if_pos (by omega), List.getElem?_replicate_of_lt (by omega)]; rfl
    · rw [if_neg (by omega), List.getElem?_replicate_of_lt (by omega)]; rfl
theorem run3_len (a b c : Nat) : (run3 a b c).length = a + b + c := by simp [run3]; omega
set_option maxRecDepth 1000000 in
theorem paint_halves : paintL halvesL = run3 5000 5000 0 := by
  refine List.ext_getElem (by rw [run3_len]; simp [paintL]) fun i h1 h2 => ?_
  have hi : i < 10000 := by simpa [paintL] using h1
  have e := run3_rd 5000 5000 0 i (by omega)
  unfold rd at e
  rw [Int.toNat_natCast, List.getD_eq_getElem?_getD, List.getElem?_eq_getElem h2] at e
  simp only [Option.getD_some] at e
  rw [e]
  simp only [paintL, List.getElem_map, List.getElem_range, pickL, halvesL, inR]
  by_cases h : i < 5000
  · have d1 : (decide ((0 : Int) ≤ (i : Int)) && decide ((i : Int) < 5000)) = true := by simp; omega
    rw [List.find?_cons_of_pos (by exact d1), if_pos h]
  · have d1 : ¬ (decide ((0 : Int) ≤ (i : Int)) && decide ((i : Int) < 5000)) = true := by simp; omega
    have d2 : (decide ((5000 : Int) ≤ (i : Int)) && decide ((i : Int) < 10000)) = true := by simp; omega
    rw [List.find?_cons_of_neg (by exact d1), List.find?_cons_of_pos (by exact d2), if_neg h, if_pos (by omega)]
theorem wstep_run (n : Nat) (o : List Int) (v : Nat) (hv1 : 1 ≤ v) (hv : v ≤ o.length) : (List.replicate n (v : Int)).foldl wstep o = o.set (v - 1) (o.getD (v - 1) 0 + n) := by
  induction n generalizing o with
  | zero =>
    simp only [List.replicate_zero, List.foldl_nil]
    refine List.ext_getElem (by simp) fun i h1 h2 => ?_
    rw [List.getElem_set]
    split
    · rename_i e; subst e; simp [List.getElem?_eq_getElem h1]
    · rfl
  | succ n ih =>
    rw [List.replicate_succ, List.foldl_cons]
    have e1 : ((v : Int) - 1).toNat = v - 1 := by omega
    have e2 : wstep o (v : Int) = o.set (v - 1) (o.getD (v - 1) 0 + 1) := by
      unfold wstep
      rw [if_pos ⟨by omega, by omega⟩, e1]
    rw [e2, ih _ (by simpa using hv)]
    refine List.ext_getElem (by simp) fun i h1 h2 => ?_
    simp only [List.getElem_set]
    split
    · have hl : v - 1 < o.length := by omega
      rw [List.getD_eq_getElem?_getD, List.getElem?_set_self hl]
      simp only [Option.getD_some]; omega
    · rfl
theorem wcount_halves : wcount (paintL halvesL) 2 10000 = [5000, 5000] := by
  rw [paint_halves]
  unfold wcount
  rw [List.take_of_length_le (by rw [run3_len]; omega)]
  unfold run3
  rw [List.foldl_append, List.foldl_append]
  have h1 := wstep_run 5000 (List.replicate 2 0) 1 (by omega) (by simp)
  rw [show ((1 : Nat) : Int) = 1 from rfl] at h1
  rw [h1]
  have h2 := wstep_run 5000 ((List.replicate 2 (0 : Int)).set (1 - 1) ((List.replicate 2 (0 : Int)).getD (1 - 1) 0 + (5000 : Nat))) 2 (by omega) (by simp)
  rw [show ((2 : Nat) : Int) = 2 from rfl] at h2
  rw [h2]
  rfl
theorem set_run (a b c : Nat) : (run3 a (b + 1) c).set (a + b) 0 = run3 a b (c + 1) := by
  refine List.ext_getElem (by rw [List.length_set, run3_len, run3_len]; omega) fun i h1 h2 => ?_
  have hi : i < a + (b + 1) + c := by rw [List.length_set, run3_len] at h1; exact h1
  have e1 := run3_rd a (b + 1) c i hi
  have e2 := run3_rd a b (c + 1) i (by omega)
  unfold rd at e1 e2
  rw [Int.toNat_natCast, List.getD_eq_getElem?_getD, List.getElem?_eq_getElem (by rw [run3_len]; omega)] at e1
  rw [Int.toNat_natCast, List.getD_eq_getElem?_getD, List.getElem?_eq_getElem h2] at e2
  simp only [Option.getD_some] at e1 e2
  rw [List.getElem_set, e2]
  split
  · rename_i e; rw [if_neg (by omega), if_neg (by omega)]
  · rw [e1]
    by_cases h3 : i < a
    · rw [if_pos h3, if_pos h3]
    · rw [if_neg h3, if_neg h3]
      by_cases h4 : i < a + b
      · rw [if_pos h4, if_pos (by omega)]
      · rw [if_neg h4, if_neg (by omega)]
/-- The counts while buckets are given up. -/
def has2 (x y : Int) : List Int := [0, x, y, 0, 0, 0, 0, 0, 0]
theorem ph1_drop (n c : Nat) (hn : n ≤ 1000) (hc : c + n = 1000) : ph1 [6000, 4000] (9000 + n) (has2 5000 (4000 + n)) (run3 5000 (4000 + n) c) = ph1 [6000, 4000] 9000 (has2 5000 4000) (run3 5000 4000 1000) := by
  induction n generalizing c with
  | zero => obtain rfl : c = 1000 := by omega
            rfl
  | succ n ih =>
    have e : rd (run3 5000 (4000 + (n + 1)) c) ((9000 + n : Nat) : Int) = 2 := by rw [run3_rd _ _ _ _ (by omega), if_neg (by omega), if_pos (by omega)]
    have r1 : rd [6000, 4000] ((2 : Int) - 1) = 4000 := rfl
    have r2 : ∀ x y, rd (has2 x y) 2 = y := fun _ _ => rfl
    rw [show 9000 + (n + 1) = (9000 + n) + 1 from rfl]
    conv => lhs; unfold ph1
    rw [e, if_pos ⟨by omega, by omega, by decide, by decide, by rw [r2]; omega⟩, r1, r2, if_pos (by omega)]
    have s1 : (has2 5000 (4000 + ((n + 1 : Nat) : Int))).set (2 : Int).toNat (4000 + ((n + 1 : Nat) : Int) - 1) = has2 5000 (4000 + (n : Int)) := by
      simp only [has2, show ((2 : Int).toNat) = 2 from rfl, List.set_cons_succ, List.set_cons_zero]
      congr 3
      omega
    have s2 : (run3 5000 (4000 + (n + 1)) c).set (9000 + n) 0 = run3 5000 (4000 + n) (c + 1) := by
      rw [show 9000 + n = 5000 + (4000 + n) from by omega]
      exact set_run 5000 (4000 + n) c
    rw [s1, s2]
    exact ih (c + 1) (by omega) (by omega)
theorem ph1_keep (n : Nat) (hn : n ≤ 9000) : ph1 [6000, 4000] n (has2 5000 4000) (run3 5000 4000 1000) = some (has2 5000 4000, run3 5000 4000 1000) := by
  induction n with
  | zero => rfl
  | succ n ih =>
    unfold ph1
    by_cases h : n < 5000
    · have e : rd (run3 5000 4000 1000) (n : Int) = 1 := by rw [run3_rd _ _ _ _ (by omega), if_pos h]
      rw [e, if_pos ⟨by decide, by decide, by decide, by decide, by decide⟩, if_neg (by decide)]
      exact ih (by omega)
    · have e : rd (run3 5000 4000 1000) (n : Int) = 2 := by rw [run3_rd _ _ _ _ (by omega), if_neg h, if_pos (by omega)]
      rw [e, if_pos ⟨by decide, by decide, by decide, by decide, by decide⟩, if_neg (by decide)]
      exact ih (by omega)
theorem addR_same {out : List S69} {f b v : Int} (n : Nat) : addR (out ++ [(⟨f, b, v⟩ : S69)]) n v = out ++ [(⟨f, (n : Int) + 1, v⟩ : S69)] := by
  have e : rd_T69 (out ++ [(⟨f, b, v⟩ : S69)]) (((out ++ [(⟨f, b, v⟩ : S69)]).length : Int) - 1) = ⟨f, b, v⟩ := by
    unfold rd_T69
    rw [List.length_append, List.length_singleton, show (((out.length + 1 : Nat) : Int) - 1).toNat = out.length from by omega]
    simp
  unfold addR
  rw [e, if_pos ⟨by simp, rfl⟩]
  simp
theorem addR_other {out : List S69} {f b v v' : Int} (n : Nat) (h : v ≠ v') : addR (out ++ [(⟨f, b, v⟩ : S69)]) n v' = out ++ [(⟨f, b, v⟩ : S69)] ++ [(⟨(n : Int), (n : Int) + 1, v'⟩ : S69)] := by
  have e : rd_T69 (out ++ [(⟨f, b, v⟩ : S69)]) (((out ++ [(⟨f, b, v⟩ : S69)]).length : Int) - 1) = ⟨f, b, v⟩ := by
    unfold rd_T69
    rw [List.length_append, List.length_singleton, show (((out.length + 1 : Nat) : Int) - 1).toNat = out.length from by omega]
    simp
  exact addR_new (by rw [e]; exact fun hh => h hh.2)
/-- A run of buckets of one variation. -/
theorem ph2_run (w : List Int) (H O : List Int) (t v f : Int) (out : List S69) (hv : v ≠ 0) (n : Nat) : ∀ (r b : Nat), (∀ i, b ≤ i → i < b + n → rd O (i : Int) = v) → ph2 w (n + r) b t H O (out ++ [⟨f, (b : Int), v⟩]) = ph2 w r (b + n) t H O (out ++ [⟨f, ((b + n : Nat) : Int), v⟩]) := by
  induction n with
  | zero => intro r b _; rw [Nat.zero_add]; rfl
  | succ n ih =>
    intro r b h
    rw [show n + 1 + r = (n + r) + 1 from by omega]
    conv => lhs; unfold ph2
    rw [h b (by omega) (by omega), if_neg hv, addR_same]
    have := ih r (b + 1) (fun i h1 h2 => h i (by omega) (by omega))
    rw [show ((b : Int) + 1) = ((b + 1 : Nat) : Int) from by omega, this, show b + 1 + n = b + (n + 1) from by omega]
/-- The buckets that were given up are filled. -/
theorem ph2_fill (c x : Nat) (hc : c ≤ 1000) (hx : x + c = 1000) (r : Nat) (f : Int) (out : List S69) (O : List Int) (hO : ∀ i, 9000 + x ≤ i → i < 10000 → rd O (i : Int) = 0) (hl : O.length = 10000) :
    ph2 [6000, 4000] (c + 0) (9000 + x) 1 (has2 (5000 + (x : Int)) 4000) O (out ++ [⟨f, ((9000 + x : Nat) : Int), 1⟩]) = some (out ++ [⟨f, 10000, 1⟩]) := by
  induction c generalizing x O with
  | zero => obtain rfl : x = 1000 := by omega
            rfl
  | succ c ih =>
    rw [show c + 1 + 0 = (c + 0) + 1 from by omega]
    unfold ph2
    have n1 : nextTo [6000, 4000] (has2 (5000 + (x : Int)) 4000) 9 1 = some 1 := by
      unfold nextTo
      have r1 : rd [6000, 4000] ((1 : Int) - 1) = 6000 := rfl
      have r2 : rd (has2 (5000 + (x : Int)) 4000) 1 = 5000 + (x : Int) := rfl
      rw [if_pos ⟨by decide, by decide, by decide⟩, r1, r2, if_neg (by omega), if_pos ⟨by omega, by omega⟩]
    rw [hO (9000 + x) (by omega) (by omega), if_pos rfl, n1, Option.bind_some, addR_same]
    have s1 : (has2 (5000 + (x : Int)) 4000).set (1 : Int).toNat (rd (has2 (5000 + (x : Int)) 4000) 1 + 1) = has2 (5000 + ((x + 1 : Nat) : Int)) 4000 := by
      have r2 : rd (has2 (5000 + (x : Int)) 4000) 1 = 5000 + (x : Int) := rfl
      rw [r2]
      simp only [has2, show ((1 : Int).toNat) = 1 from rfl, List.set_cons_succ, List.set_cons_zero]
      congr 2 <;> omega
    rw [s1, show ((9000 + x : Nat) : Int) + 1 = ((9000 + (x + 1) : Nat) : Int) from by omega, show 9000 + x + 1 = 9000 + (x + 1) from by omega]
    refine ih (x + 1) (by omega) (by omega) _ (fun i h1 h2 => ?_) (by simpa using hl)
    have := hO i (by omega) h2
    unfold rd at this ⊢
    rw [List.getD_eq_getElem?_getD, List.getElem?_set_ne (by rw [Int.toNat_natCast]; omega), ← List.getD_eq_getElem?_getD]
    exact this
def awakeL : List S69 := [⟨0, 5000, 1⟩, ⟨5000, 9000, 2⟩, ⟨9000, 10000, 1⟩]
set_option maxRecDepth 1000000 in
theorem rw_halves : rwA halvesL [6000, 4000] = some (awakeL, 0) := by
  have e0 : min ([6000, 4000] : List Int).length 8 = 2 := rfl
  have e1 : hasL [5000, 5000] 2 = has2 5000 5000 := rfl
  have p1 : ph1 [6000, 4000] 10000 (has2 5000 5000) (run3 5000 5000 0) = some (has2 5000 4000, run3 5000 4000 1000) := by
    have h := ph1_drop 1000 0 (by omega) (by omega)
    rw [ph1_keep 9000 (by omega)] at h
    exact h
  unfold rwA
  rw [e0, wcount_halves, paint_halves, e1, p1, Option.bind_some]
  have hr : ∀ i : Nat, i < 10000 → rd (run3 5000 4000 1000) (i : Int) = if i < 5000 then 1 else if i < 9000 then 2 else 0 := fun i h => run3_rd 5000 4000 1000 i (by omega)
  have q : ph2 [6000, 4000] 10000 0 1 (has2 5000 4000) (run3 5000 4000 1000) [] = some awakeL := by
    have a1 : ph2 [6000, 4000] 10000 0 1 (has2 5000 4000) (run3 5000 4000 1000) [] = ph2 [6000, 4000] (4999 + 5000) 1 1 (has2 5000 4000) (run3 5000 4000 1000) ([] ++ [⟨0, ((1 : Nat) : Int), 1⟩]) := by
      rw [show 10000 = 9999 + 1 from rfl]
      conv => lhs; unfold ph2
      have := hr 0 (by omega)
      rw [if_pos (by omega)] at this
      rw [this, if_neg (by decide)]
      rfl
    have a2 := ph2_run [6000, 4000] (has2 5000 4000) (run3 5000 4000 1000) 1 1 0 [] (by decide) 4999 5000 1 (fun i h1 h2 => by rw [hr i (by omega), if_pos (by omega)])
    have a3 : ph2 [6000, 4000] 5000 (1 + 4999) 1 (has2 5000 4000) (run3 5000 4000 1000) ([] ++ [⟨0, ((1 + 4999 : Nat) : Int), 1⟩]) = ph2 [6000, 4000] (3999 + 1000) 5001 1 (has2 5000 4000) (run3 5000 4000 1000) ([⟨0, 5000, 1⟩] ++ [⟨5000, ((5001 : Nat) : Int), 2⟩]) := by
      rw [show 5000 = 4999 + 1 from rfl]
      conv => lhs; unfold ph2
      have := hr 5000 (by omega)
      rw [if_neg (by omega), if_pos (by omega)] at this
      rw [show ((1 + 4999 : Nat)) = 5000 from rfl, this, if_neg (by decide), addR_other 5000 (by decide)]
      rfl
    have a4 := ph2_run [6000, 4000] (has2 5000 4000) (run3 5000 4000 1000) 1 2 5000 [⟨0, 5000, 1⟩] (by decide) 3999 1000 5001 (fun i h1 h2 => by rw [hr i (by omega), if_neg (by omega), if_pos (by omega)])
    have a5 : ph2 [6000, 4000] 1000 (5001 + 3999) 1 (has2 5000 4000) (run3 5000 4000 1000) ([⟨0, 5000, 1⟩] ++ [⟨5000, ((5001 + 3999 : Nat) : Int), 2⟩]) = ph2 [6000, 4000] (999 + 0) (9000 + 1) 1 (has2 (5000 + ((1 : Nat) : Int)) 4000) ((run3 5000 4000 1000).set 9000 1) ([⟨0, 5000, 1⟩, ⟨5000, 9000, 2⟩] ++ [⟨9000, ((9000 + 1 : Nat) : Int), 1⟩]) := by
      rw [show 1000 = 999 + 1 from rfl]
      conv => lhs; unfold ph2
      have := hr 9000 (by omega)
      rw [if_neg (by omega), if_neg (by omega)] at this
      have n1 : nextTo [6000, 4000] (has2 5000 4000) 9 1 = some 1 := by decide
      rw [show ((5001 + 3999 : Nat)) = 9000 from rfl, this, if_pos rfl, n1, Option.bind_some, addR_other 9000 (by decide)]
      rfl
    have a6 := ph2_fill 999 1 (by omega) (by omega) 0 9000 [⟨0, 5000, 1⟩, ⟨5000, 9000, 2⟩] ((run3 5000 4000 1000).set 9000 1) (fun i h1 h2 => by
      have h3 := hr i h2
      rw [if_neg (by omega), if_neg (by omega)] at h3
      unfold rd at h3 ⊢
      rw [List.getD_eq_getElem?_getD, List.getElem?_set_ne (by rw [Int.toNat_natCast]; omega), ← List.getD_eq_getElem?_getD]
      exact h3) (by rw [List.length_set, run3_len])
    rw [a1, a2, a3, a4, a5, a6]
    rfl
  rw [q, Option.bind_some]
  rfl
/-- Three whole numbers of each element, as ranges. -/
theorem ranges_at {w : World} {ad : Addr} (xs : List S69) (hl : xs.length ≤ 1000) (h : ∀ i (hi : i < xs.length), w.cell? (ad.add (i * 3)) = some (.int .i64 xs[i].f0) ∧ w.cell? (ad.add (i * 3 + 1)) = some (.int .i64 xs[i].f1) ∧ w.cell? (ad.add (i * 3 + 2)) = some (.int .i64 xs[i].f2)) :
    Kd.C k69 w (some ad) xs.length xs := by
  refine ⟨rfl, by omega, fun _ => ⟨ad, rfl, fun j p hp => ?_⟩⟩
  obtain ⟨hj, rfl⟩ := List.getElem?_eq_some_iff.1 hp
  refine ⟨[.int .i64 xs[j].f0, .int .i64 xs[j].f1, .int .i64 xs[j].f2], rfl, k69_mk w xs[j], fun i u hu => ?_⟩
  obtain ⟨h0, h1, h2⟩ := h j hj
  rcases i with _ | _ | _ | i
  · obtain rfl : Value.int .i64 xs[j].f0 = u := by simpa using hu
    exact h0
  · obtain rfl : Value.int .i64 xs[j].f1 = u := by simpa using hu
    exact h1
  · obtain rfl : Value.int .i64 xs[j].f2 = u := by simpa using hu
    exact h2
  · simp at hu
theorem ints_block {w : World} {g T : Nat} {xs : List Int} (h : w.heap[g]? = some (.cells (nums .i64 xs).toArray T (0, 0))) (hl : xs.length ≤ 1000) : Kd.C (Kd.int .i64) w (some ⟨g, 0, none⟩) xs.length xs := by
  refine Kd.C_of_reads (d := (0 : Int)) (h1 := fun _ => rfl) ⟨rfl, by omega, fun _ => ⟨_, rfl, fun j hj => ?_⟩⟩
  rw [add_plain, blk_cell h]
  simp [nums, hj]
def bytesS : ByteArray := ⟨#[115]⟩
def bytesA : ByteArray := ⟨#[97]⟩
set_option maxRecDepth 1000000 in
theorem of_sa : ∃ v, bucket_Of.f 100 bytesS bytesA = some v ∧ flagstoneref13_Of.f 100 bytesS bytesA = some v := ⟨(bucket_Of.f 100 bytesS bytesA).getD 0, by decide +kernel, by decide +kernel⟩
theorem reweigh_halves : bucket_Reweigh.f 100 halvesL [6000, 4000] = some (awakeL, 0) := by
  have h1 : shape_Split.f 100 halvesL (([6000, 4000] : List Int).length : Int) = some 0 := by decide +kernel
  have h2 : bucket_check.f 100 [6000, 4000] = some 0 := by decide +kernel
  unfold bucket_Reweigh.f
  rw [h1, Option.bind_some, if_pos rfl, h2, Option.bind_some, if_pos rfl, rw_halves]
theorem same_awake : flagstoneref6_SameRanges.f 100 awakeL awakeL = some true := by decide +kernel

set_option maxHeartbeats 8000000 in
set_option maxRecDepth 100000 in
theorem awake_any (w : World) (hGL : GL w) :
    Calls Tryd.prog 10 #[] w fun e w' => e = .returned (.bool true) ∧ Below w.heap.size w w' := by
  obtain ⟨ad, c, hg, hc, hcells⟩ := hGL.halves
  have HR := Aside0.mk (ranges_at (w := w) (ad := ad) halvesL (by decide) (by
    intro i hi
    have hi2 : i < 2 := hi
    refine ⟨?_, ?_, ?_⟩
    · rw [hcells (i * 3) (by omega)]
      rcases i with _ | _ | i
      · rfl
      · rfl
      · omega
    · rw [hcells (i * 3 + 1) (by omega)]
      rcases i with _ | _ | i
      · rfl
      · rfl
      · omega
    · rw [hcells (i * 3 + 2) (by omega)]
      rcases i with _ | _ | i
      · rfl
      · rfl
      · omega))
  clear hcells
  obtain ⟨vo, hv1, hv2⟩ := of_sa
  have HV1 := Aside0.mk hv1; have HV2 := Aside0.mk hv2; clear hv1 hv2
  have HB := Aside0.mk (Below.refl w.heap.size w)
  go_enter Tryd.func10, Tryd.ntmps10
  go_wp2_with fail
  have h0 : (w.alloc (Obj.cells #[Value.int IntKind.i64 6000, Value.int IntKind.i64 4000] 3)).heap[w.heap.size]? = some (.cells (nums .i64 [6000, 4000]).toArray 3 (0, 0)) := by
    rw [heap_alloc_new]
    rfl
  have HI := Aside0.mk (ints_block h0 (by decide))
  clear h0
  have HB1 := Aside0.mk (zE HB.out (Obj.cells #[Value.int IntKind.i64 6000, Value.int IntKind.i64 4000] 3))
  refine (bucket_Reweigh.calls 100 (some ad) c halvesL (some ⟨w.heap.size, 0, none⟩) 2 [6000, 4000] awakeL 0 _ (Kd.C_alloc HR.out _) hc HI.out (by decide) reweigh_halves).mono ?_
  rintro e w1 ⟨v1, rfl, ho1, hb1⟩
  obtain ⟨A1, c1, rfl⟩ := Kd.R_slice ho1
  have HO := Aside0.mk ho1
  have HB2 := Aside0.mk (below_step HB1.out hb1)
  clear HB1 ho1 hb1 HI HR
  go_wp2_with fail
  obtain ⟨o, ho⟩ : ∃ o, o = Obj.cells #[Value.int IntKind.i64 0, Value.int IntKind.i64 5000, Value.int IntKind.i64 1, Value.int IntKind.i64 5000, Value.int IntKind.i64 9000, Value.int IntKind.i64 2, Value.int IntKind.i64 9000, Value.int IntKind.i64 10000, Value.int IntKind.i64 1] 69 := ⟨_, rfl⟩
  have HA := Aside0.mk (ranges_at (w := w1.alloc o) (ad := ⟨w1.heap.size, 0, none⟩) awakeL (by decide) (by
    intro i hi
    have hi2 : i < 3 := hi
    have hc (j : Nat) : (w1.alloc o).cell? (Addr.add ⟨w1.heap.size, 0, none⟩ j) = #[Value.int IntKind.i64 0, Value.int IntKind.i64 5000, Value.int IntKind.i64 1, Value.int IntKind.i64 5000, Value.int IntKind.i64 9000, Value.int IntKind.i64 2, Value.int IntKind.i64 9000, Value.int IntKind.i64 10000, Value.int IntKind.i64 1][j]? := by
      rw [add_plain, ho]
      exact blk_cell (heap_alloc_new _ _) j
    rw [hc, hc, hc]
    rcases i with _ | _ | _ | i
    · exact ⟨rfl, rfl, rfl⟩
    · exact ⟨rfl, rfl, rfl⟩
    · exact ⟨rfl, rfl, rfl⟩
    · omega))
  rw [← ho]
  clear ho
  have HB3 := Aside0.mk (zE HB2.out o)
  refine (flagstoneref6_SameRanges.calls 100 A1 c1 awakeL (some ⟨w1.heap.size, 0, none⟩) 3 awakeL true _ (Kd.C_alloc (Kd.R_reads' HO.out).2.2 _) (Kd.R_reads' HO.out).2.1 HA.out (by decide) same_awake).mono ?_
  rintro e w2 ⟨rfl, hb2⟩
  have HB4 := Aside0.mk (below_step HB3.out hb2.below)
  clear HB2 HB3 hb2 HA HO
  go_wp2_with fail
  refine (bucket_Of.calls 100 bytesS bytesA vo _ HV1.out).mono ?_
  rintro e w3 ⟨rfl, hb3⟩
  have HB5 := Aside0.mk (below_step HB4.out hb3)
  clear HB4 hb3
  go_wp2_with fail
  refine (flagstoneref13_Of.calls 100 bytesS bytesA vo _ HV2.out).mono ?_
  rintro e w4 ⟨rfl, hb4⟩
  have HB6 := Aside0.mk (below_step HB5.out hb4)
  clear HB5 hb4
  go_wp2_with fail
  go_ret
  exact ⟨rfl, HB6.out⟩
end
def flagstonelaw13_awake.f  : Option (Bool) := some true
theorem flagstonelaw13_awake.calls (r : Bool) (w : World) (hGL : GL w) (h : flagstonelaw13_awake.f = some r) :
    Calls Tryd.prog 10 #[] w fun e w' => e = .returned (.bool r) ∧ Below w.heap.size w w' := by
  obtain rfl := Option.some.inj h
  exact awake_any w hGL

/-- A state of type 71 at block g of W; what its slices lead to came in by w0. -/
def IsS71 (w0 W : World) (g : Nat) (f0 : List Int) (f1 : Int) : Prop := ∃ A0 c0, W.heap[g]? = some (.cells #[.slice A0 f0.length c0, .int .i64 f1] 71 (0, 0)) ∧ w0.heap.size ≤ g ∧ Kd.C (Kd.int .u8) w0 A0 f0.length f0
theorem IsS71.grown {w0 W : World} {g : Nat} {f0 : List Int} {f1 : Int} {W1 : World} {row : Option Nat} (h : IsS71 w0 W g f0 f1) (hw : W.grownBy W1 row) (hne : some g ≠ row) : IsS71 w0 W1 g f0 f1 := by
  obtain ⟨A0, c0, hb, hg, hr0⟩ := h
  exact ⟨A0, c0, blk_grown hb hw hne, hg, hr0⟩
theorem IsS71.fresh {w0 W : World} {g : Nat} {f0 : List Int} {f1 : Int} (h : IsS71 w0 W g f0 f1) : ∀ k, W.heap.size ≤ k → k ≠ g := by
  obtain ⟨A0, c0, hb, hg, hr0⟩ := h
  exact Kd.freshB hb
theorem IsS71.kept {w0 W : World} {g : Nat} {f0 : List Int} {f1 : Int} {W1 : World} {S : Nat → Prop} (h : IsS71 w0 W g f0 f1) (hk : Kept W W1 S) (hne : ¬ S g) : IsS71 w0 W1 g f0 f1 := by
  obtain ⟨A0, c0, hb, hg, hr0⟩ := h
  exact ⟨A0, c0, blk_kept hb hk hne, hg, hr0⟩
theorem IsS71.below {w0 W : World} {g : Nat} {f0 : List Int} {f1 : Int} {W1 : World} (h : IsS71 w0 W g f0 f1) (hw : Below W.heap.size W W1) : IsS71 w0 W1 g f0 f1 := h.grown (grown_of_below hw none) (by simp)
theorem IsS71.alloc {w0 W : World} {g : Nat} {f0 : List Int} {f1 : Int} (h : IsS71 w0 W g f0 f1) (o : Obj) : IsS71 w0 (W.alloc o) g f0 f1 := h.below (zE (Below.refl _ _) o)
theorem IsS71.drewN {w0 W : World} {g : Nat} {f0 : List Int} {f1 : Int} (h : IsS71 w0 W g f0 f1) (m : Nat) : IsS71 w0 (W.drewN m) g f0 f1 := h
theorem IsS71.drew {w0 W : World} {g : Nat} {f0 : List Int} {f1 : Int} (h : IsS71 w0 W g f0 f1) : IsS71 w0 W.drew g f0 f1 := h
theorem IsS71.at_ {w0 W : World} {g : Nat} {f0 : List Int} {f1 : Int} {w' : World} {m : Nat} (hq : W.drewN m = w') (h : IsS71 w0 W g f0 f1) : IsS71 w0 w' g f0 f1 := by subst hq; exact IsS71.drewN h m
theorem IsS71.apart {w0 W : World} {g : Nat} {f0 : List Int} {f1 : Int} {α : Type} {d : Kd α} {e : Nat} {base : Nat} {ok : Nat → Prop} {v : Value} {xs : List α} (h : IsS71 w0 W g f0 f1) (ho : d.R e W base ok v xs) (ht : ∀ q, q ∈ e :: d.E → q ≠ 71) : d.R e W base (fun k => ok k ∧ k ≠ g) v xs := by
  obtain ⟨A0, c0, hb, hg, hr0⟩ := h
  exact Kd.R_types ho hb ht
theorem IsS71.own_ne {w0 W : World} {g : Nat} {f0 : List Int} {f1 : Int} {α : Type} {d : Kd α} {e : Nat} {base : Nat} {ok : Nat → Prop} {v : Value} {xs : List α} (h : IsS71 w0 W g f0 f1) (ho : d.R e W base ok v xs) (ht : e ≠ 71) : some g ≠ v.ownBlock := by
  obtain ⟨A0, c0, hb, hg, hr0⟩ := h
  exact Kd.R_ne ho hb ht
theorem IsS71.apartS {w0 W : World} {g : Nat} {f0 : List Int} {f1 : Int} {α : Type} {d : Kd α} {e : Nat} {base : Nat} {ok : Nat → Prop} {v : Value} {xs : List α} (h : IsS71 w0 W g f0 f1) (ho : d.S e W base ok v xs) (ht : ∀ q, q ∈ e :: d.E → q ≠ 71) : d.S e W base (fun k => ok k ∧ k ≠ g) v xs := by
  obtain ⟨A0, c0, hb, hg, hr0⟩ := h
  exact Kd.S_types ho hb ht
theorem IsS71.own_neS {w0 W : World} {g : Nat} {f0 : List Int} {f1 : Int} {α : Type} {d : Kd α} {e : Nat} {base : Nat} {ok : Nat → Prop} {v : Value} {xs : List α} (h : IsS71 w0 W g f0 f1) (ho : d.S e W base ok v xs) (ht : e ≠ 71) : some g ≠ v.ownBlock := by
  obtain ⟨A0, c0, hb, hg, hr0⟩ := h
  exact Kd.S_ne ho hb ht
theorem IsS71.lt {w0 W : World} {g : Nat} {f0 : List Int} {f1 : Int} (h : IsS71 w0 W g f0 f1) : g < W.heap.size := by
  obtain ⟨A0, c0, hb, hg, hr0⟩ := h
  exact blk_lt hb
theorem IsS71.ge {w0 W : World} {g : Nat} {f0 : List Int} {f1 : Int} (h : IsS71 w0 W g f0 f1) : w0.heap.size ≤ g := by
  obtain ⟨A0, c0, hb, hg, hr0⟩ := h
  exact hg
theorem IsS71.ne_blk {w0 W : World} {g : Nat} {f0 : List Int} {f1 : Int} {a : Nat} {cs : Array Value} {t : TypeId} {fr : Nat × Nat} (h : IsS71 w0 W g f0 f1) (hb2 : W.heap[a]? = some (.cells cs t fr)) (ht : t ≠ 71) : g ≠ a := by
  obtain ⟨A0, c0, hb, hg, hr0⟩ := h
  rintro rfl
  rw [hb] at hb2
  injection hb2 with hb2
  injection hb2 with _ ht2
  exact ht ht2.symm
theorem IsS71.far {w0 W : World} {g : Nat} {f0 : List Int} {f1 : Int} {p : Addr} (h : IsS71 w0 W g f0 f1) (hne : g ≠ p.block) (u : Value) : IsS71 w0 (W.setCell p u) g f0 f1 := by
  obtain ⟨A0, c0, hb, hg, hr0⟩ := h
  exact ⟨A0, c0, blk_far hb hne u, hg, hr0⟩
theorem cellS71_0 {W : World} {g : Nat} {A0 : Option Addr} {c0 : Nat} {f0 : List Int} {f1 : Int} (h : W.heap[g]? = some (.cells #[.slice A0 f0.length c0, .int .i64 f1] 71 (0, 0))) : W.cell? ⟨g, 0, none⟩ = some (.slice A0 f0.length c0) := (blk_cell h 0).trans rfl
theorem cellS71_1 {W : World} {g : Nat} {A0 : Option Addr} {c0 : Nat} {f0 : List Int} {f1 : Int} (h : W.heap[g]? = some (.cells #[.slice A0 f0.length c0, .int .i64 f1] 71 (0, 0))) : W.cell? ⟨g, 1, none⟩ = some (.int .i64 f1) := (blk_cell h 1).trans rfl
theorem IsS71.set_1 {w0 W : World} {g : Nat} {f0 : List Int} {f1 : Int} (h : IsS71 w0 W g f0 f1) (x : Int) : IsS71 w0 (W.setCell ⟨g, 1, none⟩ (.int .i64 x)) g f0 x := by
  obtain ⟨A0, c0, hb, hg, hr0⟩ := h
  exact ⟨A0, c0, by simpa using blk_set hb 1 (.int .i64 x), hg, hr0⟩
theorem IsS71.new (w0 W : World) (A0 : Option Addr) (c0 : Nat) (f0 : List Int) (f1 : Int) (hB : Below w0.heap.size w0 W) (hr0 : Kd.C (Kd.int .u8) w0 A0 f0.length f0) : IsS71 w0 (W.alloc (.cells #[.slice A0 f0.length c0, .int .i64 f1] 71)) W.heap.size f0 f1 := ⟨A0, c0, by simpa using heap_alloc_new W _, hB.size, hr0⟩

/-! ### flagstonedraw_New: function 11 -/
def flagstonedraw_New.f (l0 : List Int) (a1 : Int) : Option (List Int × Int) := if (l0.length : Int) > a1 then (if 0 ≤ a1 then (if a1 ≤ (l0.length : Int) then (some (l0.take (a1 : Int).toNat, 0)) else (none)) else (none)) else (some (l0, 0))
set_option maxHeartbeats 8000000 in
set_option maxRecDepth 100000 in
theorem flagstonedraw_New.calls (A0 : Option Addr) (c0 : Nat) (l0 : List Int) (a1 : Int) (r1 : List Int) (r2 : Int) (w0 w : World) (hB : Below w0.heap.size w0 w) (hr0 : Kd.C (Kd.int .u8) w0 A0 l0.length l0) (hc0 : l0.length ≤ c0) (h : flagstonedraw_New.f l0 a1 = some (r1, r2)) :
    Calls Tryd.prog 11 #[.slice A0 l0.length c0, .int .i64 a1] w fun e w' => ∃ g_ : Nat, e = .returned (.pointer (some ⟨g_, 0, none⟩)) ∧ IsS71 w0 w' g_ r1 r2 ∧ Below w0.heap.size w0 w' ∧ Below w.heap.size w w' ∧ w.heap.size ≤ g_ := by
  have hu71 := Tryd.underlying71; have HR0 := Aside0.mk hr0; have HC0 := Aside0.mk hc0; clear hr0 hc0
  have HBW := Aside0.mk (Below.refl w.heap.size w)
  have HW0 := Aside0.mk hB.size; have HB := Aside0.mk hB; clear hB
  have H : (if (l0.length : Int) > a1 then (if 0 ≤ a1 then (if a1 ≤ (l0.length : Int) then (some (l0.take (a1 : Int).toNat, 0)) else (none)) else (none)) else (some (l0, 0))) = some (r1, r2) := h
  clear h
  by_cases c3 : (l0.length : Int) > a1
  · rw [if_pos c3] at H
    have c3b0 : decide (a1 < (l0.length : Int)) = true := decide_eq_true c3
    clear c3
    by_cases c4 : 0 ≤ a1
    · rw [if_pos c4] at H
      have c4b0 := eq_true c4
      have c4b1 : decide (0 ≤ a1) = true := decide_eq_true c4
      clear c4
      by_cases c5 : a1 ≤ (l0.length : Int)
      · rw [if_pos c5] at H
        have c5b0 := eq_true c5
        have c5b1 : decide (a1 ≤ (l0.length : Int)) = true := decide_eq_true c5
        clear c5
        simp only [Option.some.injEq, Prod.mk.injEq] at H
        obtain ⟨rfl, rfl⟩ := H
        obtain ⟨i06, hi06, _, hsz6, _⟩ := info_parts info5
        obtain ⟨hcut6, hA6, hC6⟩ := print_take_of (P := Tryd.prog) (Value.int .u8) 0 24 5 .i64 Tryd.underlying24 hi06 hsz6 A0 c0 l0 a1 (of_decide_eq_true (by first | (with_reducible assumption) | assumption)) (of_decide_eq_true (by first | (with_reducible assumption) | assumption)) HC0.out
        have HR153 := Aside0.mk (Kd.C_of_reads (h1 := fun _ => rfl) (hA6 _ (Kd.reads_of_C HR0.out)))
        have HC153 := Aside0.mk hC6; clear hA6 hC6 hi06 hsz6
        go_enter Tryd.func11, Tryd.ntmps11
        go_wp2_with (first | ((with_reducible refine gate_dst (N := 14) rfl ?_); refine box_event ?hg (N := 14) ?hd (cs := #[.slice A0 (l0.take (a1 : Int).toNat).length c0, .int .i64 0]) (t := 71) ?hr ?_; (case hd => rfl); (case hg => rfl); (case hr => first | (go_simp; done) | (go_simp; rfl)); intro gb154 hg w7 hbox hb; have n0_ := Aside0.mk (below_step HBW.out hb); have n1_ := Aside0.mk (below_step (by repeat (first | (with_reducible first|exact HB.out|apply zE|apply zB|apply zC) | exact HB.out)) hb); have n2_ := Aside0.mk (hbox); have n3_ := Aside0.mk ((by rw [hg]; exact (below_size (by repeat (first | (with_reducible first | exact HBW.out | apply zE | apply zB | apply zC) | exact HBW.out))) : w.heap.size ≤ gb154)); have n4_ := Aside0.mk ((Nat.le_trans HW0.out (by rw [hg]; exact (below_size (by repeat (first | (with_reducible first | exact HBW.out | apply zE | apply zB | apply zC) | exact HBW.out))) : w.heap.size ≤ gb154) : w0.heap.size ≤ gb154)); clear HBW HB; have HBW := n0_; have HB := n1_; have BK154 := n2_; have GW154 := n3_; have GE154 := n4_; clear n0_ n1_ n2_ n3_ n4_ hb hbox hg))
        go_ret
        exact ⟨_, rfl, (show IsS71 w0 _ gb154 (l0.take (a1 : Int).toNat) 0 from ⟨_, _, by (with_reducible repeat (first|refine zN ?_ _|refine zD ?_|refine zA ?_ _)); exact BK154.out, GE154.out, HR153.out⟩), by repeat (first | (with_reducible first|exact HB.out|apply zE|apply zB|apply zC | refine zJ ?_ GE154.out) | exact HB.out), by repeat (first | (with_reducible first | exact HBW.out | apply zE | apply zB | apply zC | refine zJ ?_ GW154.out) | exact HBW.out), GW154.out⟩
      · rw [if_neg c5] at H
        exact absurd H (by simp)
    · rw [if_neg c4] at H
      exact absurd H (by simp)
  · rw [if_neg c3] at H
    have c3b0 : decide (a1 < (l0.length : Int)) = false := decide_eq_false c3
    clear c3
    simp only [Option.some.injEq, Prod.mk.injEq] at H
    obtain ⟨rfl, rfl⟩ := H
    go_enter Tryd.func11, Tryd.ntmps11
    go_wp2_with (first | ((with_reducible refine gate_dst (N := 14) rfl ?_); refine box_event ?hg (N := 14) ?hd (cs := #[.slice A0 l0.length c0, .int .i64 0]) (t := 71) ?hr ?_; (case hd => rfl); (case hg => rfl); (case hr => first | (go_simp; done) | (go_simp; rfl)); intro gb155 hg w8 hbox hb; have n0_ := Aside0.mk (below_step HBW.out hb); have n1_ := Aside0.mk (below_step (by repeat (first | (with_reducible first|exact HB.out|apply zE|apply zB|apply zC) | exact HB.out)) hb); have n2_ := Aside0.mk (hbox); have n3_ := Aside0.mk ((by rw [hg]; exact (below_size (by repeat (first | (with_reducible first | exact HBW.out | apply zE | apply zB | apply zC) | exact HBW.out))) : w.heap.size ≤ gb155)); have n4_ := Aside0.mk ((Nat.le_trans HW0.out (by rw [hg]; exact (below_size (by repeat (first | (with_reducible first | exact HBW.out | apply zE | apply zB | apply zC) | exact HBW.out))) : w.heap.size ≤ gb155) : w0.heap.size ≤ gb155)); clear HBW HB; have HBW := n0_; have HB := n1_; have BK155 := n2_; have GW155 := n3_; have GE155 := n4_; clear n0_ n1_ n2_ n3_ n4_ hb hbox hg))
    go_ret
    exact ⟨_, rfl, (show IsS71 w0 _ gb155 l0 0 from ⟨_, _, by (with_reducible repeat (first|refine zN ?_ _|refine zD ?_|refine zA ?_ _)); exact BK155.out, GE155.out, HR0.out⟩), by repeat (first | (with_reducible first|exact HB.out|apply zE|apply zB|apply zC | refine zJ ?_ GE155.out) | exact HB.out), by repeat (first | (with_reducible first | exact HBW.out | apply zE | apply zB | apply zC | refine zJ ?_ GW155.out) | exact HBW.out), GW155.out⟩

/-! ### flagstonedraw_Codes_Left: function 36 -/
def flagstonedraw_Codes_Left.f (s0_0 : List Int) (s0_1 : Int) : Option (Bool × Int) := some (decide (s0_1 < (s0_0.length : Int)), s0_1)
set_option maxHeartbeats 8000000 in
set_option maxRecDepth 100000 in
theorem flagstonedraw_Codes_Left.calls (g : Nat) (s0_0 : List Int) (s0_1 : Int) (r1 : Bool) (r2 : Int) (w0 w : World) (hI : IsS71 w0 w g s0_0 s0_1) (hB : Below w0.heap.size w0 w) (h : flagstonedraw_Codes_Left.f s0_0 s0_1 = some (r1, r2)) :
    Calls Tryd.prog 36 #[.pointer (some ⟨g, 0, none⟩)] w fun e w' => e = .returned (.bool r1) ∧ IsS71 w0 w' g s0_0 r2 ∧ Below w0.heap.size w0 w' ∧ KeepBut w w' g none := by
  have HI0 := Aside0.mk hI
  have HK := Aside0.mk (KeepBut.refl w g none)
  have HL := Aside0.mk hB.size; clear hI; have HW0 := Aside0.mk hB.size; have HB := Aside0.mk hB; clear hB
  have H : (some (decide (s0_1 < (s0_0.length : Int)), s0_1)) = some (r1, r2) := h
  clear h
  simp only [Option.some.injEq, Prod.mk.injEq] at H
  obtain ⟨rfl, rfl⟩ := H
  obtain ⟨ASz2_0, cSz2_0, HGz2, hgz2, HSz2_0⟩ := HI0.out
  have hcz2_0 := cellS71_0 HGz2; have hcz2_1 := cellS71_1 HGz2
  have hfz2_1 := blk_frozen HGz2 1
  clear HGz2 hgz2
  go_enter Tryd.func36, Tryd.ntmps36
  go_wp2
  repeat (go_quiet (fail); try go_wp2)
  go_ret
  exact ⟨by first | rfl | (simp [errW_none, errW_some] <;> rfl) | (simp [*, errW_none, errW_some] <;> rfl), by repeat (first | (with_reducible first | exact HI0.out | apply IsS71.alloc | apply IsS71.drewN | apply IsS71.drew | apply IsS71.set_1) | exact HI0.out), by repeat (first | (with_reducible first|exact HB.out|apply zE|apply zB|apply zC | refine zJ ?_ (IsS71.ge HI0.out)) | exact HB.out), by repeat (first | (with_reducible first | exact HK.out | apply KeepBut.set_ | apply zF | apply zG | apply zH) | exact HK.out)⟩

/-! ### flagstonedraw_Codes_Next: function 12 -/
def flagstonedraw_Codes_Next.f (s0_0 : List Int) (s0_1 : Int) (a1 : Int) : Option (Int × Int) := (flagstonedraw_Codes_Left.f s0_0 s0_1).bind fun bt156 => (if bt156.1 = true then (if 0 ≤ (wrap64 ((wrap64 (bt156.2 + 1)) - 1)) then (if (wrap64 ((wrap64 (bt156.2 + 1)) - 1)) < (s0_0.length : Int) then (if a1 = 0 then (none) else (some (Int.tmod (wrap64 (rd s0_0 (wrap64 ((wrap64 (bt156.2 + 1)) - 1)))) a1, wrap64 (bt156.2 + 1)))) else (none)) else (none)) else (some (0, bt156.2)))
set_option maxHeartbeats 8000000 in
set_option maxRecDepth 100000 in
theorem flagstonedraw_Codes_Next.calls (g : Nat) (s0_0 : List Int) (s0_1 : Int) (a1 : Int) (r1 : Int) (r2 : Int) (w0 w : World) (hI : IsS71 w0 w g s0_0 s0_1) (hB : Below w0.heap.size w0 w) (h : flagstonedraw_Codes_Next.f s0_0 s0_1 a1 = some (r1, r2)) :
    Calls Tryd.prog 12 #[.pointer (some ⟨g, 0, none⟩), .int .i64 a1] w fun e w' => e = .returned (.int .i64 r1) ∧ IsS71 w0 w' g s0_0 r2 ∧ Below w0.heap.size w0 w' ∧ KeepBut w w' g none := by
  have HI0 := Aside0.mk hI
  have HK := Aside0.mk (KeepBut.refl w g none)
  have HL := Aside0.mk hB.size; clear hI; have HW0 := Aside0.mk hB.size; have HB := Aside0.mk hB; clear hB
  have H : ((flagstonedraw_Codes_Left.f s0_0 s0_1).bind fun bt156 => (if bt156.1 = true then (if 0 ≤ (wrap64 ((wrap64 (bt156.2 + 1)) - 1)) then (if (wrap64 ((wrap64 (bt156.2 + 1)) - 1)) < (s0_0.length : Int) then (if a1 = 0 then (none) else (some (Int.tmod (wrap64 (rd s0_0 (wrap64 ((wrap64 (bt156.2 + 1)) - 1)))) a1, wrap64 (bt156.2 + 1)))) else (none)) else (none)) else (some (0, bt156.2)))) = some (r1, r2) := h
  clear h; replace H := Option.bind_eq_some_iff.mp H
  obtain ⟨⟨t156, t157⟩, A30, H⟩ := H
  replace H : (if t156 = true then (if 0 ≤ (wrap64 ((wrap64 (t157 + 1)) - 1)) then (if (wrap64 ((wrap64 (t157 + 1)) - 1)) < (s0_0.length : Int) then (if a1 = 0 then (none) else (some (Int.tmod (wrap64 (rd s0_0 (wrap64 ((wrap64 (t157 + 1)) - 1)))) a1, wrap64 (t157 + 1)))) else (none)) else (none)) else (some (0, t157))) = some (r1, r2) := H
  have A3 := Aside0.mk A30; clear A30
  by_cases c4 : t156 = true
  · subst c4
    have H1 : (if 0 ≤ (wrap64 ((wrap64 (t157 + 1)) - 1)) then (if (wrap64 ((wrap64 (t157 + 1)) - 1)) < (s0_0.length : Int) then (if a1 = 0 then (none) else (some (Int.tmod (wrap64 (rd s0_0 (wrap64 ((wrap64 (t157 + 1)) - 1)))) a1, wrap64 (t157 + 1)))) else (none)) else (none)) = some (r1, r2) := by rw [if_pos rfl] at H; exact H
    clear H; have H := H1; clear H1
    obtain ⟨ji5, hji5⟩ : ∃ j_ : Int, (wrap64 ((wrap64 (t157 + 1)) - 1)) = j_ := ⟨_, rfl⟩
    replace H : (if 0 ≤ (ji5) then (if (ji5) < (s0_0.length : Int) then (if a1 = 0 then (none) else (some (Int.tmod (wrap64 (rd s0_0 (ji5))) a1, wrap64 (t157 + 1)))) else (none)) else (none)) = some (r1, r2) := by first | (rw [hji5] at H; exact H) | (simp only [hji5] at H ⊢; exact H)
    (try rw [hji5] at A3)
    have hji5w : (IntKind.i64.wrap ((wrap64 (t157 + 1)) - 1)) = ji5 := (i64_w _).trans hji5
    by_cases c6 : 0 ≤ (ji5)
    · rw [if_pos c6] at H
      have c6b0 : decide (0 ≤ (ji5)) = true := decide_eq_true c6
      clear c6
      by_cases c7 : (ji5) < (s0_0.length : Int)
      · rw [if_pos c7] at H
        have c7b0 : decide ((ji5) < (s0_0.length : Int)) = true := decide_eq_true c7
        clear c7
        by_cases c8 : a1 = 0
        · rw [if_pos c8] at H
          exact absurd H (by simp)
        · rw [if_neg c8] at H
          have c8b0 : (a1 == 0) = false := beq_eq_false_iff_ne.mpr c8
          have c8b1 : (a1 != 0) = true := bne_iff_ne.mpr c8
          simp only [Option.some.injEq, Prod.mk.injEq] at H
          obtain ⟨rfl, rfl⟩ := H
          go_enter Tryd.func12, Tryd.ntmps12
          go_wp2_with (first | (go_at_call 36; (with_reducible refine (flagstonedraw_Codes_Left.calls g s0_0 s0_1 true t157 w0 _ ?side1 ?side2 A3.out).mono ?_); (case side1 => repeat (first | (with_reducible first | exact HI0.out | apply IsS71.alloc | apply IsS71.drewN | apply IsS71.drew | apply IsS71.set_1) | exact HI0.out)); (case side2 => repeat (first | (with_reducible first|exact HB.out|apply zE|apply zB|apply zC | refine zJ ?_ (IsS71.ge HI0.out)) | exact HB.out)); rintro e w9 ⟨rfl, hi, hb, hk⟩; have n0_ := Aside0.mk (KeepBut.trans (by repeat (first | (with_reducible first | exact HK.out | apply KeepBut.set_ | apply zF | apply zG | apply zH) | exact HK.out)) hk (.inl rfl)); have n1_ := Aside0.mk (hb); have n2_ := Aside0.mk (hi); clear HK HB HI0; have HK := n0_; have HB := n1_; have HI0 := n2_; clear n0_ n1_ n2_; (try clear hb); (try clear hb2); (try clear hk); (try clear hi); (try clear hge); obtain ⟨ASz10_0, cSz10_0, HGz10, hgz10, HSz10_0⟩ := HI0.out; have hcz10_0 := cellS71_0 HGz10; have hcz10_1 := cellS71_1 HGz10; have hfz10_1 := blk_frozen HGz10 1; clear HGz10 hgz10; have p158 : 0 ≤ ((ji5) : Int) := of_decide_eq_true (by first | (with_reducible assumption) | assumption); have q158 : (ji5) < (s0_0.length : Int) := of_decide_eq_true (by first | (with_reducible assumption) | assumption); obtain ⟨ad158, e158, hx158_0⟩ := Kd.at_int HSz10_0 (ji5) p158 q158; cases e158; have hn158_0 : ad158.block ≠ g := Nat.ne_of_lt (Nat.lt_of_lt_of_le (by have := World.block_lt_of_cell? _ _ hx158_0; first | rwa [add_block] at this | exact this) (IsS71.ge HI0.out)); replace hx158_0 := pw_cell_below HB.out hx158_0; replace hx158_0 := (cell_far (p := ⟨g, 1, none⟩) (by first | (rw [add_block]; exact hn158_0) | (show (Addr.add _ _).block ≠ _; rw [add_block]; exact hn158_0) | exact hn158_0) (.int .i64 (wrap64 (t157 + 1)))).trans hx158_0; (try have hy158_0 := fun (n_ : Nat) => (show (((w9.drewN n_).setCell ⟨g, 1, none⟩ (.int .i64 (wrap64 (t157 + 1))))).cell? _ = some _ from hx158_0)); clear hn158_0; replace p158 := eq_true p158; replace q158 := eq_true q158))
          repeat (go_quiet (first | (go_at_call 36; (with_reducible refine (flagstonedraw_Codes_Left.calls g s0_0 s0_1 true t157 w0 _ ?side1 ?side2 A3.out).mono ?_); (case side1 => repeat (first | (with_reducible first | exact HI0.out | apply IsS71.alloc | apply IsS71.drewN | apply IsS71.drew | apply IsS71.set_1) | exact HI0.out)); (case side2 => repeat (first | (with_reducible first|exact HB.out|apply zE|apply zB|apply zC | refine zJ ?_ (IsS71.ge HI0.out)) | exact HB.out)); rintro e w9 ⟨rfl, hi, hb, hk⟩; have n0_ := Aside0.mk (KeepBut.trans (by repeat (first | (with_reducible first | exact HK.out | apply KeepBut.set_ | apply zF | apply zG | apply zH) | exact HK.out)) hk (.inl rfl)); have n1_ := Aside0.mk (hb); have n2_ := Aside0.mk (hi); clear HK HB HI0; have HK := n0_; have HB := n1_; have HI0 := n2_; clear n0_ n1_ n2_; (try clear hb); (try clear hb2); (try clear hk); (try clear hi); (try clear hge); obtain ⟨ASz10_0, cSz10_0, HGz10, hgz10, HSz10_0⟩ := HI0.out; have hcz10_0 := cellS71_0 HGz10; have hcz10_1 := cellS71_1 HGz10; have hfz10_1 := blk_frozen HGz10 1; clear HGz10 hgz10; have p158 : 0 ≤ ((ji5) : Int) := of_decide_eq_true (by first | (with_reducible assumption) | assumption); have q158 : (ji5) < (s0_0.length : Int) := of_decide_eq_true (by first | (with_reducible assumption) | assumption); obtain ⟨ad158, e158, hx158_0⟩ := Kd.at_int HSz10_0 (ji5) p158 q158; cases e158; have hn158_0 : ad158.block ≠ g := Nat.ne_of_lt (Nat.lt_of_lt_of_le (by have := World.block_lt_of_cell? _ _ hx158_0; first | rwa [add_block] at this | exact this) (IsS71.ge HI0.out)); replace hx158_0 := pw_cell_below HB.out hx158_0; replace hx158_0 := (cell_far (p := ⟨g, 1, none⟩) (by first | (rw [add_block]; exact hn158_0) | (show (Addr.add _ _).block ≠ _; rw [add_block]; exact hn158_0) | exact hn158_0) (.int .i64 (wrap64 (t157 + 1)))).trans hx158_0; (try have hy158_0 := fun (n_ : Nat) => (show (((w9.drewN n_).setCell ⟨g, 1, none⟩ (.int .i64 (wrap64 (t157 + 1))))).cell? _ = some _ from hx158_0)); clear hn158_0; replace p158 := eq_true p158; replace q158 := eq_true q158)); try go_wp2_with (first | (go_at_call 36; (with_reducible refine (flagstonedraw_Codes_Left.calls g s0_0 s0_1 true t157 w0 _ ?side1 ?side2 A3.out).mono ?_); (case side1 => repeat (first | (with_reducible first | exact HI0.out | apply IsS71.alloc | apply IsS71.drewN | apply IsS71.drew | apply IsS71.set_1) | exact HI0.out)); (case side2 => repeat (first | (with_reducible first|exact HB.out|apply zE|apply zB|apply zC | refine zJ ?_ (IsS71.ge HI0.out)) | exact HB.out)); rintro e w9 ⟨rfl, hi, hb, hk⟩; have n0_ := Aside0.mk (KeepBut.trans (by repeat (first | (with_reducible first | exact HK.out | apply KeepBut.set_ | apply zF | apply zG | apply zH) | exact HK.out)) hk (.inl rfl)); have n1_ := Aside0.mk (hb); have n2_ := Aside0.mk (hi); clear HK HB HI0; have HK := n0_; have HB := n1_; have HI0 := n2_; clear n0_ n1_ n2_; (try clear hb); (try clear hb2); (try clear hk); (try clear hi); (try clear hge); obtain ⟨ASz10_0, cSz10_0, HGz10, hgz10, HSz10_0⟩ := HI0.out; have hcz10_0 := cellS71_0 HGz10; have hcz10_1 := cellS71_1 HGz10; have hfz10_1 := blk_frozen HGz10 1; clear HGz10 hgz10; have p158 : 0 ≤ ((ji5) : Int) := of_decide_eq_true (by first | (with_reducible assumption) | assumption); have q158 : (ji5) < (s0_0.length : Int) := of_decide_eq_true (by first | (with_reducible assumption) | assumption); obtain ⟨ad158, e158, hx158_0⟩ := Kd.at_int HSz10_0 (ji5) p158 q158; cases e158; have hn158_0 : ad158.block ≠ g := Nat.ne_of_lt (Nat.lt_of_lt_of_le (by have := World.block_lt_of_cell? _ _ hx158_0; first | rwa [add_block] at this | exact this) (IsS71.ge HI0.out)); replace hx158_0 := pw_cell_below HB.out hx158_0; replace hx158_0 := (cell_far (p := ⟨g, 1, none⟩) (by first | (rw [add_block]; exact hn158_0) | (show (Addr.add _ _).block ≠ _; rw [add_block]; exact hn158_0) | exact hn158_0) (.int .i64 (wrap64 (t157 + 1)))).trans hx158_0; (try have hy158_0 := fun (n_ : Nat) => (show (((w9.drewN n_).setCell ⟨g, 1, none⟩ (.int .i64 (wrap64 (t157 + 1))))).cell? _ = some _ from hx158_0)); clear hn158_0; replace p158 := eq_true p158; replace q158 := eq_true q158)))
          go_ret
          exact ⟨by first | rfl | (simp [errW_none, errW_some] <;> rfl) | (simp only [← hji5]; first | rfl | (simp [errW_none, errW_some] <;> rfl)) | (simp [*, errW_none, errW_some] <;> rfl), by repeat (first | (with_reducible first | exact HI0.out | apply IsS71.alloc | apply IsS71.drewN | apply IsS71.drew | apply IsS71.set_1) | exact HI0.out), by repeat (first | (with_reducible first|exact HB.out|apply zE|apply zB|apply zC | refine zJ ?_ (IsS71.ge HI0.out)) | exact HB.out), by repeat (first | (with_reducible first | exact HK.out | apply KeepBut.set_ | apply zF | apply zG | apply zH) | exact HK.out)⟩
      · rw [if_neg c7] at H
        exact absurd H (by simp)
    · rw [if_neg c6] at H
      exact absurd H (by simp)
  · replace c4 := Bool.eq_false_iff.mpr c4
    subst c4
    have H1 : (some (0, t157)) = some (r1, r2) := by rw [if_neg (show ¬ (false = true) by decide)] at H; exact H
    clear H; have H := H1; clear H1
    simp only [Option.some.injEq, Prod.mk.injEq] at H
    obtain ⟨rfl, rfl⟩ := H
    go_enter Tryd.func12, Tryd.ntmps12
    go_wp2_with (first | (go_at_call 36; (with_reducible refine (flagstonedraw_Codes_Left.calls g s0_0 s0_1 false t157 w0 _ ?side1 ?side2 A3.out).mono ?_); (case side1 => repeat (first | (with_reducible first | exact HI0.out | apply IsS71.alloc | apply IsS71.drewN | apply IsS71.drew | apply IsS71.set_1) | exact HI0.out)); (case side2 => repeat (first | (with_reducible first|exact HB.out|apply zE|apply zB|apply zC | refine zJ ?_ (IsS71.ge HI0.out)) | exact HB.out)); rintro e w11 ⟨rfl, hi, hb, hk⟩; have n0_ := Aside0.mk (KeepBut.trans (by repeat (first | (with_reducible first | exact HK.out | apply KeepBut.set_ | apply zF | apply zG | apply zH) | exact HK.out)) hk (.inl rfl)); have n1_ := Aside0.mk (hb); have n2_ := Aside0.mk (hi); clear HK HB HI0; have HK := n0_; have HB := n1_; have HI0 := n2_; clear n0_ n1_ n2_; (try clear hb); (try clear hb2); (try clear hk); (try clear hi); (try clear hge)))
    repeat (go_quiet (first | (go_at_call 36; (with_reducible refine (flagstonedraw_Codes_Left.calls g s0_0 s0_1 false t157 w0 _ ?side1 ?side2 A3.out).mono ?_); (case side1 => repeat (first | (with_reducible first | exact HI0.out | apply IsS71.alloc | apply IsS71.drewN | apply IsS71.drew | apply IsS71.set_1) | exact HI0.out)); (case side2 => repeat (first | (with_reducible first|exact HB.out|apply zE|apply zB|apply zC | refine zJ ?_ (IsS71.ge HI0.out)) | exact HB.out)); rintro e w11 ⟨rfl, hi, hb, hk⟩; have n0_ := Aside0.mk (KeepBut.trans (by repeat (first | (with_reducible first | exact HK.out | apply KeepBut.set_ | apply zF | apply zG | apply zH) | exact HK.out)) hk (.inl rfl)); have n1_ := Aside0.mk (hb); have n2_ := Aside0.mk (hi); clear HK HB HI0; have HK := n0_; have HB := n1_; have HI0 := n2_; clear n0_ n1_ n2_; (try clear hb); (try clear hb2); (try clear hk); (try clear hi); (try clear hge))); try go_wp2_with (first | (go_at_call 36; (with_reducible refine (flagstonedraw_Codes_Left.calls g s0_0 s0_1 false t157 w0 _ ?side1 ?side2 A3.out).mono ?_); (case side1 => repeat (first | (with_reducible first | exact HI0.out | apply IsS71.alloc | apply IsS71.drewN | apply IsS71.drew | apply IsS71.set_1) | exact HI0.out)); (case side2 => repeat (first | (with_reducible first|exact HB.out|apply zE|apply zB|apply zC | refine zJ ?_ (IsS71.ge HI0.out)) | exact HB.out)); rintro e w11 ⟨rfl, hi, hb, hk⟩; have n0_ := Aside0.mk (KeepBut.trans (by repeat (first | (with_reducible first | exact HK.out | apply KeepBut.set_ | apply zF | apply zG | apply zH) | exact HK.out)) hk (.inl rfl)); have n1_ := Aside0.mk (hb); have n2_ := Aside0.mk (hi); clear HK HB HI0; have HK := n0_; have HB := n1_; have HI0 := n2_; clear n0_ n1_ n2_; (try clear hb); (try clear hb2); (try clear hk); (try clear hi); (try clear hge))))
    go_ret
    exact ⟨by first | rfl | (simp [errW_none, errW_some] <;> rfl) | (simp [*, errW_none, errW_some] <;> rfl), by repeat (first | (with_reducible first | exact HI0.out | apply IsS71.alloc | apply IsS71.drewN | apply IsS71.drew | apply IsS71.set_1) | exact HI0.out), by repeat (first | (with_reducible first|exact HB.out|apply zE|apply zB|apply zC | refine zJ ?_ (IsS71.ge HI0.out)) | exact HB.out), by repeat (first | (with_reducible first | exact HK.out | apply KeepBut.set_ | apply zF | apply zG | apply zH) | exact HK.out)⟩

/-! ### flagstonedraw_Declared: function 33 -/
def flagstonedraw_Declared.f  : Option ((List (S65))) := some (([(⟨(⟨#[100, 101, 118, 105, 99, 101]⟩ : ByteArray), (⟨#[99, 111, 114, 101, 115]⟩ : ByteArray), 2⟩ : S65), (⟨(⟨#[100, 101, 118, 105, 99, 101]⟩ : ByteArray), (⟨#[111, 115]⟩ : ByteArray), 3⟩ : S65), (⟨(⟨#[117, 115, 101, 114]⟩ : ByteArray), (⟨#[97, 103, 101]⟩ : ByteArray), 2⟩ : S65), (⟨(⟨#[117, 115, 101, 114]⟩ : ByteArray), (⟨#[97, 112, 112]⟩ : ByteArray), 4⟩ : S65), (⟨(⟨#[117, 115, 101, 114]⟩ : ByteArray), (⟨#[98, 101, 116, 97]⟩ : ByteArray), 1⟩ : S65), (⟨(⟨#[117, 115, 101, 114]⟩ : ByteArray), (⟨#[99, 111, 117, 110, 116, 114, 121]⟩ : ByteArray), 3⟩ : S65), (⟨(⟨#[117, 115, 101, 114]⟩ : ByteArray), (⟨#[112, 108, 97, 110]⟩ : ByteArray), 3⟩ : S65), (⟨(⟨#[117, 115, 101, 114]⟩ : ByteArray), (⟨#[116, 97, 103, 115]⟩ : ByteArray), 5⟩ : S65)] : List (S65)))
set_option maxHeartbeats 8000000 in
set_option maxRecDepth 100000 in
theorem flagstonedraw_Declared.calls  (r : List (S65)) (w : World) (h : flagstonedraw_Declared.f  = some r) :
    Calls Tryd.prog 33 #[] w fun e w' => ∃ v0_ : Value, e = .returned (v0_) ∧ Kd.R k65 65 w' w.heap.size (fun _ => True) v0_ r ∧ Below w.heap.size w w' := by
  have hu65 := Tryd.underlying65
  have HB := Aside0.mk (Below.refl w.heap.size w)
  have H : (some (([(⟨(⟨#[100, 101, 118, 105, 99, 101]⟩ : ByteArray), (⟨#[99, 111, 114, 101, 115]⟩ : ByteArray), 2⟩ : S65), (⟨(⟨#[100, 101, 118, 105, 99, 101]⟩ : ByteArray), (⟨#[111, 115]⟩ : ByteArray), 3⟩ : S65), (⟨(⟨#[117, 115, 101, 114]⟩ : ByteArray), (⟨#[97, 103, 101]⟩ : ByteArray), 2⟩ : S65), (⟨(⟨#[117, 115, 101, 114]⟩ : ByteArray), (⟨#[97, 112, 112]⟩ : ByteArray), 4⟩ : S65), (⟨(⟨#[117, 115, 101, 114]⟩ : ByteArray), (⟨#[98, 101, 116, 97]⟩ : ByteArray), 1⟩ : S65), (⟨(⟨#[117, 115, 101, 114]⟩ : ByteArray), (⟨#[99, 111, 117, 110, 116, 114, 121]⟩ : ByteArray), 3⟩ : S65), (⟨(⟨#[117, 115, 101, 114]⟩ : ByteArray), (⟨#[112, 108, 97, 110]⟩ : ByteArray), 3⟩ : S65), (⟨(⟨#[117, 115, 101, 114]⟩ : ByteArray), (⟨#[116, 97, 103, 115]⟩ : ByteArray), 5⟩ : S65)] : List (S65)))) = some r := h
  clear h
  obtain ⟨y159, hy159⟩ : ∃ y_ : List (S65), y_ = (([(⟨(⟨#[100, 101, 118, 105, 99, 101]⟩ : ByteArray), (⟨#[99, 111, 114, 101, 115]⟩ : ByteArray), 2⟩ : S65), (⟨(⟨#[100, 101, 118, 105, 99, 101]⟩ : ByteArray), (⟨#[111, 115]⟩ : ByteArray), 3⟩ : S65), (⟨(⟨#[117, 115, 101, 114]⟩ : ByteArray), (⟨#[97, 103, 101]⟩ : ByteArray), 2⟩ : S65), (⟨(⟨#[117, 115, 101, 114]⟩ : ByteArray), (⟨#[97, 112, 112]⟩ : ByteArray), 4⟩ : S65), (⟨(⟨#[117, 115, 101, 114]⟩ : ByteArray), (⟨#[98, 101, 116, 97]⟩ : ByteArray), 1⟩ : S65), (⟨(⟨#[117, 115, 101, 114]⟩ : ByteArray), (⟨#[99, 111, 117, 110, 116, 114, 121]⟩ : ByteArray), 3⟩ : S65), (⟨(⟨#[117, 115, 101, 114]⟩ : ByteArray), (⟨#[112, 108, 97, 110]⟩ : ByteArray), 3⟩ : S65), (⟨(⟨#[117, 115, 101, 114]⟩ : ByteArray), (⟨#[116, 97, 103, 115]⟩ : ByteArray), 5⟩ : S65)] : List (S65))) := ⟨_, rfl⟩
  replace H : (some y159) = some r := by first | (rw [hy159]; with_reducible exact H) | (have H2_ := (Option.bind_some _ _).symm.trans H; rw [hy159]; with_reducible exact H2_) | (have H2_ := (Option.bind_some _ _).symm.trans H; with_reducible exact H2_) | with_reducible exact H | (rw [hy159]; exact H) | exact H
  have Ny159 := Aside0.mk hy159; clear hy159
  obtain rfl := Option.some.inj H
  go_enter Tryd.func33, Tryd.ntmps33
  go_wp2_with (first | ((with_reducible refine gate_dst (N := 9) rfl ?_); refine Kd.R_lit k65 _ 65 ?hg (N := 9) ?hd (xs := ([(⟨(⟨#[100, 101, 118, 105, 99, 101]⟩ : ByteArray), (⟨#[99, 111, 114, 101, 115]⟩ : ByteArray), 2⟩ : S65), (⟨(⟨#[100, 101, 118, 105, 99, 101]⟩ : ByteArray), (⟨#[111, 115]⟩ : ByteArray), 3⟩ : S65), (⟨(⟨#[117, 115, 101, 114]⟩ : ByteArray), (⟨#[97, 103, 101]⟩ : ByteArray), 2⟩ : S65), (⟨(⟨#[117, 115, 101, 114]⟩ : ByteArray), (⟨#[97, 112, 112]⟩ : ByteArray), 4⟩ : S65), (⟨(⟨#[117, 115, 101, 114]⟩ : ByteArray), (⟨#[98, 101, 116, 97]⟩ : ByteArray), 1⟩ : S65), (⟨(⟨#[117, 115, 101, 114]⟩ : ByteArray), (⟨#[99, 111, 117, 110, 116, 114, 121]⟩ : ByteArray), 3⟩ : S65), (⟨(⟨#[117, 115, 101, 114]⟩ : ByteArray), (⟨#[112, 108, 97, 110]⟩ : ByteArray), 3⟩ : S65), (⟨(⟨#[117, 115, 101, 114]⟩ : ByteArray), (⟨#[116, 97, 103, 115]⟩ : ByteArray), 5⟩ : S65)] : List (S65))) (inner := [.string (⟨#[100, 101, 118, 105, 99, 101]⟩ : ByteArray), .string (⟨#[99, 111, 114, 101, 115]⟩ : ByteArray), .int .i64 2, .string (⟨#[100, 101, 118, 105, 99, 101]⟩ : ByteArray), .string (⟨#[111, 115]⟩ : ByteArray), .int .i64 3, .string (⟨#[117, 115, 101, 114]⟩ : ByteArray), .string (⟨#[97, 103, 101]⟩ : ByteArray), .int .i64 2, .string (⟨#[117, 115, 101, 114]⟩ : ByteArray), .string (⟨#[97, 112, 112]⟩ : ByteArray), .int .i64 4, .string (⟨#[117, 115, 101, 114]⟩ : ByteArray), .string (⟨#[98, 101, 116, 97]⟩ : ByteArray), .int .i64 1, .string (⟨#[117, 115, 101, 114]⟩ : ByteArray), .string (⟨#[99, 111, 117, 110, 116, 114, 121]⟩ : ByteArray), .int .i64 3, .string (⟨#[117, 115, 101, 114]⟩ : ByteArray), .string (⟨#[112, 108, 97, 110]⟩ : ByteArray), .int .i64 3, .string (⟨#[117, 115, 101, 114]⟩ : ByteArray), .string (⟨#[116, 97, 103, 115]⟩ : ByteArray), .int .i64 5]) (ok := fun _ => True) (okp := fun _ => True) ?hr ?hp (fun _ hk => hk) trivial (Below.refl _ _) (Nat.le_refl _) (by simp) ?_; (case hd => rfl); (case hg => rfl); (case hr => first | (go_simp; done) | (go_simp; rfl)); (case hp => exact (Reps.c3 (show Kd.M k65 _ _ _ (⟨(⟨#[100, 101, 118, 105, 99, 101]⟩ : ByteArray), (⟨#[99, 111, 114, 101, 115]⟩ : ByteArray), 2⟩ : S65) [.string (⟨#[100, 101, 118, 105, 99, 101]⟩ : ByteArray), .string (⟨#[99, 111, 114, 101, 115]⟩ : ByteArray), .int .i64 2] from (k65_mkM _ _ _ (⟨(⟨#[100, 101, 118, 105, 99, 101]⟩ : ByteArray), (⟨#[99, 111, 114, 101, 115]⟩ : ByteArray), 2⟩ : S65) )) (Reps.c3 (show Kd.M k65 _ _ _ (⟨(⟨#[100, 101, 118, 105, 99, 101]⟩ : ByteArray), (⟨#[111, 115]⟩ : ByteArray), 3⟩ : S65) [.string (⟨#[100, 101, 118, 105, 99, 101]⟩ : ByteArray), .string (⟨#[111, 115]⟩ : ByteArray), .int .i64 3] from (k65_mkM _ _ _ (⟨(⟨#[100, 101, 118, 105, 99, 101]⟩ : ByteArray), (⟨#[111, 115]⟩ : ByteArray), 3⟩ : S65) )) (Reps.c3 (show Kd.M k65 _ _ _ (⟨(⟨#[117, 115, 101, 114]⟩ : ByteArray), (⟨#[97, 103, 101]⟩ : ByteArray), 2⟩ : S65) [.string (⟨#[117, 115, 101, 114]⟩ : ByteArray), .string (⟨#[97, 103, 101]⟩ : ByteArray), .int .i64 2] from (k65_mkM _ _ _ (⟨(⟨#[117, 115, 101, 114]⟩ : ByteArray), (⟨#[97, 103, 101]⟩ : ByteArray), 2⟩ : S65) )) (Reps.c3 (show Kd.M k65 _ _ _ (⟨(⟨#[117, 115, 101, 114]⟩ : ByteArray), (⟨#[97, 112, 112]⟩ : ByteArray), 4⟩ : S65) [.string (⟨#[117, 115, 101, 114]⟩ : ByteArray), .string (⟨#[97, 112, 112]⟩ : ByteArray), .int .i64 4] from (k65_mkM _ _ _ (⟨(⟨#[117, 115, 101, 114]⟩ : ByteArray), (⟨#[97, 112, 112]⟩ : ByteArray), 4⟩ : S65) )) (Reps.c3 (show Kd.M k65 _ _ _ (⟨(⟨#[117, 115, 101, 114]⟩ : ByteArray), (⟨#[98, 101, 116, 97]⟩ : ByteArray), 1⟩ : S65) [.string (⟨#[117, 115, 101, 114]⟩ : ByteArray), .string (⟨#[98, 101, 116, 97]⟩ : ByteArray), .int .i64 1] from (k65_mkM _ _ _ (⟨(⟨#[117, 115, 101, 114]⟩ : ByteArray), (⟨#[98, 101, 116, 97]⟩ : ByteArray), 1⟩ : S65) )) (Reps.c3 (show Kd.M k65 _ _ _ (⟨(⟨#[117, 115, 101, 114]⟩ : ByteArray), (⟨#[99, 111, 117, 110, 116, 114, 121]⟩ : ByteArray), 3⟩ : S65) [.string (⟨#[117, 115, 101, 114]⟩ : ByteArray), .string (⟨#[99, 111, 117, 110, 116, 114, 121]⟩ : ByteArray), .int .i64 3] from (k65_mkM _ _ _ (⟨(⟨#[117, 115, 101, 114]⟩ : ByteArray), (⟨#[99, 111, 117, 110, 116, 114, 121]⟩ : ByteArray), 3⟩ : S65) )) (Reps.c3 (show Kd.M k65 _ _ _ (⟨(⟨#[117, 115, 101, 114]⟩ : ByteArray), (⟨#[112, 108, 97, 110]⟩ : ByteArray), 3⟩ : S65) [.string (⟨#[117, 115, 101, 114]⟩ : ByteArray), .string (⟨#[112, 108, 97, 110]⟩ : ByteArray), .int .i64 3] from (k65_mkM _ _ _ (⟨(⟨#[117, 115, 101, 114]⟩ : ByteArray), (⟨#[112, 108, 97, 110]⟩ : ByteArray), 3⟩ : S65) )) (Reps.c3 (show Kd.M k65 _ _ _ (⟨(⟨#[117, 115, 101, 114]⟩ : ByteArray), (⟨#[116, 97, 103, 115]⟩ : ByteArray), 5⟩ : S65) [.string (⟨#[117, 115, 101, 114]⟩ : ByteArray), .string (⟨#[116, 97, 103, 115]⟩ : ByteArray), .int .i64 5] from (k65_mkM _ _ _ (⟨(⟨#[117, 115, 101, 114]⟩ : ByteArray), (⟨#[116, 97, 103, 115]⟩ : ByteArray), 5⟩ : S65) )) (Reps.none _ _)))))))))); intro v160 w1 ho2 hb hg_ hnew_; clear hg_ hnew_; (first | rw [← Ny159.out] at ho2 | (simp only [Int.reduceToNat] at ho2; rw [← Ny159.out] at ho2)); have n0_ := Aside0.mk (Kd.R_lower ho2 (below_size (by repeat (first | (with_reducible first|exact HB.out|apply zE|apply zB|apply zC) | exact HB.out)))); have n1_ := Aside0.mk (below_step (by repeat (first | (with_reducible first|exact HB.out|apply zE|apply zB|apply zC) | exact HB.out)) hb); clear HB; have HO161 := n0_; have HB := n1_; clear n0_ n1_ hb ho2))
  go_ret
  exact ⟨_, by first | rfl | (simp [errW_none, errW_some] <;> rfl) | (simp [*, errW_none, errW_some] <;> rfl), by (with_reducible repeat (first | apply Kd.R_alloc | apply Kd.R_drewN | apply Kd.R_drew)); exact HO161.out, by repeat (first | (with_reducible first|exact HB.out|apply zE|apply zB|apply zC) | exact HB.out)⟩

/-! ### flagstonedraw_Codes_Text: function 55 -/
def flagstonedraw_Codes_Text.f (s0_0 : List Int) (s0_1 : Int) : Option (ByteArray × Int) := (flagstonedraw_Codes_Next.f s0_0 s0_1 11).bind fun bt162 => (if 0 ≤ bt162.1 then (if bt162.1 < 11 then (some (rdOf ByteArray.empty textsL bt162.1, bt162.2)) else (none)) else (none))
set_option maxHeartbeats 8000000 in
set_option maxRecDepth 100000 in
theorem flagstonedraw_Codes_Text.calls (g : Nat) (s0_0 : List Int) (s0_1 : Int) (r1 : ByteArray) (r2 : Int) (w0 w : World) (hI : IsS71 w0 w g s0_0 s0_1) (hB : Below w0.heap.size w0 w) (hGL : GL w0) (h : flagstonedraw_Codes_Text.f s0_0 s0_1 = some (r1, r2)) :
    Calls Tryd.prog 55 #[.pointer (some ⟨g, 0, none⟩)] w fun e w' => e = .returned (.string r1) ∧ IsS71 w0 w' g s0_0 r2 ∧ Below w0.heap.size w0 w' ∧ KeepBut w w' g none := by
  have HRG3 := Aside0.mk (GL.C3 (GL.below hGL hB))
  have hfG3 := GL.N3 hGL (IsS71.ge hI)
  have HGL := Aside0.mk hGL; clear hGL; have HI0 := Aside0.mk hI
  have HK := Aside0.mk (KeepBut.refl w g none)
  have HL := Aside0.mk hB.size; clear hI; have HW0 := Aside0.mk hB.size; have HB := Aside0.mk hB; clear hB
  have H : ((flagstonedraw_Codes_Next.f s0_0 s0_1 11).bind fun bt162 => (if 0 ≤ bt162.1 then (if bt162.1 < 11 then (some (rdOf ByteArray.empty textsL bt162.1, bt162.2)) else (none)) else (none))) = some (r1, r2) := h
  clear h; replace H := Option.bind_eq_some_iff.mp H
  obtain ⟨⟨t162, t163⟩, A20, H⟩ := H
  replace H : (if 0 ≤ t162 then (if t162 < 11 then (some (rdOf ByteArray.empty textsL t162, t163)) else (none)) else (none)) = some (r1, r2) := H
  have A2 := Aside0.mk A20; clear A20
  by_cases c3 : 0 ≤ t162
  · rw [if_pos c3] at H
    have c3b0 : decide (0 ≤ t162) = true := decide_eq_true c3
    clear c3
    by_cases c4 : t162 < 11
    · rw [if_pos c4] at H
      have c4b0 : decide (t162 < 11) = true := decide_eq_true c4
      clear c4
      simp only [Option.some.injEq, Prod.mk.injEq] at H
      obtain ⟨rfl, rfl⟩ := H
      go_enter Tryd.func55, Tryd.ntmps55
      go_wp2_with (first | ((with_reducible refine gate_callee (f := 12) rfl ?_); refine goesL_ (some 4) rfl rfl Tryd.func12 (by kernel_rfl) rfl #[.pointer (some ⟨g, 0, none⟩), .int .i64 11] rfl (by (try simp only [List.map_toArray, List.map_cons, List.map_nil]); first | done | rfl | (simp only [List.length_drop, List.length_take]; rfl)) ?_; (with_reducible refine (flagstonedraw_Codes_Next.calls g s0_0 s0_1 11 t162 t163 w0 _ ?side1 ?side2 A2.out).mono ?_); (case side1 => repeat (first | (with_reducible first | exact HI0.out | apply IsS71.alloc | apply IsS71.drewN | apply IsS71.drew | apply IsS71.set_1) | exact HI0.out)); (case side2 => repeat (first | (with_reducible first|exact HB.out|apply zE|apply zB|apply zC | refine zJ ?_ (IsS71.ge HI0.out)) | exact HB.out)); rintro e w5 ⟨rfl, hi, hb, hk⟩; refine ⟨_, rfl, ?_⟩; have n0_ := Aside0.mk (KeepBut.trans (by repeat (first | (with_reducible first | exact HK.out | apply KeepBut.set_ | apply zF | apply zG | apply zH) | exact HK.out)) hk (.inl rfl)); have n1_ := Aside0.mk (hb); have n2_ := Aside0.mk (hi); clear HK HB HI0; have HK := n0_; have HB := n1_; have HI0 := n2_; clear n0_ n1_ n2_; (try clear hb); (try clear hb2); (try clear hk); (try clear hi); (try clear hge); have p164 : 0 ≤ (t162 : Int) := of_decide_eq_true (by first | (with_reducible assumption) | assumption); have q164 : t162 < (textsL.length : Int) := (by have h_ : (t162 : Int) < (11 : Int) := of_decide_eq_true (by first | (with_reducible assumption) | assumption); have e_ : textsL.length = 11 := rfl; omega); have ql164 : ((t162 : Int) < (11 : Int)) = True := eq_true (of_decide_eq_true (by first | (with_reducible assumption) | assumption)); obtain ⟨ad164, e164, hx164_0⟩ := Kd.at_string HRG3.out t162 p164 q164; obtain rfl : (⟨3, 0, none⟩ : Addr) = ad164 := (by injection e164); (first | simp only [add_plain] at hx164_0 | simp only [add_at] at hx164_0 | simp only [Addr.add, Nat.zero_add] at hx164_0 | skip); replace hx164_0 := keep_cell HK.out hx164_0 (by first | (rw [add_block]; exact hfG3 _ rfl (by omega)) | exact hfG3 _ rfl (by omega) | exact hfG3 ⟨3, 0, none⟩ rfl (by omega)); replace p164 := eq_true p164; replace q164 := eq_true q164))
      go_ret
      exact ⟨by first | rfl | (simp [errW_none, errW_some] <;> rfl) | (simp [*, errW_none, errW_some] <;> rfl), by repeat (first | (with_reducible first | exact HI0.out | apply IsS71.alloc | apply IsS71.drewN | apply IsS71.drew | apply IsS71.set_1) | exact HI0.out), by repeat (first | (with_reducible first|exact HB.out|apply zE|apply zB|apply zC | refine zJ ?_ (IsS71.ge HI0.out)) | exact HB.out), by repeat (first | (with_reducible first | exact HK.out | apply KeepBut.set_ | apply zF | apply zG | apply zH) | exact HK.out)⟩
    · rw [if_neg c4] at H
      exact absurd H (by simp)
  · rw [if_neg c3] at H
    exact absurd H (by simp)

/-! ### flagstonedraw_Codes_Value: function 45 -/
def flagstonedraw_Codes_Value.f (s0_0 : List Int) (s0_1 : Int) (a1 : Int) : Option (Int × Int × ByteArray × List ByteArray × Int) := if a1 = 1 then ((flagstonedraw_Codes_Next.f s0_0 s0_1 2).bind fun bt166 => (some (a1, bt166.1, (⟨#[]⟩ : ByteArray), ([] : List ByteArray), bt166.2))) else (if a1 = 2 then ((some (([0, 1, 17, 18, 19, (-5), 64, 1099511627776, (-1099511627776)] : List Int) : List Int)).bind fun y168 => ((flagstonedraw_Codes_Next.f s0_0 s0_1 (y168.length : Int)).bind fun bt171 => (if 0 ≤ bt171.1 then (if bt171.1 < (y168.length : Int) then (some (a1, rd y168 bt171.1, (⟨#[]⟩ : ByteArray), ([] : List ByteArray), bt171.2)) else (none)) else (none)))) else (if a1 = 3 then ((flagstonedraw_Codes_Text.f s0_0 s0_1).bind fun bt174 => (some (a1, 0, bt174.1, ([] : List ByteArray), bt174.2))) else (if a1 = 4 then ((flagstonedraw_Codes_Next.f s0_0 s0_1 6).bind fun bt176 => (if 0 ≤ bt176.1 then (if bt176.1 < 6 then (some (a1, 0, rdOf ByteArray.empty versionsL bt176.1, ([] : List ByteArray), bt176.2)) else (none)) else (none))) else ((flagstonedraw_Codes_Next.f s0_0 s0_1 5).bind fun bt179 => (if 0 ≤ bt179.1 then (if bt179.1 < 5 then (if ([] : List ByteArray).length + (rd_L11 listsL bt179.1).length < 8796093022208 then (some (5, 0, (⟨#[]⟩ : ByteArray), (([] : List ByteArray) ++ (rd_L11 listsL bt179.1)), bt179.2)) else (none)) else (none)) else (none))))))
set_option maxHeartbeats 8000000 in
set_option maxRecDepth 100000 in
theorem flagstonedraw_Codes_Value.calls (g : Nat) (s0_0 : List Int) (s0_1 : Int) (a1 : Int) (r1 : Int) (r2 : Int) (r3 : ByteArray) (r4 : List ByteArray) (r5 : Int) (w0 w : World) (hI : IsS71 w0 w g s0_0 s0_1) (hB : Below w0.heap.size w0 w) (hGL : GL w0) (h : flagstonedraw_Codes_Value.f s0_0 s0_1 a1 = some (r1, r2, r3, r4, r5)) :
    Calls Tryd.prog 45 #[.pointer (some ⟨g, 0, none⟩), .int .i64 a1] w fun e w' => ∃ v3_ : Value, e = .returned (.agg #[.int .i64 r1, .int .i64 r2, .string r3, v3_]) ∧ Kd.R Kd.string 9 w' w.heap.size (fun _ => True) v3_ r4 ∧ IsS71 w0 w' g s0_0 r5 ∧ Below w0.heap.size w0 w' ∧ KeepBut w w' g none := by
  have hu49 := Tryd.underlying49
  have HRG1 := Aside0.mk (GL.C1 (GL.below hGL hB))
  have hfG1 := GL.N1 hGL (IsS71.ge hI)
  have HRG2 := Aside0.mk (GL.F2 hGL hB (IsS71.ge hI))
  have HGL := Aside0.mk hGL; clear hGL; have HI0 := Aside0.mk hI
  have HK := Aside0.mk (KeepBut.refl w g none)
  have HL := Aside0.mk hB.size; clear hI; have HW0 := Aside0.mk hB.size; have HB := Aside0.mk hB; clear hB
  have H : (if a1 = 1 then ((flagstonedraw_Codes_Next.f s0_0 s0_1 2).bind fun bt166 => (some (a1, bt166.1, (⟨#[]⟩ : ByteArray), ([] : List ByteArray), bt166.2))) else (if a1 = 2 then ((some (([0, 1, 17, 18, 19, (-5), 64, 1099511627776, (-1099511627776)] : List Int) : List Int)).bind fun y168 => ((flagstonedraw_Codes_Next.f s0_0 s0_1 (y168.length : Int)).bind fun bt171 => (if 0 ≤ bt171.1 then (if bt171.1 < (y168.length : Int) then (some (a1, rd y168 bt171.1, (⟨#[]⟩ : ByteArray), ([] : List ByteArray), bt171.2)) else (none)) else (none)))) else (if a1 = 3 then ((flagstonedraw_Codes_Text.f s0_0 s0_1).bind fun bt174 => (some (a1, 0, bt174.1, ([] : List ByteArray), bt174.2))) else (if a1 = 4 then ((flagstonedraw_Codes_Next.f s0_0 s0_1 6).bind fun bt176 => (if 0 ≤ bt176.1 then (if bt176.1 < 6 then (some (a1, 0, rdOf ByteArray.empty versionsL bt176.1, ([] : List ByteArray), bt176.2)) else (none)) else (none))) else ((flagstonedraw_Codes_Next.f s0_0 s0_1 5).bind fun bt179 => (if 0 ≤ bt179.1 then (if bt179.1 < 5 then (if ([] : List ByteArray).length + (rd_L11 listsL bt179.1).length < 8796093022208 then (some (5, 0, (⟨#[]⟩ : ByteArray), (([] : List ByteArray) ++ (rd_L11 listsL bt179.1)), bt179.2)) else (none)) else (none)) else (none))))))) = some (r1, r2, r3, r4, r5) := h
  clear h
  by_cases c3 : a1 = 1
  · rw [if_pos c3] at H
    have c3b0 : (a1 == 1) = true := beq_iff_eq.mpr c3
    have c3b1 : (a1 != 1) = false := bne_eq_false_iff_eq.mpr c3
    clear c3; replace H := Option.bind_eq_some_iff.mp H
    obtain ⟨⟨t166, t167⟩, A40, H⟩ := H
    replace H : (some (a1, t166, (⟨#[]⟩ : ByteArray), ([] : List ByteArray), t167)) = some (r1, r2, r3, r4, r5) := H
    have A4 := Aside0.mk A40; clear A40
    simp only [Option.some.injEq, Prod.mk.injEq] at H
    obtain ⟨rfl, rfl, rfl, rfl, rfl⟩ := H
    go_enter Tryd.func45, Tryd.ntmps45
    go_wp2_with (first | ((with_reducible refine gate_dst (N := 4) rfl ?_); refine box_event ?hg (N := 4) ?hd (cs := #[.int .i64 0, .int .i64 0, .string (⟨#[]⟩ : ByteArray), .slice none 0 0]) (t := 49) ?hr ?_; (case hd => rfl); (case hg => rfl); (case hr => first | (go_simp; done) | (go_simp; rfl)); intro gb165 hg w5 hbox hb; have n0_ := Aside0.mk (IsS71.below (by repeat (first | (with_reducible first | exact HI0.out | apply IsS71.alloc | apply IsS71.drewN | apply IsS71.drew | apply IsS71.set_1) | exact HI0.out)) hb); have n1_ := Aside0.mk (KeepBut.trans (by repeat (first | (with_reducible first | exact HK.out | apply KeepBut.set_ | apply zF | apply zG | apply zH) | exact HK.out)) (KeepBut.of_below hb g none) (.inl rfl)); have n2_ := Aside0.mk (below_step (by repeat (first | (with_reducible first|exact HB.out|apply zE|apply zB|apply zC | refine zJ ?_ (IsS71.ge HI0.out)) | exact HB.out)) hb); have n3_ := Aside0.mk (hbox); have n4_ := Aside0.mk ((by rw [hg]; exact (keep_size (w := w) (g := g) (row := none) (by repeat (first | (with_reducible first | exact HK.out | apply KeepBut.set_ | apply zF | apply zG | apply zH) | exact HK.out))) : w.heap.size ≤ gb165)); have n5_ := Aside0.mk ((Nat.le_trans HW0.out (by rw [hg]; exact (keep_size (w := w) (g := g) (row := none) (by repeat (first | (with_reducible first | exact HK.out | apply KeepBut.set_ | apply zF | apply zG | apply zH) | exact HK.out))) : w.heap.size ≤ gb165) : w0.heap.size ≤ gb165)); have n6_ := Aside0.mk ((by rw [hg]; exact Nat.ne_of_lt (IsS71.lt (show IsS71 w0 _ g s0_0 s0_1 from by repeat (first | (with_reducible first | exact HI0.out | apply IsS71.alloc | apply IsS71.drewN | apply IsS71.drew | apply IsS71.set_1) | exact HI0.out))) : g ≠ gb165)); have n7_ := Aside0.mk ((by rw [hg]; exact Nat.ne_of_gt (IsS71.lt (show IsS71 w0 _ g s0_0 s0_1 from by repeat (first | (with_reducible first | exact HI0.out | apply IsS71.alloc | apply IsS71.drewN | apply IsS71.drew | apply IsS71.set_1) | exact HI0.out))) : gb165 ≠ g)); clear HI0 HK HB; have HI0 := n0_; have HK := n1_; have HB := n2_; have BK165 := n3_; have GW165 := n4_; have GE165 := n5_; have NB0_165 := n6_; have NB165_0 := n7_; clear n0_ n1_ n2_ n3_ n4_ n5_ n6_ n7_ hb hbox hg) | ((with_reducible refine gate_callee (f := 12) rfl ?_); refine goesL_ (some 11) rfl rfl Tryd.func12 (by kernel_rfl) rfl #[.pointer (some ⟨g, 0, none⟩), .int .i64 2] rfl (by (try simp only [List.map_toArray, List.map_cons, List.map_nil]); first | done | rfl | (simp only [List.length_drop, List.length_take]; rfl)) ?_; (with_reducible refine (flagstonedraw_Codes_Next.calls g s0_0 s0_1 2 t166 t167 w0 _ ?side1 ?side2 A4.out).mono ?_); (case side1 => repeat (first | (with_reducible first | exact HI0.out | apply IsS71.alloc | apply IsS71.drewN | apply IsS71.drew | apply IsS71.set_1 | refine IsS71.far ?_ NB0_165.out _) | exact HI0.out)); (case side2 => repeat (first | (with_reducible first|exact HB.out|apply zE|apply zB|apply zC | refine zJ ?_ (IsS71.ge HI0.out) | refine zJ ?_ GE165.out) | exact HB.out)); rintro e w6 ⟨rfl, hi, hb, hk⟩; refine ⟨_, rfl, ?_⟩; have n0_ := Aside0.mk (KeepBut.blk hk (g' := gb165) (o := .cells #[.int .i64 0, .int .i64 0, .string (⟨#[]⟩ : ByteArray), .slice none 0 0] 49 (0, 0)) (by (with_reducible repeat (first|refine zN ?_ _|refine zD ?_|refine zA ?_ _)); exact BK165.out) NB165_0.out (by simp)); have n1_ := Aside0.mk (KeepBut.trans (by repeat (first | (with_reducible first | exact HK.out | apply KeepBut.set_ | apply zF | apply zG | apply zH | refine zI ?_ GW165.out _) | exact HK.out)) hk (.inl rfl)); have n2_ := Aside0.mk (hb); have n3_ := Aside0.mk (hi); clear BK165 HK HB HI0; have BK165 := n0_; have HK := n1_; have HB := n2_; have HI0 := n3_; clear n0_ n1_ n2_ n3_; (try clear hb); (try clear hb2); (try clear hk); (try clear hi); (try clear hge); have hnb7 := NB165_0.out; have hnc7 := NB0_165.out; have hcz8_0 : w6.cell? ⟨gb165, 0, none⟩ = some (.int .i64 0) := (blk_cell BK165.out 0).trans rfl; have hcz8_1 : w6.cell? ⟨gb165, 1, none⟩ = some (.int .i64 0) := (blk_cell BK165.out 1).trans rfl; have hcz8_2 : w6.cell? ⟨gb165, 2, none⟩ = some (.string (⟨#[]⟩ : ByteArray)) := (blk_cell BK165.out 2).trans rfl; have hcz8_3 : w6.cell? ⟨gb165, 3, none⟩ = some (.slice none 0 0) := (blk_cell BK165.out 3).trans rfl; have hfz8_0 := blk_frozen BK165.out 0; have hfz8_1 := blk_frozen BK165.out 1; have hfz8_2 := blk_frozen BK165.out 2; have hfz8_3 := blk_frozen BK165.out 3))
    refine bodyPost_ret (results_cell_row rfl _ _ gb165 49 #[.int .i64 a1, .int .i64 t166, .string (⟨#[]⟩ : ByteArray), .slice none 0 0] (0, 0) _ rfl (by (with_reducible repeat (first|refine zN ?_ _|refine zD ?_|refine zA ?_ _)); refine blk_put (cs := #[.int .i64 a1, .int .i64 t166, .string (⟨#[]⟩ : ByteArray), .slice none 0 0]) ?_ 3 _ rfl; (with_reducible repeat (first|refine zN ?_ _|refine zD ?_|refine zA ?_ _)); refine blk_put (cs := #[.int .i64 a1, .int .i64 t166, .string (⟨#[]⟩ : ByteArray), .slice none 0 0]) ?_ 2 _ rfl; (with_reducible repeat (first|refine zN ?_ _|refine zD ?_|refine zA ?_ _)); refine blk_put (cs := #[.int .i64 a1, .int .i64 0, .string (⟨#[]⟩ : ByteArray), .slice none 0 0]) ?_ 1 _ rfl; (with_reducible repeat (first|refine zN ?_ _|refine zD ?_|refine zA ?_ _)); refine blk_put (cs := #[.int .i64 0, .int .i64 0, .string (⟨#[]⟩ : ByteArray), .slice none 0 0]) ?_ 0 _ rfl; (with_reducible repeat (first|refine zN ?_ _|refine zD ?_|refine zA ?_ _)); exact BK165.out) Tryd.underlying49 rfl (by kernel_rfl)) rfl ?_
    exact ⟨_, by first | rfl | (simp [errW_none, errW_some] <;> rfl) | (simp [*, errW_none, errW_some] <;> rfl), by first | exact Kd.R_nil _ _ _ _ _ | exact Kd.N_nil _ _ _ _ _ | exact Kd.V_nil _ _ _ _ _ | exact Kd.Q_nil _ _ _ _ _ | exact Kd.S_nil _ _ _ _ _, by repeat (first | (with_reducible first | exact HI0.out | apply IsS71.alloc | apply IsS71.drewN | apply IsS71.drew | apply IsS71.set_1 | refine IsS71.far ?_ NB0_165.out _) | exact HI0.out), by repeat (first | (with_reducible first|exact HB.out|apply zE|apply zB|apply zC | refine zJ ?_ (IsS71.ge HI0.out) | refine zJ ?_ GE165.out) | exact HB.out), by repeat (first | (with_reducible first | exact HK.out | apply KeepBut.set_ | apply zF | apply zG | apply zH | refine zI ?_ GW165.out _) | exact HK.out)⟩
  · rw [if_neg c3] at H
    have c3b0 : (a1 == 1) = false := beq_eq_false_iff_ne.mpr c3
    have c3b1 : (a1 != 1) = true := bne_iff_ne.mpr c3
    by_cases c9 : a1 = 2
    · rw [if_pos c9] at H
      have c9b0 : (a1 == 2) = true := beq_iff_eq.mpr c9
      have c9b1 : (a1 != 2) = false := bne_eq_false_iff_eq.mpr c9
      clear c9
      obtain ⟨y168, hy168⟩ : ∃ y_ : List Int, y_ = (([0, 1, 17, 18, 19, (-5), 64, 1099511627776, (-1099511627776)] : List Int)) := ⟨_, rfl⟩
      replace H : ((flagstonedraw_Codes_Next.f s0_0 s0_1 (y168.length : Int)).bind fun bt171 => (if 0 ≤ bt171.1 then (if bt171.1 < (y168.length : Int) then (some (a1, rd y168 bt171.1, (⟨#[]⟩ : ByteArray), ([] : List ByteArray), bt171.2)) else (none)) else (none))) = some (r1, r2, r3, r4, r5) := by first | (rw [hy168]; with_reducible exact H) | (have H2_ := (Option.bind_some _ _).symm.trans H; rw [hy168]; with_reducible exact H2_) | (have H2_ := (Option.bind_some _ _).symm.trans H; with_reducible exact H2_) | with_reducible exact H | (rw [hy168]; exact H) | exact H
      have Ny168 := Aside0.mk hy168; clear hy168; replace H := Option.bind_eq_some_iff.mp H
      obtain ⟨⟨t171, t172⟩, A100, H⟩ := H
      replace H : (if 0 ≤ t171 then (if t171 < (y168.length : Int) then (some (a1, rd y168 t171, (⟨#[]⟩ : ByteArray), ([] : List ByteArray), t172)) else (none)) else (none)) = some (r1, r2, r3, r4, r5) := H
      have A10 := Aside0.mk A100; clear A100
      by_cases c11 : 0 ≤ t171
      · rw [if_pos c11] at H
        have c11b0 : decide (0 ≤ t171) = true := decide_eq_true c11
        clear c11
        by_cases c12 : t171 < (y168.length : Int)
        · rw [if_pos c12] at H
          have c12b0 : decide (t171 < (y168.length : Int)) = true := decide_eq_true c12
          clear c12
          simp only [Option.some.injEq, Prod.mk.injEq] at H
          obtain ⟨rfl, rfl, rfl, rfl, rfl⟩ := H
          go_enter Tryd.func45, Tryd.ntmps45
          go_wp2_with (first | ((with_reducible refine gate_dst (N := 4) rfl ?_); refine box_event ?hg (N := 4) ?hd (cs := #[.int .i64 0, .int .i64 0, .string (⟨#[]⟩ : ByteArray), .slice none 0 0]) (t := 49) ?hr ?_; (case hd => rfl); (case hg => rfl); (case hr => first | (go_simp; done) | (go_simp; rfl)); intro gb165 hg w13 hbox hb; have n0_ := Aside0.mk (IsS71.below (by repeat (first | (with_reducible first | exact HI0.out | apply IsS71.alloc | apply IsS71.drewN | apply IsS71.drew | apply IsS71.set_1) | exact HI0.out)) hb); have n1_ := Aside0.mk (KeepBut.trans (by repeat (first | (with_reducible first | exact HK.out | apply KeepBut.set_ | apply zF | apply zG | apply zH) | exact HK.out)) (KeepBut.of_below hb g none) (.inl rfl)); have n2_ := Aside0.mk (below_step (by repeat (first | (with_reducible first|exact HB.out|apply zE|apply zB|apply zC | refine zJ ?_ (IsS71.ge HI0.out)) | exact HB.out)) hb); have n3_ := Aside0.mk (hbox); have n4_ := Aside0.mk ((by rw [hg]; exact (keep_size (w := w) (g := g) (row := none) (by repeat (first | (with_reducible first | exact HK.out | apply KeepBut.set_ | apply zF | apply zG | apply zH) | exact HK.out))) : w.heap.size ≤ gb165)); have n5_ := Aside0.mk ((Nat.le_trans HW0.out (by rw [hg]; exact (keep_size (w := w) (g := g) (row := none) (by repeat (first | (with_reducible first | exact HK.out | apply KeepBut.set_ | apply zF | apply zG | apply zH) | exact HK.out))) : w.heap.size ≤ gb165) : w0.heap.size ≤ gb165)); have n6_ := Aside0.mk ((by rw [hg]; exact Nat.ne_of_lt (IsS71.lt (show IsS71 w0 _ g s0_0 s0_1 from by repeat (first | (with_reducible first | exact HI0.out | apply IsS71.alloc | apply IsS71.drewN | apply IsS71.drew | apply IsS71.set_1) | exact HI0.out))) : g ≠ gb165)); have n7_ := Aside0.mk ((by rw [hg]; exact Nat.ne_of_gt (IsS71.lt (show IsS71 w0 _ g s0_0 s0_1 from by repeat (first | (with_reducible first | exact HI0.out | apply IsS71.alloc | apply IsS71.drewN | apply IsS71.drew | apply IsS71.set_1) | exact HI0.out))) : gb165 ≠ g)); clear HI0 HK HB; have HI0 := n0_; have HK := n1_; have HB := n2_; have BK165 := n3_; have GW165 := n4_; have GE165 := n5_; have NB0_165 := n6_; have NB165_0 := n7_; clear n0_ n1_ n2_ n3_ n4_ n5_ n6_ n7_ hb hbox hg) | ((with_reducible refine gate_dst (N := 15) rfl ?_); refine Kd.R_lit (Kd.int .i64) _ 3 ?hg (N := 15) ?hd (xs := ([0, 1, 17, 18, 19, (-5), 64, 1099511627776, (-1099511627776)] : List Int)) (inner := [.int .i64 0, .int .i64 1, .int .i64 17, .int .i64 18, .int .i64 19, .int .i64 (-5), .int .i64 64, .int .i64 1099511627776, .int .i64 (-1099511627776)]) (ok := fun _ => True) (okp := fun _ => True) ?hr ?hp (fun _ hk => hk) trivial (Below.refl _ _) (Nat.le_refl _) (by simp) ?_; (case hd => rfl); (case hg => rfl); (case hr => first | (go_simp; done) | (go_simp; rfl)); (case hp => exact (Reps.one (show Kd.M (Kd.int .i64) _ _ _ 0 [.int .i64 0] from rfl) (Reps.one (show Kd.M (Kd.int .i64) _ _ _ 1 [.int .i64 1] from rfl) (Reps.one (show Kd.M (Kd.int .i64) _ _ _ 17 [.int .i64 17] from rfl) (Reps.one (show Kd.M (Kd.int .i64) _ _ _ 18 [.int .i64 18] from rfl) (Reps.one (show Kd.M (Kd.int .i64) _ _ _ 19 [.int .i64 19] from rfl) (Reps.one (show Kd.M (Kd.int .i64) _ _ _ (-5) [.int .i64 (-5)] from rfl) (Reps.one (show Kd.M (Kd.int .i64) _ _ _ 64 [.int .i64 64] from rfl) (Reps.one (show Kd.M (Kd.int .i64) _ _ _ 1099511627776 [.int .i64 1099511627776] from rfl) (Reps.one (show Kd.M (Kd.int .i64) _ _ _ (-1099511627776) [.int .i64 (-1099511627776)] from rfl) (Reps.none _ _))))))))))); intro v169 w14 ho15 hb hg_ hnew_; clear hg_ hnew_; (first | rw [← Ny168.out] at ho15 | (simp only [Int.reduceToNat] at ho15; rw [← Ny168.out] at ho15)); have n0_ := Aside0.mk (Kd.R_lower ho15 (keep_size (w := w) (g := g) (row := none) (by repeat (first | (with_reducible first | exact HK.out | apply KeepBut.set_ | apply zF | apply zG | apply zH | refine zI ?_ GW165.out _) | exact HK.out)))); have n1_ := Aside0.mk (IsS71.below (by repeat (first | (with_reducible first | exact HI0.out | apply IsS71.alloc | apply IsS71.drewN | apply IsS71.drew | apply IsS71.set_1 | refine IsS71.far ?_ NB0_165.out _) | exact HI0.out)) hb); have n2_ := Aside0.mk (blk_below (g := gb165) (o := .cells #[.int .i64 0, .int .i64 0, .string (⟨#[]⟩ : ByteArray), .slice none 0 0] 49 (0, 0)) (by (with_reducible repeat (first|refine zN ?_ _|refine zD ?_|refine zA ?_ _)); exact BK165.out) hb); have n3_ := Aside0.mk (KeepBut.trans (by repeat (first | (with_reducible first | exact HK.out | apply KeepBut.set_ | apply zF | apply zG | apply zH | refine zI ?_ GW165.out _) | exact HK.out)) (KeepBut.of_below hb g none) (.inl rfl)); have n4_ := Aside0.mk (below_step (by repeat (first | (with_reducible first|exact HB.out|apply zE|apply zB|apply zC | refine zJ ?_ (IsS71.ge HI0.out) | refine zJ ?_ GE165.out) | exact HB.out)) hb); clear HI0 BK165 HK HB; have HO170 := n0_; have HI0 := n1_; have BK165 := n2_; have HK := n3_; have HB := n4_; clear n0_ n1_ n2_ n3_ n4_ hb ho15; obtain ⟨Ao16, co16, eo16⟩ := Kd.R_slice HO170.out; subst eo16) | ((with_reducible refine gate_callee (f := 12) rfl ?_); refine goesL_ (some 21) rfl rfl Tryd.func12 (by kernel_rfl) rfl #[.pointer (some ⟨g, 0, none⟩), .int .i64 (y168.length : Int)] rfl (by (try simp only [List.map_toArray, List.map_cons, List.map_nil]); first | done | rfl | (simp only [List.length_drop, List.length_take]; rfl)) ?_; (with_reducible refine (flagstonedraw_Codes_Next.calls g s0_0 s0_1 (y168.length : Int) t171 t172 w0 _ ?side1 ?side2 A10.out).mono ?_); (case side1 => repeat (first | (with_reducible first | exact HI0.out | apply IsS71.alloc | apply IsS71.drewN | apply IsS71.drew | apply IsS71.set_1 | refine IsS71.far ?_ NB0_165.out _) | exact HI0.out)); (case side2 => repeat (first | (with_reducible first|exact HB.out|apply zE|apply zB|apply zC | refine zJ ?_ (IsS71.ge HI0.out) | refine zJ ?_ GE165.out) | exact HB.out)); rintro e w17 ⟨rfl, hi, hb, hk⟩; refine ⟨_, rfl, ?_⟩; have n0_ := Aside0.mk (KeepBut.blk hk (g' := gb165) (o := .cells #[.int .i64 0, .int .i64 0, .string (⟨#[]⟩ : ByteArray), .slice none 0 0] 49 (0, 0)) (by (with_reducible repeat (first|refine zN ?_ _|refine zD ?_|refine zA ?_ _)); exact BK165.out) NB165_0.out (by simp)); have n1_ := Aside0.mk (Kd.R_mono (Kd.R_keep (IsS71.apart (show IsS71 w0 _ g s0_0 s0_1 from by repeat (first | (with_reducible first | exact HI0.out | apply IsS71.alloc | apply IsS71.drewN | apply IsS71.drew | apply IsS71.set_1 | refine IsS71.far ?_ NB0_165.out _) | exact HI0.out)) (by (with_reducible repeat (first | apply Kd.R_alloc | apply Kd.R_drewN | apply Kd.R_drew)); exact HO170.out) (by decide)) hk (fun _ h => h.2)) (fun _ h => h.1)); have n2_ := Aside0.mk (KeepBut.trans (by repeat (first | (with_reducible first | exact HK.out | apply KeepBut.set_ | apply zF | apply zG | apply zH | refine zI ?_ GW165.out _) | exact HK.out)) hk (.inl rfl)); have n3_ := Aside0.mk (hb); have n4_ := Aside0.mk (hi); clear BK165 HO170 HK HB HI0; have BK165 := n0_; have HO170 := n1_; have HK := n2_; have HB := n3_; have HI0 := n4_; clear n0_ n1_ n2_ n3_ n4_; (try clear hb); (try clear hb2); (try clear hk); (try clear hi); (try clear hge); have p173 : 0 ≤ (t171 : Int) := of_decide_eq_true (by first | (with_reducible assumption) | assumption); have q173 : t171 < (y168.length : Int) := of_decide_eq_true (by first | (with_reducible assumption) | assumption); obtain ⟨ad173, e173, hx173_0⟩ := Kd.at_int (Kd.R_reads' HO170.out).2.2 t171 p173 q173; cases e173; replace p173 := eq_true p173; replace q173 := eq_true q173; have hnb18 := NB165_0.out; have hnc18 := NB0_165.out; have hcz19_0 : w17.cell? ⟨gb165, 0, none⟩ = some (.int .i64 0) := (blk_cell BK165.out 0).trans rfl; have hcz19_1 : w17.cell? ⟨gb165, 1, none⟩ = some (.int .i64 0) := (blk_cell BK165.out 1).trans rfl; have hcz19_2 : w17.cell? ⟨gb165, 2, none⟩ = some (.string (⟨#[]⟩ : ByteArray)) := (blk_cell BK165.out 2).trans rfl; have hcz19_3 : w17.cell? ⟨gb165, 3, none⟩ = some (.slice none 0 0) := (blk_cell BK165.out 3).trans rfl; have hfz19_0 := blk_frozen BK165.out 0; have hfz19_1 := blk_frozen BK165.out 1; have hfz19_2 := blk_frozen BK165.out 2; have hfz19_3 := blk_frozen BK165.out 3))
          refine bodyPost_ret (results_cell_row rfl _ _ gb165 49 #[.int .i64 a1, .int .i64 (rd y168 t171), .string (⟨#[]⟩ : ByteArray), .slice none 0 0] (0, 0) _ rfl (by (with_reducible repeat (first|refine zN ?_ _|refine zD ?_|refine zA ?_ _)); refine blk_put (cs := #[.int .i64 a1, .int .i64 (rd y168 t171), .string (⟨#[]⟩ : ByteArray), .slice none 0 0]) ?_ 3 _ rfl; (with_reducible repeat (first|refine zN ?_ _|refine zD ?_|refine zA ?_ _)); refine blk_put (cs := #[.int .i64 a1, .int .i64 (rd y168 t171), .string (⟨#[]⟩ : ByteArray), .slice none 0 0]) ?_ 2 _ rfl; (with_reducible repeat (first|refine zN ?_ _|refine zD ?_|refine zA ?_ _)); refine blk_put (cs := #[.int .i64 a1, .int .i64 0, .string (⟨#[]⟩ : ByteArray), .slice none 0 0]) ?_ 1 _ rfl; (with_reducible repeat (first|refine zN ?_ _|refine zD ?_|refine zA ?_ _)); refine blk_put (cs := #[.int .i64 0, .int .i64 0, .string (⟨#[]⟩ : ByteArray), .slice none 0 0]) ?_ 0 _ rfl; (with_reducible repeat (first|refine zN ?_ _|refine zD ?_|refine zA ?_ _)); exact BK165.out) Tryd.underlying49 rfl (by kernel_rfl)) rfl ?_
          exact ⟨_, by first | rfl | (simp [errW_none, errW_some] <;> rfl) | (simp [*, errW_none, errW_some] <;> rfl), by first | exact Kd.R_nil _ _ _ _ _ | exact Kd.N_nil _ _ _ _ _ | exact Kd.V_nil _ _ _ _ _ | exact Kd.Q_nil _ _ _ _ _ | exact Kd.S_nil _ _ _ _ _, by repeat (first | (with_reducible first | exact HI0.out | apply IsS71.alloc | apply IsS71.drewN | apply IsS71.drew | apply IsS71.set_1 | refine IsS71.far ?_ NB0_165.out _) | exact HI0.out), by repeat (first | (with_reducible first|exact HB.out|apply zE|apply zB|apply zC | refine zJ ?_ (IsS71.ge HI0.out) | refine zJ ?_ GE165.out) | exact HB.out), by repeat (first | (with_reducible first | exact HK.out | apply KeepBut.set_ | apply zF | apply zG | apply zH | refine zI ?_ GW165.out _) | exact HK.out)⟩
        · rw [if_neg c12] at H
          exact absurd H (by simp)
      · rw [if_neg c11] at H
        exact absurd H (by simp)
    · rw [if_neg c9] at H
      have c9b0 : (a1 == 2) = false := beq_eq_false_iff_ne.mpr c9
      have c9b1 : (a1 != 2) = true := bne_iff_ne.mpr c9
      by_cases c20 : a1 = 3
      · rw [if_pos c20] at H
        have c20b0 : (a1 == 3) = true := beq_iff_eq.mpr c20
        have c20b1 : (a1 != 3) = false := bne_eq_false_iff_eq.mpr c20
        clear c20; replace H := Option.bind_eq_some_iff.mp H
        obtain ⟨⟨t174, t175⟩, A210, H⟩ := H
        replace H : (some (a1, 0, t174, ([] : List ByteArray), t175)) = some (r1, r2, r3, r4, r5) := H
        have A21 := Aside0.mk A210; clear A210
        simp only [Option.some.injEq, Prod.mk.injEq] at H
        obtain ⟨rfl, rfl, rfl, rfl, rfl⟩ := H
        go_enter Tryd.func45, Tryd.ntmps45
        go_wp2_with (first | ((with_reducible refine gate_dst (N := 4) rfl ?_); refine box_event ?hg (N := 4) ?hd (cs := #[.int .i64 0, .int .i64 0, .string (⟨#[]⟩ : ByteArray), .slice none 0 0]) (t := 49) ?hr ?_; (case hd => rfl); (case hg => rfl); (case hr => first | (go_simp; done) | (go_simp; rfl)); intro gb165 hg w22 hbox hb; have n0_ := Aside0.mk (IsS71.below (by repeat (first | (with_reducible first | exact HI0.out | apply IsS71.alloc | apply IsS71.drewN | apply IsS71.drew | apply IsS71.set_1) | exact HI0.out)) hb); have n1_ := Aside0.mk (KeepBut.trans (by repeat (first | (with_reducible first | exact HK.out | apply KeepBut.set_ | apply zF | apply zG | apply zH) | exact HK.out)) (KeepBut.of_below hb g none) (.inl rfl)); have n2_ := Aside0.mk (below_step (by repeat (first | (with_reducible first|exact HB.out|apply zE|apply zB|apply zC | refine zJ ?_ (IsS71.ge HI0.out)) | exact HB.out)) hb); have n3_ := Aside0.mk (hbox); have n4_ := Aside0.mk ((by rw [hg]; exact (keep_size (w := w) (g := g) (row := none) (by repeat (first | (with_reducible first | exact HK.out | apply KeepBut.set_ | apply zF | apply zG | apply zH) | exact HK.out))) : w.heap.size ≤ gb165)); have n5_ := Aside0.mk ((Nat.le_trans HW0.out (by rw [hg]; exact (keep_size (w := w) (g := g) (row := none) (by repeat (first | (with_reducible first | exact HK.out | apply KeepBut.set_ | apply zF | apply zG | apply zH) | exact HK.out))) : w.heap.size ≤ gb165) : w0.heap.size ≤ gb165)); have n6_ := Aside0.mk ((by rw [hg]; exact Nat.ne_of_lt (IsS71.lt (show IsS71 w0 _ g s0_0 s0_1 from by repeat (first | (with_reducible first | exact HI0.out | apply IsS71.alloc | apply IsS71.drewN | apply IsS71.drew | apply IsS71.set_1) | exact HI0.out))) : g ≠ gb165)); have n7_ := Aside0.mk ((by rw [hg]; exact Nat.ne_of_gt (IsS71.lt (show IsS71 w0 _ g s0_0 s0_1 from by repeat (first | (with_reducible first | exact HI0.out | apply IsS71.alloc | apply IsS71.drewN | apply IsS71.drew | apply IsS71.set_1) | exact HI0.out))) : gb165 ≠ g)); clear HI0 HK HB; have HI0 := n0_; have HK := n1_; have HB := n2_; have BK165 := n3_; have GW165 := n4_; have GE165 := n5_; have NB0_165 := n6_; have NB165_0 := n7_; clear n0_ n1_ n2_ n3_ n4_ n5_ n6_ n7_ hb hbox hg) | ((with_reducible refine gate_callee (f := 55) rfl ?_); refine goesL_ (some 29) rfl rfl Tryd.func55 (by kernel_rfl) rfl #[.pointer (some ⟨g, 0, none⟩)] rfl (by (try simp only [List.map_toArray, List.map_cons, List.map_nil]); first | done | rfl | (simp only [List.length_drop, List.length_take]; rfl)) ?_; (with_reducible refine (flagstonedraw_Codes_Text.calls g s0_0 s0_1 t174 t175 w0 _ ?side1 ?side2 ?side3 A21.out).mono ?_); (case side1 => repeat (first | (with_reducible first | exact HI0.out | apply IsS71.alloc | apply IsS71.drewN | apply IsS71.drew | apply IsS71.set_1 | refine IsS71.far ?_ NB0_165.out _) | exact HI0.out)); (case side2 => repeat (first | (with_reducible first|exact HB.out|apply zE|apply zB|apply zC | refine zJ ?_ (IsS71.ge HI0.out) | refine zJ ?_ GE165.out) | exact HB.out)); (case side3 => exact HGL.out); rintro e w23 ⟨rfl, hi, hb, hk⟩; refine ⟨_, rfl, ?_⟩; have n0_ := Aside0.mk (KeepBut.blk hk (g' := gb165) (o := .cells #[.int .i64 0, .int .i64 0, .string (⟨#[]⟩ : ByteArray), .slice none 0 0] 49 (0, 0)) (by (with_reducible repeat (first|refine zN ?_ _|refine zD ?_|refine zA ?_ _)); exact BK165.out) NB165_0.out (by simp)); have n1_ := Aside0.mk (KeepBut.trans (by repeat (first | (with_reducible first | exact HK.out | apply KeepBut.set_ | apply zF | apply zG | apply zH | refine zI ?_ GW165.out _) | exact HK.out)) hk (.inl rfl)); have n2_ := Aside0.mk (hb); have n3_ := Aside0.mk (hi); clear BK165 HK HB HI0; have BK165 := n0_; have HK := n1_; have HB := n2_; have HI0 := n3_; clear n0_ n1_ n2_ n3_; (try clear hb); (try clear hb2); (try clear hk); (try clear hi); (try clear hge); have hnb24 := NB165_0.out; have hnc24 := NB0_165.out; have hcz25_0 : w23.cell? ⟨gb165, 0, none⟩ = some (.int .i64 0) := (blk_cell BK165.out 0).trans rfl; have hcz25_1 : w23.cell? ⟨gb165, 1, none⟩ = some (.int .i64 0) := (blk_cell BK165.out 1).trans rfl; have hcz25_2 : w23.cell? ⟨gb165, 2, none⟩ = some (.string (⟨#[]⟩ : ByteArray)) := (blk_cell BK165.out 2).trans rfl; have hcz25_3 : w23.cell? ⟨gb165, 3, none⟩ = some (.slice none 0 0) := (blk_cell BK165.out 3).trans rfl; have hfz25_0 := blk_frozen BK165.out 0; have hfz25_1 := blk_frozen BK165.out 1; have hfz25_2 := blk_frozen BK165.out 2; have hfz25_3 := blk_frozen BK165.out 3))
        refine bodyPost_ret (results_cell_row rfl _ _ gb165 49 #[.int .i64 a1, .int .i64 0, .string t174, .slice none 0 0] (0, 0) _ rfl (by (with_reducible repeat (first|refine zN ?_ _|refine zD ?_|refine zA ?_ _)); refine blk_put (cs := #[.int .i64 a1, .int .i64 0, .string t174, .slice none 0 0]) ?_ 3 _ rfl; (with_reducible repeat (first|refine zN ?_ _|refine zD ?_|refine zA ?_ _)); refine blk_put (cs := #[.int .i64 a1, .int .i64 0, .string (⟨#[]⟩ : ByteArray), .slice none 0 0]) ?_ 2 _ rfl; (with_reducible repeat (first|refine zN ?_ _|refine zD ?_|refine zA ?_ _)); refine blk_put (cs := #[.int .i64 a1, .int .i64 0, .string (⟨#[]⟩ : ByteArray), .slice none 0 0]) ?_ 1 _ rfl; (with_reducible repeat (first|refine zN ?_ _|refine zD ?_|refine zA ?_ _)); refine blk_put (cs := #[.int .i64 0, .int .i64 0, .string (⟨#[]⟩ : ByteArray), .slice none 0 0]) ?_ 0 _ rfl; (with_reducible repeat (first|refine zN ?_ _|refine zD ?_|refine zA ?_ _)); exact BK165.out) Tryd.underlying49 rfl (by kernel_rfl)) rfl ?_
        exact ⟨_, by first | rfl | (simp [errW_none, errW_some] <;> rfl) | (simp [*, errW_none, errW_some] <;> rfl), by first | exact Kd.R_nil _ _ _ _ _ | exact Kd.N_nil _ _ _ _ _ | exact Kd.V_nil _ _ _ _ _ | exact Kd.Q_nil _ _ _ _ _ | exact Kd.S_nil _ _ _ _ _, by repeat (first | (with_reducible first | exact HI0.out | apply IsS71.alloc | apply IsS71.drewN | apply IsS71.drew | apply IsS71.set_1 | refine IsS71.far ?_ NB0_165.out _) | exact HI0.out), by repeat (first | (with_reducible first|exact HB.out|apply zE|apply zB|apply zC | refine zJ ?_ (IsS71.ge HI0.out) | refine zJ ?_ GE165.out) | exact HB.out), by repeat (first | (with_reducible first | exact HK.out | apply KeepBut.set_ | apply zF | apply zG | apply zH | refine zI ?_ GW165.out _) | exact HK.out)⟩
      · rw [if_neg c20] at H
        have c20b0 : (a1 == 3) = false := beq_eq_false_iff_ne.mpr c20
        have c20b1 : (a1 != 3) = true := bne_iff_ne.mpr c20
        by_cases c26 : a1 = 4
        · rw [if_pos c26] at H
          have c26b0 : (a1 == 4) = true := beq_iff_eq.mpr c26
          have c26b1 : (a1 != 4) = false := bne_eq_false_iff_eq.mpr c26
          clear c26; replace H := Option.bind_eq_some_iff.mp H
          obtain ⟨⟨t176, t177⟩, A270, H⟩ := H
          replace H : (if 0 ≤ t176 then (if t176 < 6 then (some (a1, 0, rdOf ByteArray.empty versionsL t176, ([] : List ByteArray), t177)) else (none)) else (none)) = some (r1, r2, r3, r4, r5) := H
          have A27 := Aside0.mk A270; clear A270
          by_cases c28 : 0 ≤ t176
          · rw [if_pos c28] at H
            have c28b0 : decide (0 ≤ t176) = true := decide_eq_true c28
            clear c28
            by_cases c29 : t176 < 6
            · rw [if_pos c29] at H
              have c29b0 : decide (t176 < 6) = true := decide_eq_true c29
              clear c29
              simp only [Option.some.injEq, Prod.mk.injEq] at H
              obtain ⟨rfl, rfl, rfl, rfl, rfl⟩ := H
              go_enter Tryd.func45, Tryd.ntmps45
              go_wp2_with (first | ((with_reducible refine gate_dst (N := 4) rfl ?_); refine box_event ?hg (N := 4) ?hd (cs := #[.int .i64 0, .int .i64 0, .string (⟨#[]⟩ : ByteArray), .slice none 0 0]) (t := 49) ?hr ?_; (case hd => rfl); (case hg => rfl); (case hr => first | (go_simp; done) | (go_simp; rfl)); intro gb165 hg w30 hbox hb; have n0_ := Aside0.mk (IsS71.below (by repeat (first | (with_reducible first | exact HI0.out | apply IsS71.alloc | apply IsS71.drewN | apply IsS71.drew | apply IsS71.set_1) | exact HI0.out)) hb); have n1_ := Aside0.mk (KeepBut.trans (by repeat (first | (with_reducible first | exact HK.out | apply KeepBut.set_ | apply zF | apply zG | apply zH) | exact HK.out)) (KeepBut.of_below hb g none) (.inl rfl)); have n2_ := Aside0.mk (below_step (by repeat (first | (with_reducible first|exact HB.out|apply zE|apply zB|apply zC | refine zJ ?_ (IsS71.ge HI0.out)) | exact HB.out)) hb); have n3_ := Aside0.mk (hbox); have n4_ := Aside0.mk ((by rw [hg]; exact (keep_size (w := w) (g := g) (row := none) (by repeat (first | (with_reducible first | exact HK.out | apply KeepBut.set_ | apply zF | apply zG | apply zH) | exact HK.out))) : w.heap.size ≤ gb165)); have n5_ := Aside0.mk ((Nat.le_trans HW0.out (by rw [hg]; exact (keep_size (w := w) (g := g) (row := none) (by repeat (first | (with_reducible first | exact HK.out | apply KeepBut.set_ | apply zF | apply zG | apply zH) | exact HK.out))) : w.heap.size ≤ gb165) : w0.heap.size ≤ gb165)); have n6_ := Aside0.mk ((by rw [hg]; exact Nat.ne_of_lt (IsS71.lt (show IsS71 w0 _ g s0_0 s0_1 from by repeat (first | (with_reducible first | exact HI0.out | apply IsS71.alloc | apply IsS71.drewN | apply IsS71.drew | apply IsS71.set_1) | exact HI0.out))) : g ≠ gb165)); have n7_ := Aside0.mk ((by rw [hg]; exact Nat.ne_of_gt (IsS71.lt (show IsS71 w0 _ g s0_0 s0_1 from by repeat (first | (with_reducible first | exact HI0.out | apply IsS71.alloc | apply IsS71.drewN | apply IsS71.drew | apply IsS71.set_1) | exact HI0.out))) : gb165 ≠ g)); clear HI0 HK HB; have HI0 := n0_; have HK := n1_; have HB := n2_; have BK165 := n3_; have GW165 := n4_; have GE165 := n5_; have NB0_165 := n6_; have NB165_0 := n7_; clear n0_ n1_ n2_ n3_ n4_ n5_ n6_ n7_ hb hbox hg) | ((with_reducible refine gate_callee (f := 12) rfl ?_); refine goesL_ (some 35) rfl rfl Tryd.func12 (by kernel_rfl) rfl #[.pointer (some ⟨g, 0, none⟩), .int .i64 6] rfl (by (try simp only [List.map_toArray, List.map_cons, List.map_nil]); first | done | rfl | (simp only [List.length_drop, List.length_take]; rfl)) ?_; (with_reducible refine (flagstonedraw_Codes_Next.calls g s0_0 s0_1 6 t176 t177 w0 _ ?side1 ?side2 A27.out).mono ?_); (case side1 => repeat (first | (with_reducible first | exact HI0.out | apply IsS71.alloc | apply IsS71.drewN | apply IsS71.drew | apply IsS71.set_1 | refine IsS71.far ?_ NB0_165.out _) | exact HI0.out)); (case side2 => repeat (first | (with_reducible first|exact HB.out|apply zE|apply zB|apply zC | refine zJ ?_ (IsS71.ge HI0.out) | refine zJ ?_ GE165.out) | exact HB.out)); rintro e w31 ⟨rfl, hi, hb, hk⟩; refine ⟨_, rfl, ?_⟩; have n0_ := Aside0.mk (KeepBut.blk hk (g' := gb165) (o := .cells #[.int .i64 0, .int .i64 0, .string (⟨#[]⟩ : ByteArray), .slice none 0 0] 49 (0, 0)) (by (with_reducible repeat (first|refine zN ?_ _|refine zD ?_|refine zA ?_ _)); exact BK165.out) NB165_0.out (by simp)); have n1_ := Aside0.mk (KeepBut.trans (by repeat (first | (with_reducible first | exact HK.out | apply KeepBut.set_ | apply zF | apply zG | apply zH | refine zI ?_ GW165.out _) | exact HK.out)) hk (.inl rfl)); have n2_ := Aside0.mk (hb); have n3_ := Aside0.mk (hi); clear BK165 HK HB HI0; have BK165 := n0_; have HK := n1_; have HB := n2_; have HI0 := n3_; clear n0_ n1_ n2_ n3_; (try clear hb); (try clear hb2); (try clear hk); (try clear hi); (try clear hge); have p178 : 0 ≤ (t176 : Int) := of_decide_eq_true (by first | (with_reducible assumption) | assumption); have q178 : t176 < (versionsL.length : Int) := (by have h_ : (t176 : Int) < (6 : Int) := of_decide_eq_true (by first | (with_reducible assumption) | assumption); have e_ : versionsL.length = 6 := rfl; omega); have ql178 : ((t176 : Int) < (6 : Int)) = True := eq_true (of_decide_eq_true (by first | (with_reducible assumption) | assumption)); obtain ⟨ad178, e178, hx178_0⟩ := Kd.at_string HRG1.out t176 p178 q178; obtain rfl : (⟨1, 0, none⟩ : Addr) = ad178 := (by injection e178); (first | simp only [add_plain] at hx178_0 | simp only [add_at] at hx178_0 | simp only [Addr.add, Nat.zero_add] at hx178_0 | skip); replace hx178_0 := keep_cell HK.out hx178_0 (by first | (rw [add_block]; exact hfG1 _ rfl (by omega)) | exact hfG1 _ rfl (by omega) | exact hfG1 ⟨1, 0, none⟩ rfl (by omega)); replace p178 := eq_true p178; replace q178 := eq_true q178; have hnb32 := NB165_0.out; have hnc32 := NB0_165.out; have hcz33_0 : w31.cell? ⟨gb165, 0, none⟩ = some (.int .i64 0) := (blk_cell BK165.out 0).trans rfl; have hcz33_1 : w31.cell? ⟨gb165, 1, none⟩ = some (.int .i64 0) := (blk_cell BK165.out 1).trans rfl; have hcz33_2 : w31.cell? ⟨gb165, 2, none⟩ = some (.string (⟨#[]⟩ : ByteArray)) := (blk_cell BK165.out 2).trans rfl; have hcz33_3 : w31.cell? ⟨gb165, 3, none⟩ = some (.slice none 0 0) := (blk_cell BK165.out 3).trans rfl; have hfz33_0 := blk_frozen BK165.out 0; have hfz33_1 := blk_frozen BK165.out 1; have hfz33_2 := blk_frozen BK165.out 2; have hfz33_3 := blk_frozen BK165.out 3))
              refine bodyPost_ret (results_cell_row rfl _ _ gb165 49 #[.int .i64 a1, .int .i64 0, .string (rdOf ByteArray.empty versionsL t176), .slice none 0 0] (0, 0) _ rfl (by (with_reducible repeat (first|refine zN ?_ _|refine zD ?_|refine zA ?_ _)); refine blk_put (cs := #[.int .i64 a1, .int .i64 0, .string (rdOf ByteArray.empty versionsL t176), .slice none 0 0]) ?_ 3 _ rfl; (with_reducible repeat (first|refine zN ?_ _|refine zD ?_|refine zA ?_ _)); refine blk_put (cs := #[.int .i64 a1, .int .i64 0, .string (⟨#[]⟩ : ByteArray), .slice none 0 0]) ?_ 2 _ rfl; (with_reducible repeat (first|refine zN ?_ _|refine zD ?_|refine zA ?_ _)); refine blk_put (cs := #[.int .i64 a1, .int .i64 0, .string (⟨#[]⟩ : ByteArray), .slice none 0 0]) ?_ 1 _ rfl; (with_reducible repeat (first|refine zN ?_ _|refine zD ?_|refine zA ?_ _)); refine blk_put (cs := #[.int .i64 0, .int .i64 0, .string (⟨#[]⟩ : ByteArray), .slice none 0 0]) ?_ 0 _ rfl; (with_reducible repeat (first|refine zN ?_ _|refine zD ?_|refine zA ?_ _)); exact BK165.out) Tryd.underlying49 rfl (by kernel_rfl)) rfl ?_
              exact ⟨_, by first | rfl | (simp [errW_none, errW_some] <;> rfl) | (simp [*, errW_none, errW_some] <;> rfl), by first | exact Kd.R_nil _ _ _ _ _ | exact Kd.N_nil _ _ _ _ _ | exact Kd.V_nil _ _ _ _ _ | exact Kd.Q_nil _ _ _ _ _ | exact Kd.S_nil _ _ _ _ _, by repeat (first | (with_reducible first | exact HI0.out | apply IsS71.alloc | apply IsS71.drewN | apply IsS71.drew | apply IsS71.set_1 | refine IsS71.far ?_ NB0_165.out _) | exact HI0.out), by repeat (first | (with_reducible first|exact HB.out|apply zE|apply zB|apply zC | refine zJ ?_ (IsS71.ge HI0.out) | refine zJ ?_ GE165.out) | exact HB.out), by repeat (first | (with_reducible first | exact HK.out | apply KeepBut.set_ | apply zF | apply zG | apply zH | refine zI ?_ GW165.out _) | exact HK.out)⟩
            · rw [if_neg c29] at H
              exact absurd H (by simp)
          · rw [if_neg c28] at H
            exact absurd H (by simp)
        · rw [if_neg c26] at H
          have c26b0 : (a1 == 4) = false := beq_eq_false_iff_ne.mpr c26
          have c26b1 : (a1 != 4) = true := bne_iff_ne.mpr c26
          replace H := Option.bind_eq_some_iff.mp H
          obtain ⟨⟨t179, t180⟩, A340, H⟩ := H
          replace H : (if 0 ≤ t179 then (if t179 < 5 then (if ([] : List ByteArray).length + (rd_L11 listsL t179).length < 8796093022208 then (some (5, 0, (⟨#[]⟩ : ByteArray), (([] : List ByteArray) ++ (rd_L11 listsL t179)), t180)) else (none)) else (none)) else (none)) = some (r1, r2, r3, r4, r5) := H
          have A34 := Aside0.mk A340; clear A340
          by_cases c35 : 0 ≤ t179
          · rw [if_pos c35] at H
            have c35b0 : decide (0 ≤ t179) = true := decide_eq_true c35
            clear c35
            by_cases c36 : t179 < 5
            · rw [if_pos c36] at H
              have c36b0 : decide (t179 < 5) = true := decide_eq_true c36
              clear c36
              by_cases c37 : ([] : List ByteArray).length + (rd_L11 listsL t179).length < 8796093022208
              · rw [if_pos c37] at H
                have LMc37 := Aside0.mk c37; clear c37
                obtain ⟨y182, hy182⟩ : ∃ y_ : List ByteArray, y_ = (([] : List ByteArray) ++ (rd_L11 listsL t179)) := ⟨_, rfl⟩
                replace H : (some (5, 0, (⟨#[]⟩ : ByteArray), y182, t180)) = some (r1, r2, r3, r4, r5) := by first | (rw [hy182]; with_reducible exact H) | (have H2_ := (Option.bind_some _ _).symm.trans H; rw [hy182]; with_reducible exact H2_) | (have H2_ := (Option.bind_some _ _).symm.trans H; with_reducible exact H2_) | with_reducible exact H | (rw [hy182]; exact H) | exact H
                have Ny182 := Aside0.mk hy182; clear hy182
                simp only [Option.some.injEq, Prod.mk.injEq] at H
                obtain ⟨rfl, rfl, rfl, rfl, rfl⟩ := H
                go_enter Tryd.func45, Tryd.ntmps45
                go_wp2_with (first | ((with_reducible refine gate_dst (N := 4) rfl ?_); refine box_event ?hg (N := 4) ?hd (cs := #[.int .i64 0, .int .i64 0, .string (⟨#[]⟩ : ByteArray), .slice none 0 0]) (t := 49) ?hr ?_; (case hd => rfl); (case hg => rfl); (case hr => first | (go_simp; done) | (go_simp; rfl)); intro gb165 hg w38 hbox hb; have n0_ := Aside0.mk (IsS71.below (by repeat (first | (with_reducible first | exact HI0.out | apply IsS71.alloc | apply IsS71.drewN | apply IsS71.drew | apply IsS71.set_1) | exact HI0.out)) hb); have n1_ := Aside0.mk (KeepBut.trans (by repeat (first | (with_reducible first | exact HK.out | apply KeepBut.set_ | apply zF | apply zG | apply zH) | exact HK.out)) (KeepBut.of_below hb g none) (.inl rfl)); have n2_ := Aside0.mk (below_step (by repeat (first | (with_reducible first|exact HB.out|apply zE|apply zB|apply zC | refine zJ ?_ (IsS71.ge HI0.out)) | exact HB.out)) hb); have n3_ := Aside0.mk (hbox); have n4_ := Aside0.mk ((by rw [hg]; exact (keep_size (w := w) (g := g) (row := none) (by repeat (first | (with_reducible first | exact HK.out | apply KeepBut.set_ | apply zF | apply zG | apply zH) | exact HK.out))) : w.heap.size ≤ gb165)); have n5_ := Aside0.mk ((Nat.le_trans HW0.out (by rw [hg]; exact (keep_size (w := w) (g := g) (row := none) (by repeat (first | (with_reducible first | exact HK.out | apply KeepBut.set_ | apply zF | apply zG | apply zH) | exact HK.out))) : w.heap.size ≤ gb165) : w0.heap.size ≤ gb165)); have n6_ := Aside0.mk ((by rw [hg]; exact Nat.ne_of_lt (IsS71.lt (show IsS71 w0 _ g s0_0 s0_1 from by repeat (first | (with_reducible first | exact HI0.out | apply IsS71.alloc | apply IsS71.drewN | apply IsS71.drew | apply IsS71.set_1) | exact HI0.out))) : g ≠ gb165)); have n7_ := Aside0.mk ((by rw [hg]; exact Nat.ne_of_gt (IsS71.lt (show IsS71 w0 _ g s0_0 s0_1 from by repeat (first | (with_reducible first | exact HI0.out | apply IsS71.alloc | apply IsS71.drewN | apply IsS71.drew | apply IsS71.set_1) | exact HI0.out))) : gb165 ≠ g)); clear HI0 HK HB; have HI0 := n0_; have HK := n1_; have HB := n2_; have BK165 := n3_; have GW165 := n4_; have GE165 := n5_; have NB0_165 := n6_; have NB165_0 := n7_; clear n0_ n1_ n2_ n3_ n4_ n5_ n6_ n7_ hb hbox hg) | ((with_reducible refine gate_callee (f := 12) rfl ?_); refine goesL_ (some 40) rfl rfl Tryd.func12 (by kernel_rfl) rfl #[.pointer (some ⟨g, 0, none⟩), .int .i64 5] rfl (by (try simp only [List.map_toArray, List.map_cons, List.map_nil]); first | done | rfl | (simp only [List.length_drop, List.length_take]; rfl)) ?_; (with_reducible refine (flagstonedraw_Codes_Next.calls g s0_0 s0_1 5 t179 t180 w0 _ ?side1 ?side2 A34.out).mono ?_); (case side1 => repeat (first | (with_reducible first | exact HI0.out | apply IsS71.alloc | apply IsS71.drewN | apply IsS71.drew | apply IsS71.set_1 | refine IsS71.far ?_ NB0_165.out _) | exact HI0.out)); (case side2 => repeat (first | (with_reducible first|exact HB.out|apply zE|apply zB|apply zC | refine zJ ?_ (IsS71.ge HI0.out) | refine zJ ?_ GE165.out) | exact HB.out)); rintro e w39 ⟨rfl, hi, hb, hk⟩; refine ⟨_, rfl, ?_⟩; have n0_ := Aside0.mk (KeepBut.blk hk (g' := gb165) (o := .cells #[.int .i64 0, .int .i64 0, .string (⟨#[]⟩ : ByteArray), .slice none 0 0] 49 (0, 0)) (by (with_reducible repeat (first|refine zN ?_ _|refine zD ?_|refine zA ?_ _)); exact BK165.out) NB165_0.out (by simp)); have n1_ := Aside0.mk (KeepBut.trans (by repeat (first | (with_reducible first | exact HK.out | apply KeepBut.set_ | apply zF | apply zG | apply zH | refine zI ?_ GW165.out _) | exact HK.out)) hk (.inl rfl)); have n2_ := Aside0.mk (hb); have n3_ := Aside0.mk (hi); clear BK165 HK HB HI0; have BK165 := n0_; have HK := n1_; have HB := n2_; have HI0 := n3_; clear n0_ n1_ n2_ n3_; (try clear hb); (try clear hb2); (try clear hk); (try clear hi); (try clear hge); have p181 : 0 ≤ (t179 : Int) := of_decide_eq_true (by first | (with_reducible assumption) | assumption); have q181 : t179 < (listsL.length : Int) := (by have h_ : (t179 : Int) < (5 : Int) := of_decide_eq_true (by first | (with_reducible assumption) | assumption); have e_ : listsL.length = 5 := rfl; omega); have ql181 : ((t179 : Int) < (5 : Int)) = True := eq_true (of_decide_eq_true (by first | (with_reducible assumption) | assumption)); obtain ⟨ad181, A181_0, c181_0, e181, hx181_0, hl181_0, hi181_0⟩ := at_L11 (Kd.C_foot_now HRG2.out HK.out) t179 p181 q181; obtain rfl : (⟨2, 0, none⟩ : Addr) = ad181 := (by injection e181); (first | simp only [add_plain] at hx181_0 | simp only [add_at] at hx181_0 | simp only [Addr.add, Nat.zero_add] at hx181_0 | skip); have HR181_0 := Aside0.mk hi181_0; have HC181_0 := Aside0.mk hl181_0; clear hi181_0 hl181_0; replace p181 := eq_true p181; replace q181 := eq_true q181) | ((with_reducible refine gate_builtin (b := .append) (xs := #[.const (.slice none 0 0), .tmp 42]) rfl ?_); at_builtin; refine Kd.R_append_rows Kd.string w.heap.size rfl (.const (.slice none 0 0)) (.tmp 42) 47 9 (.string ⟨#[]⟩) 16 rfl Tryd.underlying47 info9 rfl (by decide) (by omega) (.slice none 0 0) ([] : List ByteArray) (rd_L11 listsL t179) _ _ _ (fun _ => True) (fun _ => False) rfl rfl ?aO ?aR (fun _ _ h => h) (fun _ h => h.elim) ?aF (Below.refl _ _) ?aS ?aL ?_; (case aR => repeat (first | exact (by repeat (first | (with_reducible exact HR181_0.out) | (with_reducible refine Kd.C_alloc ?_ _) | (with_reducible refine Kd.C_drewN ?_ _) | (with_reducible refine Kd.C_drew ?_) | exact HR181_0.out)) | (with_reducible refine Kd.C_alloc ?_ _) | (with_reducible refine Kd.C_drewN ?_ _) | (with_reducible refine Kd.C_drew ?_))); (case aF => exact (fun _ _ => trivial)); (case aO => exact ((Kd.R_nil _ _ _ _ (fun _ => True)))); (case aS => exact (keep_size (w := w) (g := g) (row := none) (by repeat (first | (with_reducible first | exact HK.out | apply KeepBut.set_ | apply zF | apply zG | apply zH | refine zI ?_ GW165.out _) | exact HK.out)))); (case aL => have := LMc37.out; omega); intro v183 w40 ho hb hg hat; rw [← Ny182.out] at ho; have n0_ := Aside0.mk (IsS71.grown (by repeat (first | (with_reducible first | exact HI0.out | apply IsS71.alloc | apply IsS71.drewN | apply IsS71.drew | apply IsS71.set_1 | refine IsS71.far ?_ NB0_165.out _) | exact HI0.out)) hg (by simp [Value.ownBlock])); have n1_ := Aside0.mk (blk_grown (g := gb165) (o := .cells #[.int .i64 0, .int .i64 0, .string (⟨#[]⟩ : ByteArray), .slice none 0 0] 49 (0, 0)) (by (with_reducible repeat (first|refine zN ?_ _|refine zD ?_|refine zA ?_ _)); exact BK165.out) hg (by simp [Value.ownBlock])); have n2_ := Aside0.mk (below_weaken (by repeat (first | (with_reducible first|exact HB.out|apply zE|apply zB|apply zC | refine zJ ?_ (IsS71.ge HI0.out) | refine zJ ?_ GE165.out) | exact HB.out)) HL.out hb); have n3_ := Aside0.mk (KeepBut.trans (by repeat (first | (with_reducible first | exact HK.out | apply KeepBut.set_ | apply zF | apply zG | apply zH | refine zI ?_ GW165.out _) | exact HK.out)) (KeepBut.of_grown hg g) (.inl (by simp [Value.ownBlock]))); have n4_ := Aside0.mk (ho); clear HI0 BK165 HB HK; have HI0 := n0_; have BK165 := n1_; have HB := n2_; have HK := n3_; have HO184 := n4_; clear n0_ n1_ n2_ n3_ n4_ ho hb hg hat; obtain ⟨Ao41, co41, eo41⟩ := Kd.R_slice HO184.out; subst eo41; have hnb42 := NB165_0.out; have hnc42 := NB0_165.out; have hcz43_0 : w40.cell? ⟨gb165, 0, none⟩ = some (.int .i64 0) := (blk_cell BK165.out 0).trans rfl; have hcz43_1 : w40.cell? ⟨gb165, 1, none⟩ = some (.int .i64 0) := (blk_cell BK165.out 1).trans rfl; have hcz43_2 : w40.cell? ⟨gb165, 2, none⟩ = some (.string (⟨#[]⟩ : ByteArray)) := (blk_cell BK165.out 2).trans rfl; have hcz43_3 : w40.cell? ⟨gb165, 3, none⟩ = some (.slice none 0 0) := (blk_cell BK165.out 3).trans rfl; have hfz43_0 := blk_frozen BK165.out 0; have hfz43_1 := blk_frozen BK165.out 1; have hfz43_2 := blk_frozen BK165.out 2; have hfz43_3 := blk_frozen BK165.out 3))
                refine bodyPost_ret (results_cell_row rfl _ _ gb165 49 #[.int .i64 5, .int .i64 0, .string (⟨#[]⟩ : ByteArray), .slice Ao41 y182.length co41] (0, 0) _ rfl (by (with_reducible repeat (first|refine zN ?_ _|refine zD ?_|refine zA ?_ _)); refine blk_put (cs := #[.int .i64 5, .int .i64 0, .string (⟨#[]⟩ : ByteArray), .slice none 0 0]) ?_ 3 _ rfl; (with_reducible repeat (first|refine zN ?_ _|refine zD ?_|refine zA ?_ _)); refine blk_put (cs := #[.int .i64 5, .int .i64 0, .string (⟨#[]⟩ : ByteArray), .slice none 0 0]) ?_ 2 _ rfl; (with_reducible repeat (first|refine zN ?_ _|refine zD ?_|refine zA ?_ _)); refine blk_put (cs := #[.int .i64 5, .int .i64 0, .string (⟨#[]⟩ : ByteArray), .slice none 0 0]) ?_ 1 _ rfl; (with_reducible repeat (first|refine zN ?_ _|refine zD ?_|refine zA ?_ _)); refine blk_put (cs := #[.int .i64 0, .int .i64 0, .string (⟨#[]⟩ : ByteArray), .slice none 0 0]) ?_ 0 _ rfl; (with_reducible repeat (first|refine zN ?_ _|refine zD ?_|refine zA ?_ _)); exact BK165.out) Tryd.underlying49 rfl (by kernel_rfl)) rfl ?_
                exact ⟨_, by first | rfl | (simp [errW_none, errW_some] <;> rfl) | (simp [*, errW_none, errW_some] <;> rfl), by (with_reducible repeat (first | apply Kd.R_alloc | apply Kd.R_drewN | apply Kd.R_drew)); exact Kd.R_mono (Kd.R_far (p := ⟨gb165, 3, none⟩) (Kd.R_far (p := ⟨gb165, 2, none⟩) (Kd.R_far (p := ⟨gb165, 1, none⟩) (Kd.R_far (p := ⟨gb165, 0, none⟩) (Kd.R_types HO184.out BK165.out (by decide)) (fun _ hk => hk.2) (.int .i64 5)) (fun _ hk => hk.2) (.int .i64 0)) (fun _ hk => hk.2) (.string (⟨#[]⟩ : ByteArray))) (fun _ hk => hk.2) (.slice Ao41 y182.length co41)) (fun _ hk => trivial), by repeat (first | (with_reducible first | exact HI0.out | apply IsS71.alloc | apply IsS71.drewN | apply IsS71.drew | apply IsS71.set_1 | refine IsS71.far ?_ NB0_165.out _) | exact HI0.out), by repeat (first | (with_reducible first|exact HB.out|apply zE|apply zB|apply zC | refine zJ ?_ (IsS71.ge HI0.out) | refine zJ ?_ GE165.out) | exact HB.out), by repeat (first | (with_reducible first | exact HK.out | apply KeepBut.set_ | apply zF | apply zG | apply zH | refine zI ?_ GW165.out _) | exact HK.out)⟩
              · rw [if_neg c37] at H
                exact absurd H (by simp)
            · rw [if_neg c36] at H
              exact absurd H (by simp)
          · rw [if_neg c35] at H
            exact absurd H (by simp)

/-! ### flagstonedraw_Codes_Key: function 61 -/
/-- The key with a number. -/
def keyOf (v : Int) : ByteArray := ⟨#[107, UInt8.ofNat (48 + v.toNat)]⟩
theorem key_enc : ∀ e : Fin 10, (⟨#[107]⟩ : ByteArray) ++ Utf8.encode (48 + (e.val : Int)) = keyOf (e.val : Int) := by decide +kernel
def flagstonedraw_Codes_Key.f (s0_0 : List Int) (s0_1 : Int) : Option (ByteArray × Int) := (flagstonedraw_Codes_Next.f s0_0 s0_1 10).bind fun b => if 0 ≤ b.1 ∧ b.1 < 10 then some (keyOf b.1, b.2) else none
set_option maxHeartbeats 1000000 in
theorem flagstonedraw_Codes_Key.calls (g : Nat) (s0_0 : List Int) (s0_1 : Int) (r1 : ByteArray) (r2 : Int) (w0 w : World) (hI : IsS71 w0 w g s0_0 s0_1) (hB : Below w0.heap.size w0 w) (h : flagstonedraw_Codes_Key.f s0_0 s0_1 = some (r1, r2)) :
    Calls Tryd.prog 61 #[.pointer (some ⟨g, 0, none⟩)] w fun e w' => e = .returned (.string r1) ∧ IsS71 w0 w' g s0_0 r2 ∧ Below w0.heap.size w0 w' ∧ KeepBut w w' g none := by
  obtain ⟨⟨v, p⟩, hn, h⟩ := Option.bind_eq_some_iff.1 h
  have HI := Aside0.mk hI; have HB := Aside0.mk hB; have HN := Aside0.mk hn; clear hI hB hn
  dsimp only at h
  split at h
  · rename_i hb
    obtain ⟨rfl, rfl⟩ := Prod.mk.inj (Option.some.inj h)
    obtain ⟨e, he⟩ : ∃ e : Fin 10, (e.val : Int) = v := ⟨⟨v.toNat, by omega⟩, by simp; omega⟩
    have hk := Aside0.mk (by rw [← he]; exact key_enc e : (⟨#[107]⟩ : ByteArray) ++ Utf8.encode (48 + v) = keyOf v)
    have h1 : wrap32 (48 + v) = 48 + v := by unfold wrap32; omega
    have h2 : 0 ≤ v := hb.1
    have h3 : v < 10 := hb.2
    clear he h hb
    go_enter Tryd.func61, Tryd.ntmps61
    go_wp2_with fail
    refine (flagstonedraw_Codes_Next.calls g s0_0 s0_1 10 v p w0 w HI.out HB.out HN.out).mono ?_
    rintro e w' ⟨rfl, hi, hb, hk2⟩
    have HI2 := Aside0.mk hi; have HB2 := Aside0.mk hb; have HK2 := Aside0.mk hk2; clear hi hb hk2
    have hsz : ¬ 9223372036854775807 < 1 + (Utf8.encode (48 + v)).size := by
      have h4 : ∀ e : Fin 10, (Utf8.encode (48 + (e.val : Int))).size = 1 := by decide +kernel
      have h5 := h4 ⟨v.toNat, by omega⟩
      simp only [Int.toNat_of_nonneg h2] at h5
      rw [h5]
      omega
    go_wp2_with fail
    go_ret
    exact ⟨by rw [← hk.out]; rfl, HI2.out, HB2.out, HK2.out⟩
  · cases h

end Go.Proofs.YtefglphdiimhnaaDoor.Q
