-- printed by wip/hp.py (the session's driver of the print, with hand-proved contracts)
import Derived.Test.YtefglphdiimhnaaDoorQ0
namespace Go.Proofs.YtefglphdiimhnaaDoor.Q
open Go.RowKit Go.Proofs.YtefglphdiimhnaaDoorW.PrintWords Go.Proofs.YtefglphdiimhnaaDoorW.PrintLast Go.Proofs.YtefglphdiimhnaaDoorW.PrintMore
attribute [local go_sem] max2_int min2_int max_two min_two max_three min_three max_four min_four   -- for this text's walks alone
set_option linter.unusedVariables false
set_option linter.unusedSimpArgs false

/-! ### bucket_paint: function 40 -/
section
def Good (N : List Int) (P : Nat → Bool) : Prop := N.length = 10001 ∧ P 10000 = false ∧
  ∀ i, i ≤ 10000 → ∃ n : Nat, N.getD i 0 = (n : Int) ∧ i ≤ n ∧ n ≤ 10000 ∧ (∀ j, i ≤ j → j < n → P j = true) ∧ (P i = true → i < n)
def Found (P : Nat → Bool) (i j : Nat) : Prop := i ≤ j ∧ j ≤ 10000 ∧ P j = false ∧ ∀ q, i ≤ q → q < j → P q = true
/-- Does a range contain a bucket? -/
def inR (r : S69) (b : Nat) : Bool := decide (r.f0 ≤ (b : Int)) && decide ((b : Int) < r.f1)
/-- The variation of the first range that contains a bucket, or 0. -/
def pickL (l : List S69) (b : Nat) : Int := match l.find? (inR · b) with | some r => r.f2 | none => 0
def ptd (l : List S69) (b : Nat) : Bool := decide (b < 10000) && l.any (inR · b)
def pt2 (L : List S69) (fr : Nat) (hi_ : Int) (j : Nat) (b : Nat) : Bool := ptd L b || (decide (fr ≤ b) && decide (b < j) && decide ((b : Int) < hi_))
def val2 (L : List S69) (v : Int) (fr : Nat) (hi_ : Int) (j : Nat) (b : Nat) : Int := if ptd L b = true then pickL L b else if fr ≤ b ∧ b < j ∧ (b : Int) < hi_ then v else 0
def OutOk (O : List Int) (f : Nat → Int) : Prop := O.length = 10000 ∧ ∀ b, b < 10000 → O.getD b 0 = f b
def paintL (l : List S69) : List Int := (List.range 10000).map (pickL l)

theorem OutOk.eq {O : List Int} {l : List S69} (h : OutOk O (pickL l)) : O = paintL l := by
  refine List.ext_getElem (by simp [paintL, h.1]) fun i h1 h2 => ?_
  have := h.2 i (by have := h.1; omega)
  rw [List.getD_eq_getElem?_getD, List.getElem?_eq_getElem h1] at this
  simpa [paintL] using this
theorem pick_not {L : List S69} {b : Nat} (hb : b < 10000) (h : ptd L b = false) : pickL L b = 0 := by
  have : L.find? (inR · b) = none := by
    rw [List.find?_eq_none]
    intro r hr hc
    have : L.any (inR · b) = true := List.any_eq_true.2 ⟨r, hr, hc⟩
    simp [ptd, hb, this] at h
  simp [pickL, this]
theorem good_nil : Good ((List.range 10001).map fun i : Nat => (i : Int)) (ptd []) := by
  refine ⟨by simp, by simp [ptd], fun i hi => ⟨i, ?_, Nat.le_refl _, hi, fun j h1 h2 => by omega, fun h => by simp [ptd] at h⟩⟩
  rw [List.getD_eq_getElem?_getD, List.getElem?_eq_getElem (by simp; omega)]
  simp
theorem out_nil : OutOk (List.replicate 10000 0) (pickL []) := by
  refine ⟨List.length_replicate .., fun b hb => ?_⟩
  rw [List.getD_eq_getElem?_getD, List.getElem?_eq_getElem (by rw [List.length_replicate]; exact hb), List.getElem_replicate]
  rfl
theorem pt2_start {L : List S69} {fr j : Nat} {hi_ : Int} (h : Found (ptd L) fr j) : pt2 L fr hi_ j = ptd L := by
  funext b
  unfold pt2
  by_cases hb : fr ≤ b ∧ b < j
  · rw [h.2.2.2 b hb.1 hb.2]; rfl
  · have : (decide (fr ≤ b) && decide (b < j)) = false := by simpa using fun h1 => Nat.le_of_not_lt fun h2 => hb ⟨h1, h2⟩
    rw [this]; simp
theorem val2_start {L : List S69} {v : Int} {fr j : Nat} {hi_ : Int} {O : List Int} (h : Found (ptd L) fr j) (hO : OutOk O (pickL L)) : OutOk O (val2 L v fr hi_ j) := by
  refine ⟨hO.1, fun b hb => ?_⟩
  rw [hO.2 b hb]
  unfold val2
  by_cases hp : ptd L b = true
  · rw [if_pos hp]
  · rw [if_neg hp, pick_not hb (by simpa using hp), if_neg]
    intro hc
    exact hp (h.2.2.2 b hc.1 hc.2.1)
/-- One place more is painted. -/
def plusP (P : Nat → Bool) (j b : Nat) : Bool := P b || decide (b = j)
theorem Good.plus {N : List Int} {P : Nat → Bool} (h : Good N P) {j : Nat} (hj : j < 10000) (hP : P j = false) : Good (N.set j ((j : Int) + 1)) (plusP P j) := by
  obtain ⟨hl, h0, hN⟩ := h
  refine ⟨by simpa using hl, by simp [plusP, h0]; omega, fun q hq => ?_⟩
  by_cases e : q = j
  · subst e
    refine ⟨q + 1, by rw [List.getD_eq_getElem?_getD, List.getElem?_set_self (by omega)]; rfl, by omega, by omega, fun b h1 h2 => ?_, fun _ => by omega⟩
    have : b = q := by omega
    simp [plusP, this]
  · obtain ⟨x, e3, h1, h2, h3, h4⟩ := hN q hq
    refine ⟨x, by simpa [List.getElem?_set_ne (Ne.symm e)] using e3, h1, h2, fun b hb1 hb2 => by simp [plusP, h3 b hb1 hb2], fun hp => h4 ?_⟩
    simpa [plusP, e] using hp
theorem pt2_round {L : List S69} {fr j j' : Nat} {hi_ : Int} (hfr : fr ≤ j) (hj : (j : Int) < hi_) (h : Found (plusP (pt2 L fr hi_ j) j) j j') : plusP (pt2 L fr hi_ j) j = pt2 L fr hi_ j' := by
  funext b
  have h1 := h.1
  rcases Nat.lt_trichotomy b j with hb | hb | hb
  · have e1 : decide (b < j) = true := decide_eq_true hb
    have e2 : decide (b < j') = true := decide_eq_true (by omega)
    have e3 : decide (b = j) = false := decide_eq_false (by omega)
    simp only [plusP, pt2, e1, e2, e3, Bool.or_false]
  · subst hb
    rcases Nat.lt_or_ge b j' with h2 | h2
    · have e2 : decide (b < j') = true := decide_eq_true h2
      have e3 : decide (fr ≤ b) = true := decide_eq_true hfr
      have e4 : decide ((b : Int) < hi_) = true := decide_eq_true hj
      simp only [plusP, pt2, e2, e3, e4, decide_true, Bool.or_true, Bool.and_true]
    · have : j' = b := by omega
      subst this
      have := h.2.2.1
      simp [plusP] at this
  · have e3 : decide (b = j) = false := decide_eq_false (by omega)
    have e4 : decide (b < j) = false := decide_eq_false (by omega)
    rcases Nat.lt_or_ge b j' with h2 | h2
    · have := h.2.2.2 b (by omega) h2
      have h5 : plusP (pt2 L fr hi_ j) j b = ptd L b := by simp only [plusP, pt2, e3, e4, Bool.and_false, Bool.false_and, Bool.or_false]
      rw [this] at h5
      rw [this, pt2, ← h5]; rfl
    · have e5 : decide (b < j') = false := decide_eq_false (by omega)
      simp only [plusP, pt2, e3, e4, e5, Bool.and_false, Bool.false_and, Bool.or_false]
theorem val2_round {L : List S69} {v : Int} {fr j j' : Nat} {hi_ : Int} {O : List Int} (hfr : fr ≤ j) (hj : (j : Int) < hi_) (hj2 : j < 10000) (hp : pt2 L fr hi_ j j = false) (h : Found (plusP (pt2 L fr hi_ j) j) j j') (hO : OutOk O (val2 L v fr hi_ j)) : OutOk (O.set j v) (val2 L v fr hi_ j') := by
  refine ⟨by simpa using hO.1, fun b hb => ?_⟩
  have hl := hO.1; have h1 := h.1
  by_cases e : b = j
  · subst e
    rw [List.getD_eq_getElem?_getD, List.getElem?_set_self (by omega)]
    have hd : ptd L b = false := by
      simp only [pt2, Bool.or_eq_false_iff] at hp
      exact hp.1
    have h2 : b < j' := by
      rcases Nat.lt_or_ge b j' with h2 | h2
      · exact h2
      · have : j' = b := by omega
        subst this
        have := h.2.2.1
        simp [plusP] at this
    simp [val2, hd, hfr, h2, hj]
  · have e1 : (O.set j v).getD b 0 = O.getD b 0 := by simp [List.getElem?_set_ne (Ne.symm e)]
    rw [e1, hO.2 b hb]
    unfold val2
    by_cases hd : ptd L b = true
    · rw [if_pos hd, if_pos hd]
    · rw [if_neg hd, if_neg hd]
      by_cases h3 : fr ≤ b ∧ b < j ∧ (b : Int) < hi_
      · rw [if_pos h3, if_pos ⟨h3.1, by omega, h3.2.2⟩]
      · rw [if_neg h3]
        by_cases h4 : fr ≤ b ∧ b < j' ∧ (b : Int) < hi_
        · have h5 : j < b := by omega
          have := h.2.2.2 b (by omega) h4.2.1
          have e3 : decide (b = j) = false := decide_eq_false e
          have e4 : decide (b < j) = false := decide_eq_false (by omega)
          simp only [plusP, pt2, e3, e4, Bool.and_false, Bool.false_and, Bool.or_false] at this
          exact absurd this hd
        · rw [if_neg h4]
theorem inR_clip {r : S69} {b fr : Nat} {hi_ : Int} (hb : b < 10000) (hfr : (fr : Int) = min (max r.f0 0) 10000) (hto : hi_ = min r.f1 10000) : inR r b = (decide (fr ≤ b) && decide ((b : Int) < hi_)) := by
  rw [Bool.eq_iff_iff]
  simp only [inR, Bool.and_eq_true, decide_eq_true_eq]
  omega
theorem pt2_end {L : List S69} {r : S69} {fr j : Nat} {hi_ : Int} (hfr : (fr : Int) = min (max r.f0 0) 10000) (hto : hi_ = min r.f1 10000) (hj : ¬ (j : Int) < hi_) : pt2 L fr hi_ j = ptd (L ++ [r]) := by
  funext b
  unfold pt2 ptd
  by_cases hb : b < 10000
  · have e : (decide (fr ≤ b) && decide (b < j) && decide ((b : Int) < hi_)) = inR r b := by
      rw [inR_clip hb hfr hto, Bool.eq_iff_iff]
      simp only [Bool.and_eq_true, decide_eq_true_eq]
      omega
    simp [hb, e, Bool.and_assoc]
  · have : decide ((b : Int) < hi_) = false := decide_eq_false (by omega)
    simp [hb, this]
theorem val2_end {L : List S69} {r : S69} {fr j : Nat} {hi_ : Int} {O : List Int} (hfr : (fr : Int) = min (max r.f0 0) 10000) (hto : hi_ = min r.f1 10000) (hj : ¬ (j : Int) < hi_) (hO : OutOk O (val2 L r.f2 fr hi_ j)) : OutOk O (pickL (L ++ [r])) := by
  refine ⟨hO.1, fun b hb => ?_⟩
  rw [hO.2 b hb]
  unfold val2
  by_cases hd : ptd L b = true
  · rw [if_pos hd]
    have : (L.find? (inR · b)).isSome = true := by
      rw [List.find?_isSome]
      simp only [ptd, Bool.and_eq_true] at hd
      exact List.any_eq_true.1 hd.2
    unfold pickL
    rw [List.find?_append]
    obtain ⟨x, hx⟩ := Option.isSome_iff_exists.1 this
    rw [hx]; rfl
  · rw [if_neg hd]
    have hn : L.find? (inR · b) = none := by
      rw [List.find?_eq_none]
      intro x hx hc
      exact hd (by simp only [ptd, Bool.and_eq_true]; exact ⟨decide_eq_true hb, List.any_eq_true.2 ⟨x, hx, hc⟩⟩)
    unfold pickL
    rw [List.find?_append, hn]
    have e : inR r b = (decide (fr ≤ b) && decide ((b : Int) < hi_)) := inR_clip hb hfr hto
    by_cases h3 : fr ≤ b ∧ b < j ∧ (b : Int) < hi_
    · rw [if_pos h3]
      have : inR r b = true := by rw [e]; simp [h3.1, h3.2.2]
      simp [this]
    · rw [if_neg h3]
      have : inR r b = false := by
        rw [e, Bool.eq_false_iff]
        simp only [ne_eq, Bool.and_eq_true, decide_eq_true_eq]
        omega
      simp [this]
def Blk (w : World) (g T : Nat) (N : List Int) : Prop := w.heap[g]? = some (.cells (nums .i64 N).toArray T (0, 0))
theorem Blk.cell {w : World} {g T : Nat} {N : List Int} (h : Blk w g T N) (i : Nat) (hi : i < N.length) : w.cell? ⟨g, i, none⟩ = some (.int .i64 (N.getD i 0)) := by
  rw [blk_cell h i]
  simp [nums, hi]
theorem Blk.frozen {w : World} {g T : Nat} {N : List Int} (h : Blk w g T N) (i : Nat) : w.frozen? ⟨g, i, none⟩ = false := blk_frozen h i
theorem Blk.set {w : World} {g T : Nat} {N : List Int} (h : Blk w g T N) (i : Nat) (x : Int) : Blk (w.setCell ⟨g, i, none⟩ (.int .i64 x)) g T (N.set i x) := by
  refine blk_put h i _ ?_
  simp [nums, List.map_set]
theorem Good.half {N : List Int} {P : Nat → Bool} (h : Good N P) (i : Nat) (hi : i ≤ 10000) (n m : Nat) (hn : N.getD i 0 = (n : Int)) (hm : N.getD n 0 = (m : Int)) (hlt : i < n) : Good (N.set i m) P ∧ n ≤ m ∧ m ≤ 10000 ∧ ∀ j, i ≤ j → j < m → P j = true := by
  obtain ⟨hl, h0, hN⟩ := h
  obtain ⟨n', e1, a1, b1, c1, d1⟩ := hN i hi
  have : n' = n := by rw [hn] at e1; omega
  subst this
  obtain ⟨m', e2, a2, b2, c2, d2⟩ := hN n' b1
  have : m' = m := by rw [hm] at e2; omega
  subst this
  have hp : ∀ j, i ≤ j → j < m' → P j = true := fun j h1 h2 => by
    rcases Nat.lt_or_ge j n' with h3 | h3
    · exact c1 j h1 h3
    · exact c2 j h3 h2
  refine ⟨⟨by simpa using hl, h0, fun q hq => ?_⟩, a2, b2, hp⟩
  by_cases e : q = i
  · subst e
    exact ⟨m', by rw [List.getD_eq_getElem?_getD, List.getElem?_set_self (by omega)]; rfl, by omega, b2, hp, fun _ => by omega⟩
  · obtain ⟨x, e3, h3⟩ := hN q hq
    exact ⟨x, by simpa [List.getElem?_set_ne (Ne.symm e)] using e3, h3⟩

set_option maxRecDepth 100000 in
set_option maxHeartbeats 1000000 in
theorem find_any (N : List Int) (Pt : Nat → Bool) (g i : Nat) (w : World) (hb : Blk w g 90 N) (hG : Good N Pt) (hi : i ≤ 10000) :
    Calls Tryd.prog 54 #[.int .i64 (i : Int), .pointer (some ⟨g, 0, none⟩)] w fun e w' => ∃ (j : Nat) (N' : List Int), e = .returned (.int .i64 (j : Int)) ∧ Found Pt i j ∧ Good N' Pt ∧ Blk w' g 90 N' ∧ KeepBut w w' g none ∧ Below g w w' := by
  have HB := Aside0.mk hb; have HG := Aside0.mk hG; clear hb hG
  go_enter Tryd.func54, Tryd.ntmps54
  go_wp2
  go_loopw [0] (fun v wr => ∃ (i' : Nat) (N' : List Int), v = .int .i64 (i' : Int) ∧ i ≤ i' ∧ i' ≤ 10000 ∧ Aside0 (∀ q, i ≤ q → q < i' → Pt q = true) ∧ Aside0 (Good N' Pt) ∧ Aside0 (Blk wr g 90 N') ∧ Aside0 (KeepBut w wr g none) ∧ Aside0 (Below g w wr)) (fun v _ => 10000 - (intOf v).toNat)
  case atStart => exact ⟨i, N, rfl, Nat.le_refl _, hi, ⟨fun q h1 h2 => by omega⟩, HG, HB, ⟨KeepBut.refl _ _ _⟩, ⟨Below.refl _ _⟩⟩
  case round =>
    clear HB HG
    obtain ⟨i', N', rfl, hi1, hi2, HP, HG, HB, HK, HW⟩ := hrel
    obtain ⟨n, hn, a1, b1, c1, d1⟩ := HG.out.2.2 i' hi2
    have hl := HG.out.1
    have hcell := HB.out.cell i' (by omega)
    rw [hn] at hcell
    have HC := Aside0.mk c1; have HD := Aside0.mk d1; have HN := Aside0.mk hn; have HL := Aside0.mk hl; clear c1 d1 hn hl
    by_cases e : n = i'
    · subst e
      go_wp2
      go_ret
      exact ⟨n, N', rfl, ⟨hi1, hi2, by
        rcases hp : Pt n with _ | _
        · rfl
        · exact absurd (HD.out hp) (by omega), HP.out⟩, HG.out, HB.out, HK.out, HW.out⟩
    · have hlt : i' < n := by omega
      have hb : ((n : Int) != (i' : Int)) = true := bne_iff_ne.mpr (by omega)
      clear e
      obtain ⟨m, hm, a2, b2, _, _⟩ := HG.out.2.2 n b1
      have hcell2 := HB.out.cell n (by have := HL.out; omega)
      rw [hm] at hcell2
      have hfr := HB.out.frozen i'; have HM := Aside0.mk hm
      have R := Aside0.mk (HG.out.half i' hi2 n m HN.out hm hlt)
      clear hm
      go_wp2
      go_roundw
      case measure => simp [intOf]; omega
      case rel =>
        have r := R.out
        exact ⟨m, N'.set i' m, rfl, by omega, r.2.2.1, ⟨fun q h1 h2 => by
          rcases Nat.lt_or_ge q i' with h3 | h3
          · exact HP.out q h1 h3
          · exact r.2.2.2 q h3 h2⟩, ⟨r.1⟩, ⟨HB.out.set i' m⟩, ⟨HK.out.set_ _ _⟩, ⟨HW.out.setCell (by simp) _⟩⟩
theorem mx_max (x y : Int) : (if x < y then y else x) = max x y := by split <;> omega
theorem mn_min (x y : Int) : (if y < x then y else x) = min x y := by split <;> omega

set_option maxRecDepth 1000000 in
theorem zero75 : Tryd.zeroCells75 = Array.replicate 10000 (.int .i64 0) := by kernel_rfl
set_option maxRecDepth 1000000 in
theorem zero90 : Tryd.zeroCells90 = Array.replicate 10001 (.int .i64 0) := by kernel_rfl
def zs75 : List Int := List.replicate 10000 0
theorem blk75 (W : World) : Blk (W.alloc (.cells Tryd.zeroCells75 75)) W.heap.size 75 zs75 := by
  unfold Blk
  rw [heap_alloc_new, zero75, zs75, nums, List.map_replicate, List.toArray_replicate]
theorem blk90 (W : World) : Blk (W.alloc (.cells Tryd.zeroCells90 90)) W.heap.size 90 (List.replicate 10001 0) := by
  unfold Blk
  rw [heap_alloc_new, zero90, nums, List.map_replicate, List.toArray_replicate]
theorem Blk.alloc {w : World} {g T : Nat} {N : List Int} (h : Blk w g T N) (o : Obj) : Blk (w.alloc o) g T N := zA h o
theorem Blk.drewN {w : World} {g T : Nat} {N : List Int} (h : Blk w g T N) (m : Nat) : Blk (w.drewN m) g T N := h
theorem Blk.far {w : World} {g T : Nat} {N : List Int} (h : Blk w g T N) {p : Addr} (hp : g ≠ p.block) (u : Value) : Blk (w.setCell p u) g T N := blk_far h hp u
theorem Blk.lt {w : World} {g T : Nat} {N : List Int} (h : Blk w g T N) : g < w.heap.size := blk_lt h
/-- The first k of n places link to themselves, the others are still 0. -/
def initN (n k : Nat) : List Int := (List.range n).map fun i => if i < k then (i : Int) else 0
theorem initN_zero (n : Nat) : initN n 0 = List.replicate n 0 := by
  refine List.ext_getElem (by simp [initN]) fun i h1 h2 => by simp [initN]
theorem initN_full (n : Nat) : initN n n = (List.range n).map fun i : Nat => (i : Int) := by
  refine List.ext_getElem (by simp [initN]) fun i h1 h2 => by
    have : i < n := by simpa [initN] using h1
    simp [initN, this]
theorem initN_set (n k : Nat) : (initN n k).set k (k : Int) = initN n (k + 1) := by
  refine List.ext_getElem (by simp [initN]) fun i h1 h2 => ?_
  rw [List.getElem_set]
  by_cases e : k = i
  · subst e; simp [initN]
  · simp only [initN, List.getElem_map, List.getElem_range, if_neg e]
    by_cases h : i < k
    · rw [if_pos h, if_pos (by omega)]
    · rw [if_neg h, if_neg (by omega)]
theorem initN_len (n k : Nat) : (initN n k).length = n := by simp [initN]
set_option maxRecDepth 100000 in
set_option maxHeartbeats 1000000 in
theorem paint_any (A0 : Option Addr) (c0 : Nat) (l0 : List S69) (w : World) (hr0 : Kd.C k69 w A0 l0.length l0) (hc0 : l0.length ≤ c0) :
    Calls Tryd.prog 40 #[.slice A0 l0.length c0] w fun e w' => e = .returned (.agg (nums .i64 (paintL l0)).toArray) ∧ Below w.heap.size w w' := by
  have HR0 := Aside0.mk hr0; have HC0 := Aside0.mk hc0; clear hr0 hc0
  go_enter Tryd.func40, Tryd.ntmps40
  go_wp2
  have HO := Aside0.mk ((blk75 (w.alloc (.cells Tryd.zeroCells75 75))).alloc (.cells Tryd.zeroCells90 90))
  have HR := Aside0.mk (((blk75 w).alloc (.cells Tryd.zeroCells75 75)).alloc (.cells Tryd.zeroCells90 90))
  have HN := Aside0.mk (initN_zero 10001 ▸ blk90 ((w.alloc (.cells Tryd.zeroCells75 75)).alloc (.cells Tryd.zeroCells75 75)))
  have HW := Aside0.mk ((((Below.refl w.heap.size w).alloc (Nat.le_refl _) (.cells Tryd.zeroCells75 75)).alloc (by simp) (.cells Tryd.zeroCells75 75)).alloc (by simp; omega) (.cells Tryd.zeroCells90 90))
  simp only [World.size_alloc] at HO HR HN HW
  go_loopw [12] (fun v wr => ∃ (k : Nat), v = .int .i64 (k : Int) ∧ k ≤ 10001 ∧ Aside0 (Blk wr (w.heap.size + 1) 75 zs75) ∧ Aside0 (Blk wr w.heap.size 75 zs75) ∧ Aside0 (Blk wr (w.heap.size + 1 + 1) 90 (initN 10001 k)) ∧ Aside0 (Below w.heap.size w wr)) (fun v _ => 10001 - (intOf v).toNat)
  case atStart => exact ⟨0, rfl, by omega, HO, HR, HN, HW⟩
  case round =>
    clear HO HR HN HW
    obtain ⟨k, rfl, hk, HO, HR, HN, HW⟩ := hrel
    by_cases hlt : k < 10001
    · have hcell := HN.out.cell k (by rw [initN_len]; exact hlt)
      have hfr := HN.out.frozen k
      go_wp2
      go_roundw
      case measure => simp [intOf]; omega
      case rel => exact ⟨k + 1, by go_num, by omega, ⟨HO.out.far (by dsimp only; omega) _⟩, ⟨HR.out.far (by dsimp only; omega) _⟩, ⟨by have := HN.out.set k (k : Int); rwa [initN_set] at this⟩, ⟨HW.out.setCell (by dsimp only; omega) _⟩⟩
    · have e : k = 10001 := by omega
      subst e
      go_wp2
      rw [show ((10001 : Nat) : Int) = 10001 from rfl]
      have HG := Aside0.mk (show Good (initN 10001 10001) (ptd (l0.take 0)) from by rw [initN_full]; exact good_nil)
      have HO' := Aside0.mk (show ∃ O, Blk wr (w.heap.size + 1) 75 O ∧ OutOk O (pickL (l0.take 0)) from ⟨_, HO.out, out_nil⟩)
      clear hk HO
      have hc75 : l0.length ≤ 9223372036854775807 := HR0.out.2.1
      go_loopw [22] (fun v wq => ∃ (q : Nat) (N O : List Int), v = .int .i64 (q : Int) ∧ q ≤ l0.length ∧ Aside0 (Good N (ptd (l0.take q))) ∧ Aside0 (OutOk O (pickL (l0.take q))) ∧ Aside0 (Blk wq (w.heap.size + 1) 75 O) ∧ Aside0 (Blk wq w.heap.size 75 zs75) ∧ Aside0 (Blk wq (w.heap.size + 1 + 1) 90 N) ∧ Aside0 (Below w.heap.size w wq)) (fun v _ => l0.length - (intOf v).toNat)
      case atStart =>
        obtain ⟨O, h1, h2⟩ := HO'.out
        exact ⟨0, _, O, rfl, by omega, HG, ⟨h2⟩, ⟨h1⟩, HR, HN, HW⟩
      case round =>
        clear HG HO' HR HN HW
        obtain ⟨q, N, O, rfl, hq, HG, HO, HOB, HR, HN, HW⟩ := hrel
        by_cases hlq : q < l0.length
        · have p1 : 0 ≤ (q : Int) := by omega
          have q1 : (q : Int) < (l0.length : Int) := by omega
          obtain ⟨ad, e, hx0, hx1, hx2⟩ := at_T69 HR0.out q p1 q1
          cases e
          replace hx0 := (HW.out.cell (World.block_lt_of_cell? w _ hx0)).trans hx0
          replace hx1 := (HW.out.cell (World.block_lt_of_cell? w _ hx1)).trans hx1
          replace hx2 := (HW.out.cell (World.block_lt_of_cell? w _ hx2)).trans hx2
          obtain ⟨rr, hrr⟩ : ∃ rr, rr = rd_T69 l0 q := ⟨_, rfl⟩
          rw [← hrr] at hx0 hx1 hx2
          simp only [Int.toNat_natCast] at hx0 hx1 hx2
          have HRR := Aside0.mk hrr; clear hrr
          go_wp2
          go_quiet (fail)
          simp only [mx_max, mn_min]
          generalize hto : min rr.f1 10000 = hi_
          have HT := Aside0.mk hto; clear hto
          obtain ⟨fr, hfr⟩ : ∃ fr : Nat, (fr : Int) = min (max rr.f0 0) 10000 := ⟨(min (max rr.f0 0) 10000).toNat, by omega⟩
          rw [← hfr]
          have hf2 : fr ≤ 10000 := by omega
          have HFR := Aside0.mk hfr; clear hfr
          go_wp2_with fail
          refine (find_any N (ptd (l0.take q)) _ fr _ ((HN.out.alloc _).drewN _) HG.out hf2).mono ?_
          rintro e w1 ⟨j, N1, rfl, HF, HG1, HB1, HK1, HW1⟩
          have hsz : w.heap.size + 1 + 1 < wr.heap.size := HN.out.lt
          have HX := Aside0.mk (HK1.blk (g' := wr.heap.size) (o := .cells #[.int .i64 rr.f0, .int .i64 rr.f1, .int .i64 rr.f2] 69 (0, 0)) (zN (blk_new _ _) _) (by omega) (by simp))
          have HO1 := Aside0.mk (HK1.blk ((HOB.out.alloc (.cells #[.int .i64 rr.f0, .int .i64 rr.f1, .int .i64 rr.f2] 69)).drewN nq) (by omega) (by simp))
          have HR1 := Aside0.mk (HK1.blk ((HR.out.alloc (.cells #[.int .i64 rr.f0, .int .i64 rr.f1, .int .i64 rr.f2] 69)).drewN nq) (by omega) (by simp))
          have HWn := Aside0.mk ((zB (HW.out.alloc (by omega) (.cells #[.int .i64 rr.f0, .int .i64 rr.f1, .int .i64 rr.f2] 69)) nq).trans (HW1.mono (by omega)))
          have HG2 := Aside0.mk (show Good N1 (pt2 (l0.take q) fr hi_ j) from by rw [pt2_start HF]; exact HG1)
          have HV := Aside0.mk (val2_start (v := rr.f2) (hi_ := hi_) HF HO.out)
          have HP0 := Aside0.mk (show pt2 (l0.take q) fr hi_ j j = false from by rw [pt2_start HF]; exact HF.2.2.1)
          have hj1 := HF.1; have hj2 := HF.2.1; clear HF HG1 HK1 HW1 HG HO HN HW HOB HR hx0 hx1 hx2
          obtain ⟨wo, rfl⟩ : ∃ wo : World, wo = wr := ⟨_, rfl⟩
          go_wp2
          go_loopw [11] (fun v wi => ∃ (j : Nat) (N O : List Int), v = .int .i64 (j : Int) ∧ fr ≤ j ∧ j ≤ 10000 ∧ Aside0 (pt2 (l0.take q) fr hi_ j j = false) ∧ Aside0 (Good N (pt2 (l0.take q) fr hi_ j)) ∧ Aside0 (OutOk O (val2 (l0.take q) rr.f2 fr hi_ j)) ∧ Aside0 (Blk wi (w.heap.size + 1) 75 O) ∧ Aside0 (Blk wi w.heap.size 75 zs75) ∧ Aside0 (Blk wi (w.heap.size + 1 + 1) 90 N) ∧ Aside0 (wi.heap[wo.heap.size]? = some (.cells #[.int .i64 rr.f0, .int .i64 rr.f1, .int .i64 rr.f2] 69 (0, 0))) ∧ Aside0 (Below w.heap.size w wi)) (fun v _ => 10000 - (intOf v).toNat)
          case atStart => exact ⟨j, N1, O, rfl, hj1, hj2, HP0, HG2, HV, HO1, HR1, ⟨HB1⟩, HX, HWn⟩
          case round =>
            clear HG2 HV HP0 HO1 HR1 HB1 HX HWn hj1 hj2
            obtain ⟨j, N, O, rfl, hj1, hj2, HP, HG, HO, HOB, HR, HN, HX, HW⟩ := hrel
            by_cases hlt : (j : Int) < hi_
            · have HT' := HT
              have hj3 : j < 10000 := by have := HT.out; omega
              have hcx : wr.cell? ⟨wo.heap.size, 2, none⟩ = some (.int .i64 rr.f2) := blk_cell HX.out 2
              have hc1 := HOB.out.cell j (by have := HO.out.1; omega)
              have hf1 := HOB.out.frozen j
              have hc2 := HN.out.cell j (by have := HG.out.1; omega)
              have hf2' := HN.out.frozen j
              go_wp2_with fail
              have hw1 : w.heap.size ≤ w.heap.size + 1 := by omega
              have hw2 : w.heap.size ≤ w.heap.size + 1 + 1 := by omega
              have hlt2 : w.heap.size + 1 + 1 < wo.heap.size := hsz
              refine (find_any (N.set j ((j : Int) + 1)) (plusP (pt2 (l0.take q) fr hi_ j) j) _ j _ ((HN.out.far (by dsimp only; omega) _).set _ _) (HG.out.plus hj3 HP.out) hj2).mono ?_
              rintro e w1 ⟨j', N1, rfl, HF, HG1, HB1, HK1, HW1⟩
              have HX1 := Aside0.mk (HK1.blk (g' := wo.heap.size) (blk_far (blk_far HX.out (by dsimp only; omega) _) (by dsimp only; omega) _) (by omega) (by simp))
              have HO1 := Aside0.mk (HK1.blk ((HOB.out.set j rr.f2).far (p := ⟨w.heap.size + 1 + 1, j, none⟩) (by dsimp only; omega) _) (by omega) (by simp))
              have HR1 := Aside0.mk (HK1.blk ((HR.out.far (p := ⟨w.heap.size + 1, j, none⟩) (by dsimp only; omega) _).far (p := ⟨w.heap.size + 1 + 1, j, none⟩) (by dsimp only; omega) _) (by omega) (by simp))
              have HWn := Aside0.mk (((HW.out.setCell (p := ⟨w.heap.size + 1, j, none⟩) (by dsimp only; omega) _).setCell (p := ⟨w.heap.size + 1 + 1, j, none⟩) (by dsimp only; omega) _).trans (HW1.mono (by omega)))
              have HE := Aside0.mk (pt2_round hj1 hlt HF)
              have HV1 := Aside0.mk (val2_round (v := rr.f2) hj1 hlt hj3 HP.out HF HO.out)
              have hj4 : fr ≤ j' := by have := HF.1; omega
              have hj5 := HF.2.1
              have hj6 : j < j' := by
                have h1 := HF.1
                rcases Nat.lt_or_ge j j' with h2 | h2
                · exact h2
                · have e2 : j' = j := by omega
                  have := HF.2.2.1
                  rw [e2] at this
                  simp [plusP] at this
              have HP1 := Aside0.mk (show pt2 (l0.take q) fr hi_ j' j' = false from by rw [← HE.out]; exact HF.2.2.1)
              have HG2 := Aside0.mk (show Good N1 (pt2 (l0.take q) fr hi_ j') from by rw [← HE.out]; exact HG1)
              clear HF HG1 HK1 HW1
              go_wp2
              go_roundw
              case measure => simp [intOf]; omega
              case rel => exact ⟨j', N1, _, rfl, hj4, hj5, HP1, HG2, HV1, HO1, HR1, ⟨HB1⟩, HX1, HWn⟩
            · have hq1 : (l0.take q) ++ [rr] = l0.take (q + 1) := by
                rw [List.take_succ_eq_append_getElem hlq, HRR.out]
                simp [rd_T69, hlq]
              have HG2 := Aside0.mk (show Good N (ptd (l0.take (q + 1))) from by rw [← hq1, ← pt2_end HFR.out HT.out.symm hlt]; exact HG.out)
              have HV1 := Aside0.mk (show OutOk O (pickL (l0.take (q + 1))) from by rw [← hq1]; exact val2_end HFR.out HT.out.symm hlt HO.out)
              clear hq1
              go_wp2
              go_roundw
              case measure => simp [intOf]; omega
              case rel => exact ⟨q + 1, N, O, by go_num, by omega, HG2, HV1, HOB, HR, HN, HW⟩
        · have e : q = l0.length := by omega
          have HOE := Aside0.mk (show O = paintL l0 from by subst e; exact OutOk.eq (by rw [← List.take_length (l := l0)]; exact HO.out))
          have hs1 := HOB.out; have hs2 := HR.out
          unfold Blk at hs1 hs2
          have hz : (Tryd.prog.info? 75).map (·.size) = some (nums .i64 O).toArray.size := by
            rw [List.size_toArray, nums_length, HO.out.1]; kernel_rfl
          have hz2 : (nums .i64 zs75).toArray.size = (nums .i64 O).toArray.size := by
            rw [List.size_toArray, List.size_toArray, nums_length, nums_length, HO.out.1, zs75, List.length_replicate]
          have hz1 : ((nums .i64 O).toArray.all fun x => x.oneCell') = true := by
            rw [Array.all_eq_true_iff_forall_mem]
            intro v hv
            simp only [nums, List.mem_toArray, List.mem_map] at hv
            obtain ⟨x, _, rfl⟩ := hv
            rfl
          go_wp2_with (first | (with_reducible refine wpList_load_row rfl 75 (.tmp 3) rfl (w.heap.size + 1) rfl 75 _ (0, 0) _ hs1 Tryd.underlying75 rfl hz ?_) | (with_reducible refine wpList_store_row rfl 75 (.tmp 2) (.tmp 51) rfl w.heap.size _ rfl rfl 75 _ hs2 hz hz2 hz1 ?_))
          have hz3 : (Tryd.prog.info? 75).map (·.size) = some (nums .i64 (paintL l0)).toArray.size := by rw [← HOE.out]; exact hz
          refine bodyPost_ret (results_cell_row rfl _ _ w.heap.size 75 (nums .i64 O).toArray (0, 0) _ rfl (setRow_heap _ _ _ _ _ _ hs2) Tryd.underlying75 rfl hz) rfl ⟨by rw [HOE.out], below_setRow HW.out (Nat.le_refl _) _⟩
end

/-! ### bucket_Moved: function 23 -/
section
/-- In how many of the first k places two lists differ. -/
def cntNe (x y : List Int) : Nat → Int
  | 0 => 0
  | k + 1 => cntNe x y k + if x.getD k 0 = y.getD k 0 then 0 else 1
theorem cntNe_bd (x y : List Int) (k : Nat) : 0 ≤ cntNe x y k ∧ cntNe x y k ≤ k := by
  induction k with
  | zero => simp [cntNe]
  | succ k ih => unfold cntNe; split <;> omega
theorem paintL_len (l : List S69) : (paintL l).length = 10000 := by simp [paintL]
theorem size75 {O : List Int} (h : O.length = 10000) : (Tryd.prog.info? 75).map (·.size) = some (nums .i64 O).toArray.size := by
  rw [List.size_toArray, nums_length, h]; kernel_rfl
theorem one75 (O : List Int) : ((nums .i64 O).toArray.all fun x => x.oneCell') = true := by
  rw [Array.all_eq_true_iff_forall_mem]
  intro v hv
  simp only [nums, List.mem_toArray, List.mem_map] at hv
  obtain ⟨x, _, rfl⟩ := hv
  rfl
theorem eq75 {O Z : List Int} (h : O.length = 10000) (hz : Z.length = 10000) : (nums .i64 Z).toArray.size = (nums .i64 O).toArray.size := by
  rw [List.size_toArray, List.size_toArray, nums_length, nums_length, h, hz]
theorem zs75_len : zs75.length = 10000 := List.length_replicate ..
theorem Blk.row {w : World} {g : Nat} {N : List Int} (h : Blk w g 75 N) (O : List Int) : Blk (w.setRow g (nums .i64 O).toArray) g 75 O := setRow_heap _ _ _ _ _ _ h
theorem Blk.row_far {w : World} {g g' T : Nat} {N : List Int} (h : Blk w g T N) (hne : g ≠ g') (cs : Array Value) : Blk (w.setRow g' cs) g T N := (setRow_other _ _ _ _ hne).trans h
set_option maxRecDepth 100000 in
set_option maxHeartbeats 1000000 in
theorem moved_any (A0 : Option Addr) (c0 : Nat) (l0 : List S69) (A1 : Option Addr) (c1 : Nat) (l1 : List S69) (w : World) (hr0 : Kd.C k69 w A0 l0.length l0) (hc0 : l0.length ≤ c0) (hr1 : Kd.C k69 w A1 l1.length l1) (hc1 : l1.length ≤ c1) :
    Calls Tryd.prog 23 #[.slice A0 l0.length c0, .slice A1 l1.length c1] w fun e w' => e = .returned (.int .i64 (cntNe (paintL l0) (paintL l1) 10000)) ∧ Below w.heap.size w w' := by
  have HR0 := Aside0.mk hr0; have HC0 := Aside0.mk hc0; have HR1 := Aside0.mk hr1; have HC1 := Aside0.mk hc1; clear hr0 hc0 hr1 hc1
  go_enter Tryd.func23, Tryd.ntmps23
  go_wp2_with fail
  refine (paint_any A0 c0 l0 _ HR0.out HC0.out).mono ?_
  rintro e w1 ⟨rfl, hb1⟩
  have HB1 := Aside0.mk hb1; clear hb1
  obtain ⟨X, hX⟩ : ∃ X, X = paintL l0 := ⟨_, rfl⟩
  rw [← hX]
  have HX := Aside0.mk hX; clear hX
  go_wp2_with fail
  refine (paint_any A1 c1 l1 _ (Kd.C_below HR1.out HB1.out) HC1.out).mono ?_
  rintro e w2 ⟨rfl, hb2⟩
  have HB2 := Aside0.mk hb2; clear hb2
  obtain ⟨Y, hY⟩ : ∃ Y, Y = paintL l1 := ⟨_, rfl⟩
  rw [← hY]
  have HY := Aside0.mk hY; clear hY
  have HXL := Aside0.mk (show X.length = 10000 by rw [HX.out]; exact paintL_len _)
  have HYL := Aside0.mk (show Y.length = 10000 by rw [HY.out]; exact paintL_len _)
  have HBW := Aside0.mk (below_then HB1.out HB1.out.size HB2.out)
  have hs := HBW.out.size
  have h1 := (blk75 w2).alloc (.cells Tryd.zeroCells75 75)
  have h2 := blk75 (w2.alloc (.cells Tryd.zeroCells75 75))
  rw [World.size_alloc] at h2
  have h2' := h2.row_far (g' := w2.heap.size) (by omega) (nums .i64 X).toArray
  have HP := Aside0.mk ((h1.row X).row_far (g' := w2.heap.size + 1) (by omega) (nums .i64 Y).toArray)
  have HQ := Aside0.mk (h2'.row Y)
  have HW := Aside0.mk (below_setRow (below_setRow (((HBW.out.alloc hs (.cells Tryd.zeroCells75 75)).alloc (by simp; omega) (.cells Tryd.zeroCells75 75))) (g := w2.heap.size) hs (nums .i64 X).toArray) (g := w2.heap.size + 1) (by omega) (nums .i64 Y).toArray)
  have z1 := size75 HXL.out; have z2 := size75 HYL.out
  have y1 := eq75 HXL.out zs75_len
  have y2 := eq75 HYL.out zs75_len
  have o1 := one75 X; have o2 := one75 Y
  unfold Blk at h1 h2'
  go_wp2_with (first | (with_reducible refine wpList_store_row rfl 75 (.tmp 5) (.tmp 10) rfl w2.heap.size _ rfl rfl 75 _ h1 z1 y1 o1 ?_) | (with_reducible refine wpList_store_row rfl 75 (.tmp 6) (.tmp 12) rfl (w2.heap.size + 1) _ rfl rfl 75 _ h2' z2 y2 o2 ?_))
  clear h1 h2 h2' z1 z2 y1 y2 o1 o2
  go_loopw [7, 13] (fun n v wr => ∃ k : Nat, v = .int .i64 (k : Int) ∧ k ≤ 10000 ∧ n = .int .i64 (cntNe X Y k) ∧ Aside0 (Blk wr w2.heap.size 75 X) ∧ Aside0 (Blk wr (w2.heap.size + 1) 75 Y) ∧ Aside0 (Below w.heap.size w wr)) (fun _ v _ => 10000 - (intOf v).toNat)
  case atStart => exact ⟨0, rfl, by omega, rfl, HP, HQ, HW⟩
  case round =>
    clear HP HQ HW
    obtain ⟨k, rfl, hk, rfl, HP, HQ, HW⟩ := hrel
    by_cases hlt : k < 10000
    · have hc1 := HP.out.cell k (by have := HXL.out; omega)
      have hc2 := HQ.out.cell k (by have := HYL.out; omega)
      have hbd := cntNe_bd X Y k
      have hs1 := Aside0.mk (show cntNe X Y (k + 1) = cntNe X Y k + if X.getD k 0 = Y.getD k 0 then 0 else 1 from rfl)
      have p1 : (0 : Int) ≤ k := by omega
      obtain ⟨a, ha⟩ : ∃ a, a = X.getD k 0 := ⟨_, rfl⟩
      obtain ⟨b, hb⟩ : ∃ b, b = Y.getD k 0 := ⟨_, rfl⟩
      rw [← ha] at hc1
      rw [← hb] at hc2
      rw [← ha, ← hb] at hs1
      clear ha hb
      by_cases hab : a = b
      · have e1 : (a != b) = false := bne_eq_false_iff_eq.mpr hab
        have hs2 := Aside0.mk (show cntNe X Y (k + 1) = cntNe X Y k by rw [hs1.out, if_pos hab]; omega)
        clear hab
        go_wp2
        go_quiet (fail)
        go_wp2
        go_roundw
        case measure => simp [intOf]; omega
        case rel => exact ⟨k + 1, by go_num, by omega, by rw [hs2.out], HP, HQ, ⟨zB HW.out _⟩⟩
      · have e1 : (a != b) = true := bne_iff_ne.mpr hab
        have hs2 := Aside0.mk (show cntNe X Y (k + 1) = cntNe X Y k + 1 by rw [hs1.out, if_neg hab])
        clear hab
        go_wp2
        go_quiet (fail)
        go_wp2
        go_roundw
        case measure => simp [intOf]; omega
        case rel => exact ⟨k + 1, by go_num, by omega, by rw [hs2.out], HP, HQ, ⟨zB HW.out _⟩⟩
    · have e : k = 10000 := by omega
      subst e
      go_wp2
      go_ret
      exact ⟨by rw [HX.out, HY.out]; rfl, HW.out⟩
end
def bucket_Moved.f (l0 : List (S69)) (l1 : List (S69)) : Option (Int) := some (cntNe (paintL l0) (paintL l1) 10000)
theorem bucket_Moved.calls (A0 : Option Addr) (c0 : Nat) (l0 : List (S69)) (A1 : Option Addr) (c1 : Nat) (l1 : List (S69)) (r : Int) (w : World) (hr0 : Kd.C k69 w A0 l0.length l0) (hc0 : l0.length ≤ c0) (hr1 : Kd.C k69 w A1 l1.length l1) (hc1 : l1.length ≤ c1) (h : bucket_Moved.f l0 l1 = some r) :
    Calls Tryd.prog 23 #[.slice A0 l0.length c0, .slice A1 l1.length c1] w fun e w' => e = .returned (.int .i64 r) ∧ Below w.heap.size w w' := by
  obtain rfl := Option.some.inj h
  exact moved_any A0 c0 l0 A1 c1 l1 w hr0 hc0 hr1 hc1

/-! ### bucket_Weights: function 21 -/
section
def wstep (o : List Int) (v : Int) : List Int := if 1 ≤ v ∧ v ≤ (o.length : Int) then o.set (v - 1).toNat (o.getD (v - 1).toNat 0 + 1) else o
def wcount (X : List Int) (m k : Nat) : List Int := (X.take k).foldl wstep (List.replicate m 0)
theorem wstep_len (o : List Int) (v : Int) : (wstep o v).length = o.length := by unfold wstep; split <;> simp
theorem foldl_wstep_len (l o : List Int) : (l.foldl wstep o).length = o.length := by
  induction l generalizing o with
  | nil => rfl
  | cons a l ih => rw [List.foldl_cons, ih, wstep_len]
theorem wcount_len (X : List Int) (m k : Nat) : (wcount X m k).length = m := by unfold wcount; rw [foldl_wstep_len]; simp
theorem wcount_succ (X : List Int) (m k : Nat) (h : k < X.length) : wcount X m (k + 1) = wstep (wcount X m k) (X.getD k 0) := by
  unfold wcount
  rw [List.take_succ_eq_append_getElem h, List.foldl_append]
  simp [h]
theorem wcount_bd (X : List Int) (m k : Nat) (h : k ≤ X.length) (j : Nat) : 0 ≤ (wcount X m k).getD j 0 ∧ (wcount X m k).getD j 0 ≤ k := by
  induction k with
  | zero =>
    have : (wcount X m 0).getD j 0 = 0 := by
      simp only [wcount, List.take_zero, List.foldl_nil, List.getD_eq_getElem?_getD, List.getElem?_replicate]
      split <;> rfl
    rw [this]; omega
  | succ k ih =>
    have ih := ih (by omega)
    rw [wcount_succ X m k (by omega)]
    unfold wstep
    split
    · by_cases e : j = (X.getD k 0 - 1).toNat
      · subst e
        rw [List.getD_eq_getElem?_getD (l := List.set _ _ _)]
        by_cases hl : (X.getD k 0 - 1).toNat < (wcount X m k).length
        · rw [List.getElem?_set_self hl]
          simp only [Option.getD_some]; omega
        · rw [List.getElem?_eq_none (by simp; omega)]
          simp only [Option.getD_none]; omega
      · have : ((wcount X m k).set (X.getD k 0 - 1).toNat ((wcount X m k).getD (X.getD k 0 - 1).toNat 0 + 1)).getD j 0 = (wcount X m k).getD j 0 := by
          rw [List.getD_eq_getElem?_getD, List.getElem?_set_ne (Ne.symm e), ← List.getD_eq_getElem?_getD]
        rw [this]; omega
    · omega
theorem run_index_arr {P : Program} {T E n : Nat} {i : TypeInfo} (hT : P.underlying T = some (.array n E)) (hi : P.info? E = some i) (hc : P.cellsOf E = 1) (hp : P.plainKey E = true) (X : List Int) (h : X.length = n) (k : Nat) (hk : k < n) (W : World) :
    (Instr.index T (.agg (nums .i64 X).toArray) (.int .i64 (k : Int))).run P W = .ok (.int .i64 (X.getD k 0)) W := by
  have hx : (nums .i64 X).toArray[(k : Int).toNat * 1]? = some (.int .i64 (X.getD k 0)) := by
    rw [Nat.mul_one, Int.toNat_natCast]
    simp [nums, h ▸ hk]
  simp only [Instr.index, asIntOf, Sem.run_bind, Sem.run_pure, Result.andThen_ok, run_underlying hT]
  rw [if_pos ⟨by omega, by omega⟩]
  simp only [Sem.run_bind, Result.andThen_ok, run_sizeOf _ hi, hc, run_part_plain _ hp hx]
theorem run_index75 (X : List Int) (h : X.length = 10000) (k : Nat) (hk : k < 10000) (W : World) :
    (Instr.index 75 (.agg (nums .i64 X).toArray) (.int .i64 (k : Int))).run Tryd.prog W = .ok (.int .i64 (X.getD k 0)) W := by
  obtain ⟨i, hi, _⟩ := Option.map_eq_some_iff.1 info3
  exact run_index_arr Tryd.underlying75 hi (by kernel_rfl) (by kernel_rfl) X h k hk W
set_option maxRecDepth 100000 in
set_option maxHeartbeats 1000000 in
theorem weights_any (A0 : Option Addr) (c0 : Nat) (l0 : List S69) (a1 : Int) (m : Nat) (hm : (m : Int) = min (max a1 0) 8) (w : World) (hr0 : Kd.C k69 w A0 l0.length l0) (hc0 : l0.length ≤ c0) :
    Calls Tryd.prog 21 #[.slice A0 l0.length c0, .int .i64 a1] w fun e w' => ∃ v0_ : Value, e = .returned (v0_) ∧ Kd.R (Kd.int .i64) 3 w' w.heap.size (fun _ => True) v0_ (wcount (paintL l0) m 10000) ∧ Below w.heap.size w w' := by
  have HR0 := Aside0.mk hr0; have HC0 := Aside0.mk hc0
  have hm8 : m ≤ 8 := by omega
  have HM := Aside0.mk hm; clear hr0 hc0 hm
  go_enter Tryd.func21, Tryd.ntmps21
  go_wp2_with (first | ((with_reducible refine gate_dst (N := 11) rfl ?_); simp only [mx_max, mn_min]; rw [← HM.out]; refine Kd.R_make (w0 := w) (Kd.int .i64) w.heap.size 3 rfl (N := 11) rfl 23 _ _ rfl (m : Int) rfl rfl Tryd.underlying23 (.int .i64 0) 8 info3 rfl (by decide) (by omega) 0 (ok := fun _ => True) (okp := fun _ => True) rfl (fun _ hk => hk) trivial (by omega) (by omega) (Below.refl _ _) (Nat.le_refl _) ?_; intro v1 w1 ho1 hb1 hg_ hnew_; clear hg_ hnew_; have HO := Aside0.mk ho1; have HB := Aside0.mk hb1; clear ho1 hb1))
  have hb0 := HB.out
  refine (paint_any A0 c0 l0 _ (Kd.C_below HR0.out HB.out) HC0.out).mono ?_
  rintro e w2 ⟨rfl, hb2⟩
  have HO2 := Aside0.mk (Kd.R_below HO.out hb2)
  have HB2 := Aside0.mk (below_then HB.out HB.out.size hb2)
  clear HO HB hb0 hb2
  obtain ⟨X, hX⟩ : ∃ X, X = paintL l0 := ⟨_, rfl⟩
  rw [← hX]
  have HX := Aside0.mk hX; clear hX
  have HXL := Aside0.mk (show X.length = 10000 by rw [HX.out]; exact paintL_len _)
  obtain ⟨A, c, rfl⟩ := Kd.R_slice HO2.out
  rw [List.length_replicate, Int.toNat_natCast]
  have HO2' := HO2.out
  rw [List.length_replicate, Int.toNat_natCast] at HO2'
  have hAg := Aside0.mk (fun (hp : 0 < m) => Kd.R_form HO2' (by rw [List.length_replicate]; exact hp))
  clear HO2'
  go_wp2
  have HZ := Aside0.mk (show Kd.R (Kd.int .i64) 3 w2 w.heap.size (fun _ => True) (.slice A m c) (wcount X m 0) from by have h := HO2.out; rwa [List.length_replicate, Int.toNat_natCast] at h)
  clear HO2
  go_loopw [14] (fun v wr => ∃ k : Nat, v = .int .i64 (k : Int) ∧ k ≤ 10000 ∧ Aside0 (Kd.R (Kd.int .i64) 3 wr w.heap.size (fun _ => True) (.slice A m c) (wcount X m k)) ∧ Aside0 (Below w.heap.size w wr)) (fun v _ => 10000 - (intOf v).toNat)
  case atStart => exact ⟨0, rfl, by omega, HZ, HB2⟩
  case round =>
    clear HZ HB2
    obtain ⟨k, rfl, hk, HO, HB⟩ := hrel
    by_cases hlt : k < 10000
    · have hidx := run_index75 X HXL.out k hlt
      have hs1 := Aside0.mk (wcount_succ X m k (by rw [HXL.out]; exact hlt))
      have hbd := Aside0.mk (wcount_bd X m k (by rw [HXL.out]; omega) (X.getD k 0 - 1).toNat)
      obtain ⟨a, ha⟩ : ∃ a, a = X.getD k 0 := ⟨_, rfl⟩
      rw [← ha] at hidx hs1 hbd
      clear ha
      have hlen := Aside0.mk (wcount_len X m k)
      by_cases hin : 1 ≤ a ∧ a ≤ (m : Int)
      · obtain ⟨h1, h2⟩ := hin
        obtain ⟨g, cap, e, hg1, hg2, hg3⟩ := hAg.out (by omega)
        have eA : A = some ⟨g, 0, none⟩ := by injection e
        clear e hg3; subst eA
        have p1 : decide (1 ≤ a) = true := decide_eq_true h1
        have p2 : decide (a ≤ (m : Int)) = true := decide_eq_true h2
        obtain ⟨hc, hf⟩ := Kd.R_celln 0 HO.out (a - 1) (by omega) (by omega)
        have eI : (a - 1).toNat = a.toNat - 1 := by omega
        have hP := Kd.R_putg HO.out (a - 1) (rdOf 0 (wcount X m k) (a - 1) + 1)
        rw [eI] at hc hf hP
        have HP := Aside0.mk hP; clear hP
        have hq : rdOf 0 (wcount X m k) (a - 1) = (wcount X m k).getD (a - 1).toNat 0 := rfl
        have hs2 := Aside0.mk (show wcount X m (k + 1) = (wcount X m k).set (a.toNat - 1) (rdOf 0 (wcount X m k) (a - 1) + 1) by
          rw [hs1.out, wstep, if_pos ⟨h1, by rw [hlen.out]; exact h2⟩, eI]; simp only [rdOf, eI])
        clear eI
        obtain ⟨y, hy⟩ : ∃ y, y = rdOf 0 (wcount X m k) (a - 1) := ⟨_, rfl⟩
        have hy1 : 0 ≤ y := by rw [hy, hq]; exact hbd.out.1
        have hy2 : y ≤ 10000 := by rw [hy, hq]; have := hbd.out.2; omega
        rw [← hy] at hc
        rw [← hy] at HP hs2
        clear hq hy
        go_wp2
        go_roundw
        case measure => simp [intOf]; omega
        case rel => exact ⟨k + 1, by go_num, by omega, ⟨by rw [hs2.out]; exact HP.out.1⟩, ⟨zJ HB.out hg1⟩⟩
      · have hs2 := Aside0.mk (show wcount X m (k + 1) = wcount X m k by
          rw [hs1.out, wstep, if_neg (by rw [hlen.out]; exact hin)])
        by_cases h1 : 1 ≤ a
        · have p1 : decide (1 ≤ a) = true := decide_eq_true h1
          have h2 : ¬ a ≤ (m : Int) := fun h => hin ⟨h1, h⟩
          have p2 : decide (a ≤ (m : Int)) = false := decide_eq_false h2
          clear hin
          go_wp2
          go_roundw
          case measure => simp [intOf]; omega
          case rel => exact ⟨k + 1, by go_num, by omega, ⟨by rw [hs2.out]; exact HO.out⟩, HB⟩
        · have p1 : decide (1 ≤ a) = false := decide_eq_false h1
          clear hin
          go_wp2
          go_roundw
          case measure => simp [intOf]; omega
          case rel => exact ⟨k + 1, by go_num, by omega, ⟨by rw [hs2.out]; exact HO.out⟩, HB⟩
    · have e : k = 10000 := by omega
      subst e
      go_wp2
      go_ret
      exact ⟨_, rfl, by rw [← HX.out]; exact HO.out, HB.out⟩
end
def bucket_Weights.f (l0 : List (S69)) (a1 : Int) : Option (List Int) := some (wcount (paintL l0) (min (max a1 0) 8).toNat 10000)
theorem bucket_Weights.calls (A0 : Option Addr) (c0 : Nat) (l0 : List (S69)) (a1 : Int) (r : List Int) (w : World) (hr0 : Kd.C k69 w A0 l0.length l0) (hc0 : l0.length ≤ c0) (h : bucket_Weights.f l0 a1 = some r) :
    Calls Tryd.prog 21 #[.slice A0 l0.length c0, .int .i64 a1] w fun e w' => ∃ v0_ : Value, e = .returned (v0_) ∧ Kd.R (Kd.int .i64) 3 w' w.heap.size (fun _ => True) v0_ r ∧ Below w.heap.size w w' := by
  obtain rfl := Option.some.inj h
  exact weights_any A0 c0 l0 a1 _ (by omega) w hr0 hc0

/-! ### shape_when: function 53 -/
def shape_when.f (a0 : Bool) (a1 : Int) : Option (Int) := if a0 = true then (some a1) else (some 0)
set_option maxHeartbeats 8000000 in
set_option maxRecDepth 100000 in
theorem shape_when.calls (a0 : Bool) (a1 : Int) (r : Int) (w : World) (h : shape_when.f a0 a1 = some r) :
    Calls Tryd.prog 53 #[.bool a0, .int .i64 a1] w fun e w' => e = .returned (.int .i64 r) ∧ Drawn0 w w' := by
  have H : (if a0 = true then (some a1) else (some 0)) = some r := h
  clear h
  by_cases c3 : a0 = true
  · subst c3
    have H1 : (some a1) = some r := by rw [if_pos rfl] at H; exact H
    clear H; have H := H1; clear H1
    obtain rfl := Option.some.inj H
    go_enter Tryd.func53, Tryd.ntmps53
    go_wp2
    go_ret
    exact ⟨by first | rfl | (simp; done) | (simp [*]; done), by repeat (first | exact Drawn0.refl _ | apply Drawn0.step)⟩
  · replace c3 := Bool.eq_false_iff.mpr c3
    subst c3
    have H1 : (some 0) = some r := by rw [if_neg (show ¬ (false = true) by decide)] at H; exact H
    clear H; have H := H1; clear H1
    obtain rfl := Option.some.inj H
    go_enter Tryd.func53, Tryd.ntmps53
    go_wp2
    go_ret
    exact ⟨by first | rfl | (simp; done) | (simp [*]; done), by repeat (first | exact Drawn0.refl _ | apply Drawn0.step)⟩

end Go.Proofs.YtefglphdiimhnaaDoor.Q
