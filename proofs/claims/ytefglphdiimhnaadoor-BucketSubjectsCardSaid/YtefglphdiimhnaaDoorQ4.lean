-- printed by wip/hp.py (the session's driver of the print, with hand-proved contracts)
import Derived.Test.YtefglphdiimhnaaDoorQ0
import Derived.Test.YtefglphdiimhnaaDoorQ1
import Derived.Test.YtefglphdiimhnaaDoorQ2
import Derived.Test.YtefglphdiimhnaaDoorQ3
namespace Go.Proofs.YtefglphdiimhnaaDoor.Q
open Go.RowKit Go.Proofs.YtefglphdiimhnaaDoorW.PrintWords Go.Proofs.YtefglphdiimhnaaDoorW.PrintLast Go.Proofs.YtefglphdiimhnaaDoorW.PrintMore
attribute [local go_sem] max2_int min2_int max_two min_two max_three min_three max_four min_four   -- for this text's walks alone
set_option linter.unusedVariables false
set_option linter.unusedSimpArgs false

attribute [local go_sem high] eqA69
/-! ### bucket_Reweigh: function 15 -/
section
/-- The first k counts, each one place later, in nine places. -/
def hasL (C : List Int) (k : Nat) : List Int := (List.range 9).map fun i => if 1 ≤ i ∧ i ≤ k then C.getD (i - 1) 0 else 0
/-- Buckets of variations with too many are given up, from the last bucket on. -/
def ph1 (w : List Int) : Nat → List Int → List Int → Option (List Int × List Int)
  | 0, H, O => some (H, O)
  | b + 1, H, O => if 1 ≤ rd O b ∧ rd O b < 9 ∧ rd O b - 1 < (w.length : Int) ∧ 0 ≤ rd w (rd O b - 1) ∧ rd H (rd O b) ≤ 10000 then
      (if rd w (rd O b - 1) < rd H (rd O b) then ph1 w b (H.set (rd O b).toNat (rd H (rd O b) - 1)) (O.set b 0) else ph1 w b H O) else none
/-- The next variation with too few. -/
def nextTo (w H : List Int) : Nat → Int → Option Int
  | 0, _ => none
  | f + 1, t => if 1 ≤ t ∧ t < 9 ∧ t - 1 < (w.length : Int) then (if rd w (t - 1) ≤ rd H t then nextTo w H f (t + 1) else if rd w (t - 1) ≤ 10000 ∧ 0 ≤ rd H t then some t else none) else none
theorem nextTo_le {w H : List Int} {f : Nat} {t t' : Int} (h : nextTo w H f t = some t') : t ≤ t' := by
  induction f generalizing t with
  | zero => cases h
  | succ f ih =>
    unfold nextTo at h
    split at h
    · split at h
      · have := ih h; omega
      · split at h
        · have := Option.some.inj h; omega
        · cases h
    · cases h
def addR (out : List S69) (b v : Int) : List S69 :=
  if 0 < out.length ∧ (rd_T69 out ((out.length : Int) - 1)).f2 = v then out.set (out.length - 1) ⟨(rd_T69 out ((out.length : Int) - 1)).f0, b + 1, (rd_T69 out ((out.length : Int) - 1)).f2⟩ else out ++ [⟨b, b + 1, v⟩]
def ph2 (w : List Int) : Nat → Nat → Int → List Int → List Int → List S69 → Option (List S69)
  | 0, _, _, _, _, out => some out
  | r + 1, b, t, H, O, out => if rd O b = 0 then (nextTo w H 9 t).bind fun t' => ph2 w r (b + 1) t' (H.set t'.toNat (rd H t' + 1)) (O.set b t') (addR out b t') else ph2 w r (b + 1) t H O (addR out b (rd O b))
def rwA (l0 : List S69) (l1 : List Int) : Option (List S69 × Int) :=
  (ph1 l1 10000 (hasL (wcount (paintL l0) (min l1.length 8) 10000) (min l1.length 8)) (paintL l0)).bind fun p =>
    (ph2 l1 10000 0 1 p.1 p.2 []).bind fun out => if out.length > 16 then some ([], 19) else some (out, 0)
theorem hasL_len (C : List Int) (k : Nat) : (hasL C k).length = 9 := by simp [hasL]
theorem hasL_zero (C : List Int) : hasL C 0 = List.replicate 9 0 := by
  refine List.ext_getElem (by simp [hasL]) fun i h1 h2 => ?_
  simp only [hasL, List.getElem_map, List.getElem_range, List.getElem_replicate]
  rw [if_neg (by omega)]
theorem hasL_set (C : List Int) (k : Nat) : (hasL C k).set (k + 1) (C.getD k 0) = hasL C (k + 1) := by
  refine List.ext_getElem (by simp [hasL]) fun i h1 h2 => ?_
  rw [List.getElem_set]
  by_cases e : k + 1 = i
  · subst e; simp [hasL]
  · simp only [hasL, List.getElem_map, List.getElem_range, if_neg e]
    by_cases h : 1 ≤ i ∧ i ≤ k
    · rw [if_pos h, if_pos (by omega)]
    · rw [if_neg h, if_neg (by omega)]
theorem addR_len (out : List S69) (b v : Int) : (addR out b v).length ≤ out.length + 1 := by unfold addR; split <;> simp
theorem addR_store {w : World} {base g cap : Nat} {ok : Nat → Prop} {out : List S69} {b v : Int} (h : Kd.R k69 69 w base ok (.slice (some ⟨g, 0, none⟩) out.length cap) out) (hn : 0 < out.length) (hv : (rd_T69 out ((out.length : Int) - 1)).f2 = v) :
    Kd.R k69 69 (w.setCell ⟨g, (out.length - 1) * 3 + 1, none⟩ (.int .i64 (b + 1))) base ok (.slice (some ⟨g, 0, none⟩) out.length cap) (addR out b v) := by
  have p1 : 0 ≤ (out.length : Int) - 1 := by omega
  have p2 : (out.length : Int) - 1 < (out.length : Int) := by omega
  obtain ⟨ce, hcl, hM, hcc, hfr⟩ := Kd.R_elem h z69 ((out.length : Int) - 1) p1 p2
  obtain rfl := k69_openM hM
  have HP := (Kd.R_seg h ((out.length : Int) - 1) p1 p2 (seg := [.int .i64 (b + 1)]) (j := 1) hcl hcc (show 2 ≤ 3 from by decide) (x' := (⟨(rd_T69 out ((out.length : Int) - 1)).f0, b + 1, (rd_T69 out ((out.length : Int) - 1)).f2⟩ : S69)) (k69_mkM _ _ _ (⟨(rd_T69 out ((out.length : Int) - 1)).f0, b + 1, (rd_T69 out ((out.length : Int) - 1)).f2⟩ : S69)) (fun _ hk => hk)).1
  have eI : ((out.length : Int) - 1).toNat = out.length - 1 := by omega
  rw [eI] at HP
  unfold addR
  rw [if_pos ⟨hn, hv⟩]
  exact HP
theorem addR_new {out : List S69} {b v : Int} (h : ¬ (0 < out.length ∧ (rd_T69 out ((out.length : Int) - 1)).f2 = v)) : addR out b v = out ++ [⟨b, b + 1, v⟩] := by unfold addR; rw [if_neg h]
/-- Cells of a row that lie at an address. -/
def CellsAt (w : World) (g : Nat) (C : List Int) : Prop := ∀ j, j < C.length → w.cell? ⟨g, j, none⟩ = some (.int .i64 (C.getD j 0))
theorem CellsAt.far {w : World} {g : Nat} {C : List Int} (h : CellsAt w g C) {p : Addr} (hp : g ≠ p.block) (u : Value) : CellsAt (w.setCell p u) g C := fun j hj => (cell_far (a := ⟨g, j, none⟩) hp u).trans (h j hj)
theorem cellsAt_of_R {w : World} {base g c : Nat} {ok : Nat → Prop} {C : List Int} (h : Kd.R (Kd.int .i64) 3 w base ok (.slice (some ⟨g, 0, none⟩) C.length c) C) : CellsAt w g C := fun j hj => by
  have := (Kd.R_celln 0 h (j : Int) (by omega) (by omega)).1
  rw [Int.toNat_natCast] at this
  rw [this]; rfl

set_option maxRecDepth 100000 in
set_option maxHeartbeats 2000000 in
theorem reweigh_any (k : Nat) (A0 : Option Addr) (c0 : Nat) (l0 : List S69) (A1 : Option Addr) (c1 : Nat) (l1 : List Int) (r1 : List S69) (r2 : Int) (w : World) (hr0 : Kd.C k69 w A0 l0.length l0) (hc0 : l0.length ≤ c0) (hr1 : Kd.C (Kd.int .i64) w A1 l1.length l1) (hc1 : l1.length ≤ c1)
    (hs : shape_Split.f k l0 (l1.length : Int) = some 0) (hk : bucket_check.f k l1 = some 0) (h : rwA l0 l1 = some (r1, r2)) :
    Calls Tryd.prog 15 #[.slice A0 l0.length c0, .slice A1 l1.length c1] w fun e w' => ∃ v0_ : Value, e = .returned (.tuple #[v0_, .int .i64 r2]) ∧ Kd.R k69 69 w' w.heap.size (fun _ => True) v0_ r1 ∧ Below w.heap.size w w' := by
  have HR0 := Aside0.mk hr0; have HC0 := Aside0.mk hc0; have HR1 := Aside0.mk hr1; have HC1 := Aside0.mk hc1; have HS := Aside0.mk hs; have HK := Aside0.mk hk; have H := Aside0.mk h; clear hr0 hc0 hr1 hc1 hs hk h
  go_enter Tryd.func15, Tryd.ntmps15
  go_wp2_with fail
  refine (shape_Split.calls k A0 c0 l0 _ 0 _ HR0.out HC0.out HS.out).mono ?_
  rintro e w1 ⟨rfl, hb1⟩
  have HB1 := Aside0.mk hb1; clear hb1
  go_wp2_with fail
  refine (bucket_check.calls k A1 c1 l1 0 _ (Kd.C_below HR1.out HB1.out) HC1.out HK.out).mono ?_
  rintro e w2 ⟨rfl, hb2⟩
  have HB2 := Aside0.mk (below_then HB1.out HB1.out.size hb2.below)
  clear HB1 hb2
  obtain ⟨m, hm⟩ : ∃ m, m = min l1.length 8 := ⟨_, rfl⟩
  have hm8 : m ≤ 8 := by omega
  have HM := Aside0.mk hm; clear hm
  go_wp2_with fail
  have HX0 := Aside0.mk (show Blk (w2.alloc (.cells #[.int .i64 0, .int .i64 0, .int .i64 0, .int .i64 0, .int .i64 0, .int .i64 0, .int .i64 0, .int .i64 0, .int .i64 0] 74)) w2.heap.size 74 (hasL (wcount (paintL l0) m 10000) 0) from by
    unfold Blk
    rw [heap_alloc_new, hasL_zero]
    rfl)
  have HB3 := Aside0.mk (HB2.out.alloc HB2.out.size (.cells #[.int .i64 0, .int .i64 0, .int .i64 0, .int .i64 0, .int .i64 0, .int .i64 0, .int .i64 0, .int .i64 0, .int .i64 0] 74))
  refine (weights_any A0 c0 l0 _ m (by rw [HM.out]; omega) _ (Kd.C_below HR0.out HB3.out) HC0.out).mono ?_
  rintro e w3 ⟨v3, rfl, ho3, hb3⟩
  obtain ⟨C, hC⟩ : ∃ C, C = wcount (paintL l0) m 10000 := ⟨_, rfl⟩
  rw [← hC] at ho3 HX0
  have HCL := Aside0.mk (show C.length = m by rw [hC]; exact wcount_len _ _ _)
  have HCe := Aside0.mk hC; clear hC
  obtain ⟨A, c, rfl⟩ := Kd.R_slice ho3
  rw [HCL.out] at ho3
  rw [HCL.out]
  have hsz2 := hb3.size
  rw [World.size_alloc] at hsz2
  have hAg := Aside0.mk (fun (hp : 0 < m) => Kd.R_form ho3 (by rw [HCL.out]; exact hp))
  have HB4 := Aside0.mk (below_then HB3.out HB3.out.size hb3)
  have HX := Aside0.mk (blk_below HX0.out hb3)
  have HR := Aside0.mk ho3; have hX1 := HB2.out.size; clear HX0 HB3 hb3 ho3
  obtain ⟨X, hX⟩ : ∃ X, X = w2.heap.size := ⟨_, rfl⟩
  rw [← hX] at HX hX1 hsz2
  rw [← hX]
  have HXe := Aside0.mk hX; clear hX HB2
  go_wp2
  go_loopw [35] (fun v wr => ∃ q : Nat, v = .int .i64 (q : Int) ∧ q ≤ m ∧ Aside0 (Blk wr X 74 (hasL C q)) ∧ Aside0 (∀ (g cap : Nat), A = some ⟨g, 0, none⟩ → 0 < m → CellsAt wr g C) ∧ Aside0 (Below w.heap.size w wr)) (fun v _ => m - (intOf v).toNat)
  case atStart =>
    refine ⟨0, rfl, by omega, HX, ⟨fun g cap e hp => ?_⟩, HB4⟩
    subst e
    exact cellsAt_of_R (c := c) (by rw [HCL.out]; exact HR.out)
  case round =>
    clear HX HB4
    obtain ⟨q, rfl, hq, HX, HCA, HB⟩ := hrel
    by_cases hlt : q < m
    · obtain ⟨g, cap, e, hg1, hg2, hg3⟩ := hAg.out (by omega)
      have eA : A = some ⟨g, 0, none⟩ := by injection e
      clear e hg3
      have hc := HCA.out g cap eA (by omega) q (by rw [HCL.out]; exact hlt)
      subst eA
      have hcx := HX.out.cell (q + 1) (by rw [hasL_len]; omega)
      have hfx := HX.out.frozen (q + 1)
      have hgX : g ≠ X := by
        have h := hg1
        rw [World.size_alloc, ← HXe.out] at h
        omega
      go_wp2
      go_roundw
      case measure => simp [intOf]; omega
      case rel => exact ⟨q + 1, by go_num, by omega, ⟨by have h := HX.out.set (q + 1) (C.getD q 0); rwa [hasL_set] at h⟩, ⟨fun g' cap' e' hp => by
        have e2 : g' = g := by injection e' with e2; injection e2 with e3; exact e3.symm
        subst e2
        exact (HCA.out g' cap' rfl hp).far hgX _⟩, ⟨HB.out.setCell hX1 _⟩⟩
    · have e : q = m := by omega
      subst e
      obtain ⟨wo, rfl⟩ : ∃ wo : World, wo = wr := ⟨_, rfl⟩
      go_wp2_with fail
      refine (paint_any A0 c0 l0 _ (Kd.C_below HR0.out HB.out) HC0.out).mono ?_
      rintro e w5 ⟨rfl, hb5⟩
      obtain ⟨O, hO⟩ : ∃ O, O = paintL l0 := ⟨_, rfl⟩
      rw [← hO]
      have HOL := Aside0.mk (show O.length = 10000 by rw [hO]; exact paintL_len _)
      have HOe := Aside0.mk hO; clear hO
      have HB5 := Aside0.mk (below_then HB.out HB.out.size hb5)
      have HX5 := Aside0.mk (blk_below HX.out hb5)
      have hX5 := blk_lt HX5.out; clear HX HB hb5 HCA HR hAg
      have hXY : X < w5.heap.size := hX5
      have hwY : w.heap.size ≤ w5.heap.size := HB5.out.size
      have h1 := blk75 w5; have z1 := size75 HOL.out
      have y1 := eq75 HOL.out zs75_len
      have o1 := one75 O; have hY := h1.row O
      have hX6 := (Blk.alloc HX5.out (.cells Tryd.zeroCells75 75)).row_far (g' := w5.heap.size) (by omega) (nums .i64 O).toArray
      have hB6 := below_setRow (HB5.out.alloc HB5.out.size (.cells Tryd.zeroCells75 75)) (g := w5.heap.size) hwY (nums .i64 O).toArray
      have HY := Aside0.mk hY; have HX6 := Aside0.mk hX6; have HB6 := Aside0.mk hB6; clear hY hX6 hB6
      unfold Blk at h1
      go_wp2_with (with_reducible refine wpList_store_row rfl 75 (.tmp 11) (.tmp 46) rfl w5.heap.size _ rfl rfl 75 _ h1 z1 y1 o1 ?_)
      clear h1
      generalize ((w5.alloc (.cells Tryd.zeroCells75 75)).setRow w5.heap.size (nums .i64 O).toArray) = w6 at HY HX6 HB6 ⊢
      generalize w5.heap.size = Y at HY hXY hwY ⊢
      clear z1 y1 o1 HX5 HB5 hX5; have hE := H.out
      unfold rwA at hE
      rw [← HM.out, ← HCe.out, ← HOe.out] at hE
      obtain ⟨⟨H1, O1⟩, hp1, hE⟩ := Option.bind_eq_some_iff.1 hE
      obtain ⟨outF, hp2, hfin⟩ := Option.bind_eq_some_iff.1 hE
      have HP2 := Aside0.mk hp2; have HF := Aside0.mk hfin; have HP1 := Aside0.mk hp1; clear hE hp1 hp2 hfin
      go_loopw [12] (fun v wr => ∃ (k : Nat) (Hh Oo : List Int), v = .int .i64 ((k : Int) - 1) ∧ k ≤ 10000 ∧ Aside0 (ph1 l1 k Hh Oo = some (H1, O1)) ∧ Aside0 (Hh.length = 9) ∧ Aside0 (Oo.length = 10000) ∧ Aside0 (Blk wr X 74 Hh) ∧ Aside0 (Blk wr Y 75 Oo) ∧ Aside0 (Below w.heap.size w wr)) (fun v _ => (intOf v + 1).toNat)
      case atStart => exact ⟨10000, _, O, rfl, by omega, HP1, ⟨hasL_len _ _⟩, HOL, HX6, HY, HB6⟩
      case round =>
        clear HP1 HX6 HY HB6
        obtain ⟨k, Hh, Oo, rfl, hk, HP1, HHL, HOL2, HX, HY, HB⟩ := hrel
        rcases k with _ | k
        · rw [show (((0 : Nat) : Int) - 1) = -1 from rfl]
          obtain ⟨e1, e2⟩ : Hh = H1 ∧ Oo = O1 := by
            have h := HP1.out
            simp only [ph1, Option.some.injEq, Prod.mk.injEq] at h
            exact h
          subst e1 e2
          go_wp2
          obtain ⟨wp, rfl⟩ : ∃ wp : World, wp = wr := ⟨_, rfl⟩
          go_loopw [70, 15, 14] (fun v t o wr => ∃ (b r : Nat) (tt : Int) (Hh Oo : List Int) (out : List S69), v = .int .i64 (b : Int) ∧ t = .int .i64 tt ∧ b + r = 10000 ∧ out.length ≤ b ∧ Aside0 (ph2 l1 r b tt Hh Oo out = some outF) ∧ Aside0 (Hh.length = 9) ∧ Aside0 (Oo.length = 10000) ∧ Aside0 (Blk wr X 74 Hh) ∧ Aside0 (Blk wr Y 75 Oo) ∧ Aside0 (Kd.R k69 69 wr w.heap.size (fun k_ => k_ ≠ X ∧ k_ ≠ Y) o out) ∧ Aside0 (Below w.heap.size w wr)) (fun v _ _ _ => 10000 - (intOf v).toNat)
          case atStart => exact ⟨0, 10000, 1, Hh, Oo, [], rfl, rfl, rfl, by simp, HP2, HHL, HOL2, HX, HY, ⟨Kd.R_nil _ _ _ _ _⟩, HB⟩
          case round =>
            clear HP2 HHL HOL2 HX HY HB HP1
            obtain ⟨b, r, tt, Hh, Oo, out, rfl, rfl, hbr, hob, HP2, HHL, HOL2, HX, HY, HR, HB⟩ := hrel
            rcases r with _ | r
            · have e : b = 10000 := by omega
              subst e; have he := HP2.out
              simp only [ph2, Option.some.injEq] at he
              subst he
              obtain ⟨Ao, co, rfl⟩ := Kd.R_slice HR.out
              have hf := HF.out
              by_cases hc : out.length > 16
              · rw [if_pos hc] at hf
                have hc1 : decide (16 < (out.length : Int)) = true := decide_eq_true (by omega)
                have hc2 : decide (16 < out.length) = true := decide_eq_true hc
                simp only [Option.some.injEq, Prod.mk.injEq] at hf
                obtain ⟨rfl, rfl⟩ := hf
                clear hc
                go_wp2
                go_ret2
                exact ⟨_, rfl, Kd.R_nil _ _ _ _ _, HB.out⟩
              · rw [if_neg hc] at hf
                have hc1 : decide (16 < (out.length : Int)) = false := decide_eq_false (by omega)
                have hc2 : decide (16 < out.length) = false := decide_eq_false hc
                simp only [Option.some.injEq, Prod.mk.injEq] at hf
                obtain ⟨rfl, rfl⟩ := hf
                clear hc
                go_wp2
                go_ret2
                exact ⟨_, rfl, Kd.R_mono HR.out (fun _ _ => trivial), HB.out⟩
            · have hb : b < 10000 := by omega
              have hcy := HY.out.cell b (by rw [HOL2.out]; omega)
              have hfy := HY.out.frozen b; have hE := HP2.out
              unfold ph2 at hE
              have hxe : Oo.getD b 0 = rd Oo b := rfl
              rw [hxe] at hcy
              obtain ⟨x, hx⟩ : ∃ x, x = rd Oo b := ⟨_, rfl⟩
              rw [← hx] at hE hcy
              have HXX := Aside0.mk hx; clear hxe hx
              have hdb : decide ((b : Int) < 10000) = true := decide_eq_true (by omega)
              go_upto_if 76 with (fail)
              go_cut [15, 76] (fun t _ wc => ∃ (t2 v : Int) (Hh Oo : List Int), t = .int .i64 t2 ∧ Aside0 (ph2 l1 r (b + 1) t2 Hh Oo (addR out b v) = some outF) ∧ Aside0 (Hh.length = 9) ∧ Aside0 (Oo.length = 10000) ∧ Aside0 (rd Oo b = v) ∧ Aside0 (Blk wc X 74 Hh) ∧ Aside0 (Blk wc Y 75 Oo) ∧ Aside0 (Kd.R k69 69 wc w.heap.size (fun k_ => k_ ≠ X ∧ k_ ≠ Y) u14 out) ∧ Aside0 (Below w.heap.size w wc))
              case first =>
                by_cases hx0 : x = 0
                · rw [if_pos hx0] at hE
                  have ht1 : (x == 0) = true := beq_iff_eq.mpr hx0
                  clear hx0
                  obtain ⟨t', hn, hE⟩ := Option.bind_eq_some_iff.1 hE
                  have HE := Aside0.mk hE; have HN := Aside0.mk hn; clear hE hn
                  obtain ⟨wq, rfl⟩ : ∃ wq : World, wq = wr := ⟨_, rfl⟩
                  go_wp2
                  go_loopw [15] (fun t wr => ∃ (f : Nat) (tt : Int), t = .int .i64 tt ∧ Aside0 (nextTo l1 Hh f tt = some t') ∧ Aside0 (Blk wr X 74 Hh) ∧ Aside0 (Blk wr Y 75 Oo) ∧ Aside0 (Kd.R k69 69 wr w.heap.size (fun k_ => k_ ≠ X ∧ k_ ≠ Y) u14 out) ∧ Aside0 (Below w.heap.size w wr)) (fun t _ => (t' - intOf t).toNat)
                  case atStart => exact ⟨9, tt, rfl, HN, HX, HY, HR, HB⟩
                  case round =>
                    clear HN HX HY HR HB
                    obtain ⟨f, tt, rfl, HN, HX, HY, HR, HB⟩ := hrel
                    have hn := HN.out
                    rcases f with _ | f
                    · cases hn
                    · unfold nextTo at hn
                      by_cases hin : 1 ≤ tt ∧ tt < 9 ∧ tt - 1 < (l1.length : Int)
                      · rw [if_pos hin] at hn
                        obtain ⟨hx1, hx2, hx3⟩ := hin
                        have hcx := HX.out.cell tt.toNat (by rw [HHL.out]; omega)
                        have hfx := HX.out.frozen tt.toNat
                        obtain ⟨ad, e, hcw⟩ := Kd.at_int HR1.out (tt - 1) (by omega) hx3
                        cases e
                        replace hcw := (HB.out.cell (World.block_lt_of_cell? w _ hcw)).trans hcw
                        have eI : (tt - 1).toNat = tt.toNat - 1 := by omega
                        rw [eI] at hcw
                        clear eI
                        have hye : Hh.getD tt.toNat 0 = rd Hh tt := rfl
                        rw [hye] at hcx
                        clear hye
                        obtain ⟨y, hy⟩ : ∃ y, y = rd Hh tt := ⟨_, rfl⟩
                        obtain ⟨z, hz⟩ : ∃ z, z = rd l1 (tt - 1) := ⟨_, rfl⟩
                        rw [← hy, ← hz] at hn
                        rw [← hy] at hcx
                        rw [← hz] at hcw
                        have HYY := Aside0.mk hy; clear hy hz
                        by_cases hge : z ≤ y
                        · rw [if_pos hge] at hn
                          have hle := nextTo_le hn; have HN2 := Aside0.mk hn; clear hn; have hg := decide_eq_true hge
                          go_wp2
                          go_quiet (fail)
                          go_wp2
                          go_roundw
                          case measure => simp [intOf]; omega
                          case rel => exact ⟨f, tt + 1, rfl, HN2, HX, HY, ⟨Kd.R_drewN HR.out nq⟩, ⟨zB HB.out nq⟩⟩
                        · rw [if_neg hge] at hn
                          by_cases h3 : z ≤ 10000 ∧ 0 ≤ y
                          · rw [if_pos h3] at hn
                            obtain ⟨h31, h32⟩ := h3
                            obtain rfl := Option.some.inj hn
                            clear hn; have hg := decide_eq_false hge
                            have hcy := HY.out.cell b (by rw [HOL2.out]; omega)
                            have hfy := HY.out.frozen b
                            have hxe : Oo.getD b 0 = rd Oo b := rfl
                            rw [hxe, ← HXX.out] at hcy
                            clear hxe
                            have HE2 := Aside0.mk (show ph2 l1 r (b + 1) tt (Hh.set tt.toNat (y + 1)) (Oo.set b tt) (addR out b tt) = some outF from by rw [HYY.out]; exact HE.out)
                            go_wp2
                            go_quiet (fail)
                            go_wp2
                            go_meet
                            case rel => exact ⟨tt, tt, _, _, by rfl, HE2, ⟨by rw [List.length_set]; exact HHL.out⟩, ⟨by rw [List.length_set]; exact HOL2.out⟩, ⟨by simp [rd, HOL2.out, hb]⟩, ⟨((HX.out.drewN nq).set _ _).far (by dsimp only; omega) _⟩, ⟨((HY.out.drewN nq).far (by dsimp only; omega) _).set _ _⟩, ⟨Kd.R_keep (Kd.R_keep (Kd.R_drewN HR.out nq) ((KeepBut.refl _ X none).set_ _ _) (fun _ h => h.1)) ((KeepBut.refl _ Y none).set_ _ _) (fun _ h => h.2)⟩, ⟨((zB HB.out nq).setCell (by dsimp only; omega) _).setCell (by dsimp only; omega) _⟩⟩
                          · rw [if_neg h3] at hn
                            cases hn
                      · rw [if_neg hin] at hn
                        cases hn
                · rw [if_neg hx0] at hE
                  have ht1 : (x == 0) = false := beq_eq_false_iff_ne.mpr hx0
                  have HE := Aside0.mk hE; clear hE hx0
                  go_wp2
                  go_meet
                  case rel => exact ⟨tt, x, Hh, Oo, by rfl, HE, HHL, HOL2, ⟨HXX.out.symm⟩, HX, HY, HR, HB⟩
              case rest =>
                clear hE hcy hfy HXX HP2 HHL HOL2 HX HY HR HB
                obtain ⟨t2, v, Hh, Oo, rfl, HP2, HHL, HOL2, HV, HX, HY, HR, HB⟩ := hcut
                clear hdb
                obtain ⟨Ao, co, rfl⟩ := Kd.R_slice HR.out
                have hcy := HY.out.cell b (by rw [HOL2.out]; omega)
                have hfy := HY.out.frozen b
                have hxe : Oo.getD b 0 = rd Oo b := rfl
                rw [hxe, HV.out] at hcy
                clear hxe
                by_cases hn0 : 0 < out.length
                · have p1 : 0 ≤ (out.length : Int) - 1 := by omega
                  have p2 : (out.length : Int) - 1 < (out.length : Int) := by omega
                  obtain ⟨g, cap, e, hg1, hg2, hg3⟩ := Kd.R_form HR.out hn0
                  have eA : Ao = some ⟨g, 0, none⟩ := by injection e
                  clear e hg3; subst eA
                  obtain ⟨ce, hcl, hM, hcc, hfr⟩ := Kd.R_elem HR.out z69 ((out.length : Int) - 1) p1 p2
                  obtain rfl := k69_openM hM
                  have eI : ((out.length : Int) - 1).toNat = out.length - 1 := by omega
                  have hc2' : wc.cell? ⟨g, (out.length - 1) * 3 + 2, none⟩ = some (.int .i64 ((rd_T69 out ((out.length : Int) - 1)).f2)) := by rw [← eI]; exact hcc 2 _ rfl
                  have hc1' : wc.cell? ⟨g, (out.length - 1) * 3 + 1, none⟩ = some (.int .i64 ((rd_T69 out ((out.length : Int) - 1)).f1)) := by rw [← eI]; exact hcc 1 _ rfl
                  have hf1' : wc.frozen? ⟨g, (out.length - 1) * 3 + 1, none⟩ = false := by rw [← eI]; exact hfr 1
                  clear hcl hM hcc hfr eI
                  have HU := Aside0.mk (fun (w' : World) (h : Kd.R k69 69 w' w.heap.size (fun k_ => k_ ≠ X ∧ k_ ≠ Y) (.slice (some ⟨g, 0, none⟩) out.length co) out) (hv : (rd_T69 out ((out.length : Int) - 1)).f2 = v) => addR_store (b := (b : Int)) h hn0 hv)
                  have HAN := Aside0.mk (fun (hv : ¬ (rd_T69 out ((out.length : Int) - 1)).f2 = v) => addR_new (b := (b : Int)) (fun h => hv h.2))
                  obtain ⟨pp, hpp⟩ : ∃ pp, pp = (rd_T69 out ((out.length : Int) - 1)).f2 := ⟨_, rfl⟩
                  rw [← hpp] at hc2' HU HAN
                  clear hpp
                  by_cases hv : pp = v
                  · have HU2 := Aside0.mk (fun w' h => HU.out w' h hv)
                    have hvb : (pp == v) = true := beq_iff_eq.mpr hv
                    clear hv HU HAN
                    go_wp2
                    go_quiet (fail)
                    go_wp2
                    go_roundw
                    case measure => simp [intOf]; omega
                    case rel => exact ⟨b + 1, r, t2, Hh, Oo, _, by go_num, rfl, by omega, by have := addR_len out b v; omega, HP2, HHL, HOL2, ⟨(HX.out.drewN nq).far (by dsimp only; exact fun e => (HR.out.1 X (by rw [e]; rfl)).1 rfl) _⟩, ⟨(HY.out.drewN nq).far (by dsimp only; exact fun e => (HR.out.1 Y (by rw [e]; rfl)).2 rfl) _⟩, ⟨HU2.out _ (Kd.R_drewN HR.out nq)⟩, ⟨(zB HB.out nq).setCell hg1 _⟩⟩
                  · have hvb : (pp == v) = false := beq_eq_false_iff_ne.mpr hv
                    have HA2 := Aside0.mk (HAN.out hv)
                    clear HU HAN
                    have hXlt := Aside0.mk (blk_lt HX.out)
                    have hYlt := Aside0.mk (blk_lt HY.out)
                    go_wp2
                    go_quiet (fail)
                    go_wp2_with (first | ((with_reducible refine gate_builtin (b := .append) (xs := #[.tmp 119, .tmp 127]) rfl ?_); at_builtin; refine Kd.R_append k69 (w0 := w) w.heap.size rfl (.tmp 119) (.tmp 127) 22 69 (.agg #[(.int .i64 0), (.int .i64 0), (.int .i64 0)]) 24 rfl Tryd.underlying22 info69 rfl (by decide) (by omega) _ out (⟨(b : Int), (b : Int) + 1, v⟩ : S69) [.int .i64 (b : Int), .int .i64 ((b : Int) + 1), .int .i64 v] (fun k_ => k_ ≠ X ∧ k_ ≠ Y) (fun _ => False) rfl rfl ?aP (fun _ hk => hk.elim) ?aF ?aO ?aB ?aS ?aL ?_; (case aP => exact k69_mkM _ _ _ (⟨(b : Int), (b : Int) + 1, v⟩ : S69)); (case aB => exact zB HB.out nq); (case aF => exact (fun k_ hk => ⟨by have := hXlt.out; simp at hk; omega, by have := hYlt.out; simp at hk; omega⟩)); (case aO => exact Kd.R_drewN HR.out nq); (case aS => exact HB.out.size); (case aL => omega); intro v2 w7 ho hb7 hg hat; have HO7 := Aside0.mk ho; have HB7 := Aside0.mk hb7; have HG7 := Aside0.mk hg; clear ho hb7 hg hat))
                    go_roundw
                    case measure => simp [intOf]; omega
                    case rel => exact ⟨b + 1, r, t2, Hh, Oo, _, by go_num, rfl, by omega, by have := addR_len out b v; omega, HP2, HHL, HOL2, ⟨blk_grown (HX.out.drewN nq) HG7.out (by intro e; exact (HR.out.1 X e.symm).1 rfl)⟩, ⟨blk_grown (HY.out.drewN nq) HG7.out (by intro e; exact (HR.out.1 Y e.symm).2 rfl)⟩, ⟨by rw [HA2.out]; exact HO7.out⟩, HB7⟩
                · have HA2 := Aside0.mk (addR_new (out := out) (b := (b : Int)) (v := v) (fun h => hn0 h.1))
                  have hn1 : decide (0 < (out.length : Int)) = false := decide_eq_false (by omega)
                  have hn2 : decide (0 < out.length) = false := decide_eq_false hn0
                  have hXlt := Aside0.mk (blk_lt HX.out)
                  have hYlt := Aside0.mk (blk_lt HY.out)
                  go_wp2
                  go_quiet (fail)
                  go_wp2_with (first | ((with_reducible refine gate_builtin (b := .append) (xs := #[.tmp 119, .tmp 127]) rfl ?_); at_builtin; refine Kd.R_append k69 (w0 := w) w.heap.size rfl (.tmp 119) (.tmp 127) 22 69 (.agg #[(.int .i64 0), (.int .i64 0), (.int .i64 0)]) 24 rfl Tryd.underlying22 info69 rfl (by decide) (by omega) _ out (⟨(b : Int), (b : Int) + 1, v⟩ : S69) [.int .i64 (b : Int), .int .i64 ((b : Int) + 1), .int .i64 v] (fun k_ => k_ ≠ X ∧ k_ ≠ Y) (fun _ => False) rfl rfl ?aP (fun _ hk => hk.elim) ?aF ?aO ?aB ?aS ?aL ?_; (case aP => exact k69_mkM _ _ _ (⟨(b : Int), (b : Int) + 1, v⟩ : S69)); (case aB => exact zB HB.out nq); (case aF => exact (fun k_ hk => ⟨by have := hXlt.out; simp at hk; omega, by have := hYlt.out; simp at hk; omega⟩)); (case aO => exact Kd.R_drewN HR.out nq); (case aS => exact HB.out.size); (case aL => omega); intro v2 w7 ho hb7 hg hat; have HO7 := Aside0.mk ho; have HB7 := Aside0.mk hb7; have HG7 := Aside0.mk hg; clear ho hb7 hg hat))
                  go_roundw
                  case measure => simp [intOf]; omega
                  case rel => exact ⟨b + 1, r, t2, Hh, Oo, _, by go_num, rfl, by omega, by have := addR_len out b v; omega, HP2, HHL, HOL2, ⟨blk_grown (HX.out.drewN nq) HG7.out (by intro e; exact (HR.out.1 X e.symm).1 rfl)⟩, ⟨blk_grown (HY.out.drewN nq) HG7.out (by intro e; exact (HR.out.1 Y e.symm).2 rfl)⟩, ⟨by rw [HA2.out]; exact HO7.out⟩, HB7⟩
        · rw [show (((k + 1 : Nat) : Int) - 1) = (k : Int) from by omega]
          have hcy := HY.out.cell k (by rw [HOL2.out]; omega)
          have hfy := HY.out.frozen k; have h1 := HP1.out
          unfold ph1 at h1
          have hxe : Oo.getD k 0 = rd Oo k := rfl
          rw [hxe] at hcy
          obtain ⟨x, hx⟩ : ∃ x, x = rd Oo k := ⟨_, rfl⟩
          rw [← hx] at h1 hcy
          clear hxe hx
          by_cases hin : 1 ≤ x ∧ x < 9 ∧ x - 1 < (l1.length : Int) ∧ 0 ≤ rd l1 (x - 1) ∧ rd Hh x ≤ 10000
          · rw [if_pos hin] at h1
            obtain ⟨hx1, hx2, hx3, hx4, hx5⟩ := hin
            have hcx := HX.out.cell x.toNat (by rw [HHL.out]; omega)
            have hfx := HX.out.frozen x.toNat
            obtain ⟨ad, e, hcw⟩ := Kd.at_int HR1.out (x - 1) (by omega) hx3
            cases e
            replace hcw := (HB.out.cell (World.block_lt_of_cell? w _ hcw)).trans hcw
            have eI : (x - 1).toNat = x.toNat - 1 := by omega
            rw [eI] at hcw
            clear eI
            have hye : Hh.getD x.toNat 0 = rd Hh x := rfl
            rw [hye] at hcx
            clear hye
            obtain ⟨y, hy⟩ : ∃ y, y = rd Hh x := ⟨_, rfl⟩
            obtain ⟨z, hz⟩ : ∃ z, z = rd l1 (x - 1) := ⟨_, rfl⟩
            rw [← hy, ← hz] at h1
            rw [← hy] at hcx hx5
            rw [← hz] at hcw hx4
            clear hy hz
            by_cases hgt : z < y
            · rw [if_pos hgt] at h1
              have HP := Aside0.mk h1; clear h1; have hg := decide_eq_true hgt
              go_wp2
              go_quiet (fail)
              go_wp2
              go_roundw
              case measure => simp [intOf]
              case rel => exact ⟨k, _, _, rfl, by omega, HP, ⟨by rw [List.length_set]; exact HHL.out⟩, ⟨by rw [List.length_set]; exact HOL2.out⟩, ⟨((HX.out.drewN nq).set _ _).far (by dsimp only; omega) _⟩, ⟨((HY.out.drewN nq).far (by dsimp only; omega) _).set _ _⟩, ⟨((zB HB.out nq).setCell (by dsimp only; omega) _).setCell (by dsimp only; omega) _⟩⟩
            · rw [if_neg hgt] at h1
              have HP := Aside0.mk h1; clear h1; have hg := decide_eq_false hgt
              go_wp2
              go_quiet (fail)
              go_wp2
              go_roundw
              case measure => simp [intOf]
              case rel => exact ⟨k, _, _, rfl, by omega, HP, HHL, HOL2, HX, HY, ⟨zB HB.out nq⟩⟩
          · rw [if_neg hin] at h1
            cases h1
end
def bucket_Reweigh.f (k : Nat) (l0 : List (S69)) (l1 : List Int) : Option ((List (S69)) × Int) := (shape_Split.f k l0 (l1.length : Int)).bind fun e1 => if e1 = 0 then ((bucket_check.f k l1).bind fun e2 => if e2 = 0 then rwA l0 l1 else some ([], e2)) else some ([], e1)
theorem bucket_Reweigh.mono : ∀ a0 a1 k, LeO (bucket_Reweigh.f k a0 a1) (bucket_Reweigh.f (k + 1) a0 a1) := fun a0 a1 k => by
  unfold bucket_Reweigh.f
  refine LeO.bind (shape_Split.mono _ _ _) (fun _ => LeO.ite (LeO.bind (bucket_check.mono _ _) (fun _ => LeO.refl _)) (LeO.refl _))
set_option maxRecDepth 100000 in
set_option maxHeartbeats 1000000 in
theorem bucket_Reweigh.calls (k : Nat) (A0 : Option Addr) (c0 : Nat) (l0 : List (S69)) (A1 : Option Addr) (c1 : Nat) (l1 : List Int) (r1 : List (S69)) (r2 : Int) (w : World) (hr0 : Kd.C k69 w A0 l0.length l0) (hc0 : l0.length ≤ c0) (hr1 : Kd.C (Kd.int .i64) w A1 l1.length l1) (hc1 : l1.length ≤ c1) (h : bucket_Reweigh.f k l0 l1 = some (r1, r2)) :
    Calls Tryd.prog 15 #[.slice A0 l0.length c0, .slice A1 l1.length c1] w fun e w' => ∃ v0_ : Value, e = .returned (.tuple #[v0_, .int .i64 r2]) ∧ Kd.R k69 69 w' w.heap.size (fun _ => True) v0_ r1 ∧ Below w.heap.size w w' := by
  obtain ⟨e1, hs, h⟩ := Option.bind_eq_some_iff.1 h
  by_cases h1 : e1 = 0
  · subst h1
    rw [if_pos rfl] at h
    obtain ⟨e2, hk, h⟩ := Option.bind_eq_some_iff.1 h
    by_cases h2 : e2 = 0
    · subst h2
      rw [if_pos rfl] at h
      exact reweigh_any k A0 c0 l0 A1 c1 l1 r1 r2 w hr0 hc0 hr1 hc1 hs hk h
    · rw [if_neg h2] at h
      simp only [Option.some.injEq, Prod.mk.injEq] at h
      obtain ⟨rfl, rfl⟩ := h
      have HR0 := Aside0.mk hr0; have HC0 := Aside0.mk hc0; have HR1 := Aside0.mk hr1; have HC1 := Aside0.mk hc1; have HS := Aside0.mk hs; have HK := Aside0.mk hk
      have hb : (e2 != 0) = true := bne_iff_ne.mpr h2
      clear hr0 hc0 hr1 hc1 hs hk h2
      go_enter Tryd.func15, Tryd.ntmps15
      go_wp2_with fail
      refine (shape_Split.calls k A0 c0 l0 _ 0 _ HR0.out HC0.out HS.out).mono ?_
      rintro e w1 ⟨rfl, hb1⟩
      have HB1 := Aside0.mk hb1; clear hb1
      go_wp2_with fail
      refine (bucket_check.calls k A1 c1 l1 _ _ (Kd.C_below HR1.out HB1.out) HC1.out HK.out).mono ?_
      rintro e w2 ⟨rfl, hb2⟩
      have HB2 := Aside0.mk (below_then HB1.out HB1.out.size hb2.below)
      clear HB1 hb2
      go_wp2
      go_ret2
      exact ⟨_, rfl, Kd.R_nil _ _ _ _ _, HB2.out⟩
  · rw [if_neg h1] at h
    simp only [Option.some.injEq, Prod.mk.injEq] at h
    obtain ⟨rfl, rfl⟩ := h
    have HR0 := Aside0.mk hr0; have HC0 := Aside0.mk hc0; have HS := Aside0.mk hs
    have hb : (e1 != 0) = true := bne_iff_ne.mpr h1
    clear hr0 hc0 hr1 hc1 hs h1
    go_enter Tryd.func15, Tryd.ntmps15
    go_wp2_with fail
    refine (shape_Split.calls k A0 c0 l0 _ _ _ HR0.out HC0.out HS.out).mono ?_
    rintro e w1 ⟨rfl, hb1⟩
    have HB1 := Aside0.mk hb1; clear hb1
    go_wp2
    go_ret2
    exact ⟨_, rfl, Kd.R_nil _ _ _ _ _, HB1.out⟩

/-! ### flagstoneref6_SameRanges: function 17 -/
def flagstoneref6_SameRanges.l0 : Nat → List (S69) → List (S69) → Int → Option (Bool)
  | 0, _, _, _ => none
  | k + 1, x0, x1, x5 => if x5 < (x0.length : Int) then (if 0 ≤ x5 then (if x5 < (x1.length : Int) then (if (!(((rd_T69 x0 x5).f0) == ((rd_T69 x1 x5).f0)) || (!(((rd_T69 x0 x5).f1) == ((rd_T69 x1 x5).f1)) || (!(((rd_T69 x0 x5).f2) == ((rd_T69 x1 x5).f2))))) = true then (some false) else (flagstoneref6_SameRanges.l0 k x0 x1 (wrap64 (x5 + 1)))) else (none)) else (none)) else (some true)
def flagstoneref6_SameRanges.f (k : Nat) (l0 : List (S69)) (l1 : List (S69)) : Option (Bool) := if (l0.length : Int) = (l1.length : Int) then (flagstoneref6_SameRanges.l0 k l0 l1 0) else (some false)
theorem flagstoneref6_SameRanges.mono_l : ∀ k, (∀ y0 y1 y2, LeO (flagstoneref6_SameRanges.l0 k y0 y1 y2) (flagstoneref6_SameRanges.l0 (k + 1) y0 y1 y2))
  | 0 => fun _ _ _ r h => by simp [flagstoneref6_SameRanges.l0] at h
  | k + 1 => by
    have ih0 := flagstoneref6_SameRanges.mono_l k
    · intro y0 y1 y2
      unfold flagstoneref6_SameRanges.l0
      repeat' first
      | (with_reducible exact ih0 _ _ _)
      | (with_reducible exact LeO.refl _)
      | (with_reducible exact LeO.none _)
      | (with_reducible refine LeO.ite ?_ ?_)
      | (with_reducible refine LeO.bind ?_ (fun _ => ?_))
      | exact ih0 _ _ _
      | exact LeO.none _
      | refine LeO.ite ?_ ?_
      | refine LeO.bind ?_ (fun _ => ?_)
theorem flagstoneref6_SameRanges.mono : ∀ a0 a1 k, LeO (flagstoneref6_SameRanges.f k a0 a1) (flagstoneref6_SameRanges.f (k + 1) a0 a1) := by
  intro a0 a1 k
  have ih0 := flagstoneref6_SameRanges.mono_l k
  unfold flagstoneref6_SameRanges.f
  repeat' first
      | (with_reducible exact ih0 _ _ _)
      | (with_reducible exact LeO.refl _)
      | (with_reducible exact LeO.none _)
      | (with_reducible refine LeO.ite ?_ ?_)
      | (with_reducible refine LeO.bind ?_ (fun _ => ?_))
      | exact ih0 _ _ _
      | exact LeO.none _
      | refine LeO.ite ?_ ?_
      | refine LeO.bind ?_ (fun _ => ?_)
set_option maxHeartbeats 8000000 in
set_option maxRecDepth 100000 in
theorem flagstoneref6_SameRanges.calls (k : Nat) (A0 : Option Addr) (c0 : Nat) (l0 : List (S69)) (A1 : Option Addr) (c1 : Nat) (l1 : List (S69)) (r : Bool) (w : World) (hr0 : Kd.C k69 w A0 l0.length l0) (hc0 : l0.length ≤ c0) (hr1 : Kd.C k69 w A1 l1.length l1) (hc1 : l1.length ≤ c1) (h : flagstoneref6_SameRanges.f k l0 l1 = some r) :
    Calls Tryd.prog 17 #[.slice A0 l0.length c0, .slice A1 l1.length c1] w fun e w' => e = .returned (.bool r) ∧ Drawn0 w w' := by
  have hu69 := Tryd.underlying69; have HR0 := Aside0.mk hr0; have HC0 := Aside0.mk hc0; clear hr0 hc0; have HR1 := Aside0.mk hr1; have HC1 := Aside0.mk hc1; clear hr1 hc1
  have H : (if (l0.length : Int) = (l1.length : Int) then (flagstoneref6_SameRanges.l0 k l0 l1 0) else (some false)) = some r := h
  clear h
  by_cases c3 : (l0.length : Int) = (l1.length : Int)
  · rw [if_pos c3] at H
    have c3b0 : ((l0.length : Int) == (l1.length : Int)) = true := beq_iff_eq.mpr c3
    have c3b1 : ((l0.length : Int) != (l1.length : Int)) = false := bne_eq_false_iff_eq.mpr c3
    have c3b2 : (l0.length == l1.length) = true := by first | simpa using c3 | (simp at c3 ⊢; omega)
    clear c3; have H' := Aside0.mk H; clear H
    go_enter Tryd.func17, Tryd.ntmps17
    go_wp2
    repeat (go_quiet (fail); try go_wp2)
    go_loopg [5] k (fun kq v5 w' => ∃ (x5_1 : Int), v5 = .int .i64 x5_1 ∧ Aside0 (flagstoneref6_SameRanges.l0 kq l0 l1 x5_1 = some r) ∧ Aside0 (kq ≤ k) ∧ Drawn0 w w')
    case atStart => exact ⟨(0), (by first | rfl | (simp; done) | (simp [*]; done)), H', ⟨Nat.le_refl _⟩, by repeat (first | exact Drawn0.refl _ | apply Drawn0.step)⟩
    case round =>
      clear H'; (try clear c1); (try clear p2); (try clear c3); (try clear c3b0); (try clear c3b1); (try clear c3b2)
      obtain ⟨x5_1, rfl, HA, HK1, ⟨m1, rfl⟩⟩ := hrel
      cases gk with
      | zero => exact absurd HA.out (by simp [flagstoneref6_SameRanges.l0])
      | succ k1 =>
        have H := HA.out; clear HA
        simp only [flagstoneref6_SameRanges.l0] at H
        by_cases c4 : x5_1 < (l0.length : Int)
        · rw [if_pos c4] at H
          have c4b0 : decide (x5_1 < (l0.length : Int)) = true := decide_eq_true c4
          clear c4
          by_cases c5 : 0 ≤ x5_1
          · rw [if_pos c5] at H
            have c5b0 : decide (0 ≤ x5_1) = true := decide_eq_true c5
            clear c5
            by_cases c6 : x5_1 < (l1.length : Int)
            · rw [if_pos c6] at H
              have c6b0 : decide (x5_1 < (l1.length : Int)) = true := decide_eq_true c6
              clear c6
              by_cases c7 : (!(((rd_T69 l0 x5_1).f0) == ((rd_T69 l1 x5_1).f0)) || (!(((rd_T69 l0 x5_1).f1) == ((rd_T69 l1 x5_1).f1)) || (!(((rd_T69 l0 x5_1).f2) == ((rd_T69 l1 x5_1).f2))))) = true
              · rw [if_pos c7] at H
                have c7b0 : (!(((rd_T69 l0 x5_1).f0) == ((rd_T69 l1 x5_1).f0)) || (!(((rd_T69 l0 x5_1).f1) == ((rd_T69 l1 x5_1).f1)) || (!(((rd_T69 l0 x5_1).f2) == ((rd_T69 l1 x5_1).f2))))) = true := c7
                clear c7
                obtain rfl := Option.some.inj H
                have p106 : 0 ≤ (x5_1 : Int) := of_decide_eq_true (by first | (with_reducible assumption) | assumption)
                have q106 : x5_1 < (l0.length : Int) := of_decide_eq_true (by first | (with_reducible assumption) | assumption)
                obtain ⟨ad106, e106, hx106_0, hx106_1, hx106_2⟩ := at_T69 HR0.out x5_1 p106 q106
                cases e106
                replace p106 := eq_true p106
                replace q106 := eq_true q106
                have p107 : 0 ≤ (x5_1 : Int) := of_decide_eq_true (by first | (with_reducible assumption) | assumption)
                have q107 : x5_1 < (l1.length : Int) := of_decide_eq_true (by first | (with_reducible assumption) | assumption)
                obtain ⟨ad107, e107, hx107_0, hx107_1, hx107_2⟩ := at_T69 HR1.out x5_1 p107 q107
                cases e107
                replace p107 := eq_true p107
                replace q107 := eq_true q107
                go_wp2
                repeat (go_quiet (fail); try go_wp2)
                go_ret
                exact ⟨by first | rfl | (simp; done) | (simp [*]; done), by repeat (first | exact Drawn0.refl _ | apply Drawn0.step)⟩
              · rw [if_neg c7] at H
                have c7b0 : (!(((rd_T69 l0 x5_1).f0) == ((rd_T69 l1 x5_1).f0)) || (!(((rd_T69 l0 x5_1).f1) == ((rd_T69 l1 x5_1).f1)) || (!(((rd_T69 l0 x5_1).f2) == ((rd_T69 l1 x5_1).f2))))) = false := by simpa using c7
                clear c7; have H' := Aside0.mk H; clear H
                have p106 : 0 ≤ (x5_1 : Int) := of_decide_eq_true (by first | (with_reducible assumption) | assumption)
                have q106 : x5_1 < (l0.length : Int) := of_decide_eq_true (by first | (with_reducible assumption) | assumption)
                obtain ⟨ad106, e106, hx106_0, hx106_1, hx106_2⟩ := at_T69 HR0.out x5_1 p106 q106
                cases e106
                replace p106 := eq_true p106
                replace q106 := eq_true q106
                have p107 : 0 ≤ (x5_1 : Int) := of_decide_eq_true (by first | (with_reducible assumption) | assumption)
                have q107 : x5_1 < (l1.length : Int) := of_decide_eq_true (by first | (with_reducible assumption) | assumption)
                obtain ⟨ad107, e107, hx107_0, hx107_1, hx107_2⟩ := at_T69 HR1.out x5_1 p107 q107
                cases e107
                replace p107 := eq_true p107
                replace q107 := eq_true q107
                go_wp2
                repeat (go_quiet (fail); try go_wp2)
                go_roundg k1
                case measure => have := HK1.out; omega
                case rel => exact ⟨(wrap64 (x5_1 + 1)), (by first | rfl | (simp; done) | (simp [*]; done)), H', ⟨by have := HK1.out; omega⟩, by repeat (first | exact Drawn0.refl _ | apply Drawn0.step)⟩
            · rw [if_neg c6] at H
              exact absurd H (by simp)
          · rw [if_neg c5] at H
            exact absurd H (by simp)
        · rw [if_neg c4] at H
          have c4b0 : decide (x5_1 < (l0.length : Int)) = false := decide_eq_false c4
          clear c4
          obtain rfl := Option.some.inj H
          go_wp2
          repeat (go_quiet (fail); try go_wp2)
          go_ret
          exact ⟨by first | rfl | (simp; done) | (simp [*]; done), by repeat (first | exact Drawn0.refl _ | apply Drawn0.step)⟩
  · rw [if_neg c3] at H
    have c3b0 : ((l0.length : Int) == (l1.length : Int)) = false := beq_eq_false_iff_ne.mpr c3
    have c3b1 : ((l0.length : Int) != (l1.length : Int)) = true := bne_iff_ne.mpr c3
    have c3b2 : (l0.length == l1.length) = false := by first | simpa using c3 | (simp at c3 ⊢; omega)
    obtain rfl := Option.some.inj H
    go_enter Tryd.func17, Tryd.ntmps17
    go_wp2
    repeat (go_quiet (fail); try go_wp2)
    go_ret
    exact ⟨by first | rfl | (simp; done) | (simp [*]; done), by repeat (first | exact Drawn0.refl _ | apply Drawn0.step)⟩

end Go.Proofs.YtefglphdiimhnaaDoor.Q
