import Derived.Test.YtefglphdiimhnaaDoorPD0
set_option linter.unusedVariables false
set_option linter.unusedSimpArgs false
namespace Go.Proofs.YtefglphdiimhnaaDoor.Plain
open Go Go.RowKit Go.Proofs.YtefglphdiimhnaaDoor.Q Go.Proofs.YtefglphdiimhnaaDoorW.PrintWords Go.Proofs.YtefglphdiimhnaaDoorW.PrintLast Go.Proofs.YtefglphdiimhnaaDoorW.PrintMore

/-- The first pass, so far: below k all is as it was; from k on each place keeps its colour or is free. -/
structure I1 (N n : Nat) (W : List Int) (f : Nat → Int) (k : Nat) (H O : List Int) : Prop where
  hl : H.length = 9
  ol : O.length = N
  a : ∀ b, b < k → rd O (b : Int) = f b
  b : ∀ b, k ≤ b → b < N → (rd O (b : Int) = f b ∧ rd H (f b) ≤ rd W (f b - 1)) ∨ (rd O (b : Int) = 0 ∧ rd W (f b - 1) < cnt f (f b) N)
  c : ∀ v : Int, 1 ≤ v → v ≤ n → rd H v = cnt (fun b => rd O (b : Int)) v N
  d : ∀ v : Int, 1 ≤ v → v ≤ n → (rd W (v - 1) ≤ rd H v ∨ rd H v = cnt f v N) ∧ rd H v ≤ cnt f v N

theorem ph1_ok {N n : Nat} {W : List Int} {f : Nat → Int} (hN : N = 10000) (h8 : n ≤ 8) (hW : W.length = n) (hp : ∀ v : Int, 1 ≤ v → v ≤ n → 0 ≤ rd W (v - 1)) (hf : ∀ b, b < N → 1 ≤ f b ∧ f b ≤ n) :
    ∀ (k : Nat) (H O : List Int), k ≤ N → I1 N n W f k H O → ∃ H1 O1, ph1 W k H O = some (H1, O1) ∧ I1 N n W f 0 H1 O1 := by
  intro k
  induction k with
  | zero => intro H O _ h; exact ⟨H, O, rfl, h⟩
  | succ k ih =>
    intro H O hk h
    obtain ⟨hl, ol, ha, hb, hc, hd⟩ := h
    have hx := ha k (by omega)
    have hfk := hf k (by omega)
    obtain ⟨x, hxe⟩ : ∃ x, x = f k := ⟨_, rfl⟩
    have hcx := cnt_nn (fun b => rd O (b : Int)) x N
    have hcc := hc x (by omega) (by omega)
    have hdd := hd x (by omega) (by omega)
    unfold ph1
    rw [hx, ← hxe]
    rw [← hxe] at hfk
    rw [if_pos ⟨hfk.1, by omega, by omega, hp x hfk.1 hfk.2, by omega⟩]
    by_cases hgt : rd W (x - 1) < rd H x
    · rw [if_pos hgt]
      refine ih _ _ (by omega) ⟨by rw [List.length_set]; exact hl, by rw [List.length_set]; exact ol, fun b hb' => ?_, fun b hb1 hb2 => ?_, fun v hv1 hv2 => ?_, fun v hv1 hv2 => ?_⟩
      · rw [rd_set_nat (by omega), if_neg (by omega)]
        exact ha b (by omega)
      · rw [rd_set_nat (by omega), rd_set (by omega)]
        by_cases e : b = k
        · subst e
          rw [if_pos rfl, ← hxe]
          exact .inr ⟨rfl, by omega⟩
        · rw [if_neg e]
          rcases hb b (by omega) hb2 with ⟨h1, h2⟩ | h1
          · refine .inl ⟨h1, ?_⟩
            by_cases e2 : (f b).toNat = x.toNat
            · rw [if_pos e2]
              have : f b = x := by have := hf b hb2; omega
              rw [this] at h2
              omega
            · rw [if_neg e2]
              exact h2
          · exact .inr h1
      · have hch := cnt_change (f := fun b => rd O (b : Int)) (g := fun b => rd (O.set k 0) (b : Int)) (v := v) (i := k) (fun b hb' => by show rd (O.set k 0) (b : Int) = rd O (b : Int); rw [rd_set_nat (by omega), if_neg hb']) N
        have e1 : rd (O.set k 0) (k : Int) = 0 := by rw [rd_set_nat (by omega), if_pos rfl]
        simp only [e1, hx] at hch
        rw [hch, rd_set (by omega), if_pos (show k < N by omega), if_neg (show ¬ (0 : Int) = v by omega), ← hc v hv1 hv2, ← hxe]
        by_cases e2 : v = x
        · subst e2
          rw [if_pos rfl, if_pos rfl]
          omega
        · rw [if_neg (show ¬ v.toNat = x.toNat by omega), if_neg (show ¬ x = v by omega)]
          omega
      · rw [rd_set (by omega)]
        by_cases e2 : v = x
        · subst e2
          rw [if_pos rfl]
          exact ⟨.inl (by omega), by omega⟩
        · rw [if_neg (by omega)]
          exact hd v hv1 hv2
    · rw [if_neg hgt]
      refine ih _ _ (by omega) ⟨hl, ol, fun b hb' => ha b (by omega), fun b hb1 hb2 => ?_, hc, hd⟩
      by_cases e : b = k
      · subst e
        exact .inl ⟨hx, by rw [← hxe]; omega⟩
      · exact hb b (by omega) hb2

theorem nextTo_ok {n : Nat} {W H : List Int} (h8 : n ≤ 8) (hW : W.length = n) (hw : ∀ v : Int, 1 ≤ v → v ≤ n → rd W (v - 1) ≤ 10000) (hh : ∀ v : Int, 1 ≤ v → v ≤ n → 0 ≤ rd H v) :
    ∀ (m : Nat) (t v : Int), 1 ≤ t → v ≤ n → t + m = v + 1 → rd H v < rd W (v - 1) → 0 < m → ∀ g, m ≤ g → ∃ t', nextTo W H g t = some t' ∧ t ≤ t' ∧ t' ≤ n ∧ rd H t' < rd W (t' - 1) ∧ ∀ u, t ≤ u → u < t' → rd W (u - 1) ≤ rd H u := by
  intro m
  induction m with
  | zero => intro t v _ _ _ _ h; omega
  | succ m ih =>
    intro t v h1 h2 h3 h4 h5 g hg
    obtain ⟨g, rfl⟩ : ∃ g', g = g' + 1 := ⟨g - 1, by omega⟩
    unfold nextTo
    rw [if_pos ⟨h1, by omega, by omega⟩]
    by_cases c : rd W (t - 1) ≤ rd H t
    · rw [if_pos c]
      have hm : 0 < m := by
        apply Nat.pos_of_ne_zero
        intro e
        have : t = v := by omega
        subst this
        omega
      obtain ⟨t', g1, g2, g3, g4, g5⟩ := ih (t + 1) v (by omega) h2 (by omega) h4 hm g (by omega)
      refine ⟨t', g1, by omega, g3, g4, fun u hu1 hu2 => ?_⟩
      by_cases e : u = t
      · subst e; exact c
      · exact g5 u (by omega) hu2
    · rw [if_neg c, if_pos ⟨hw t h1 (by omega), hh t h1 (by omega)⟩]
      exact ⟨t, rfl, by omega, by omega, by omega, fun u hu1 hu2 => by omega⟩

structure I2 (N n : Nat) (W : List Int) (f g : Nat → Int) (p : Nat) (t : Int) (H O : List Int) (out : List S69) : Prop where
  hl : H.length = 9
  ol : O.length = N
  a : ∀ c : Nat, p ≤ c → c < N → rd O (c : Int) = g c
  b : ∀ c : Nat, c < p → (1 ≤ rd O (c : Int) ∧ rd O (c : Int) ≤ n) ∧ (g c ≠ 0 → rd O (c : Int) = g c) ∧ (g c = 0 → rd O (c : Int) ≠ f c)
  c : ∀ v : Int, 1 ≤ v → v ≤ n → rd H v = cnt (fun c => rd O (c : Int)) v N ∧ rd H v ≤ rd W (v - 1) ∧ (rd W (v - 1) < cnt f v N → rd H v = rd W (v - 1))
  d : ∀ v : Int, 1 ≤ v → v < t → rd W (v - 1) ≤ rd H v
  t0 : 1 ≤ t ∧ t ≤ n
  o : out = rle (fun c => rd O (c : Int)) p

theorem ph2_ok {N n : Nat} {W : List Int} {f g : Nat → Int} (hN : N = 10000) (h8 : n ≤ 8) (hW : W.length = n) (hw : ∀ v : Int, 1 ≤ v → v ≤ n → rd W (v - 1) ≤ 10000) (hs : sv (fun v => rd W (v - 1)) n = N)
    (hg : ∀ b, b < N → (g b = f b ∧ 1 ≤ f b ∧ f b ≤ n) ∨ (g b = 0 ∧ 1 ≤ f b ∧ f b ≤ n ∧ rd W (f b - 1) < cnt f (f b) N)) :
    ∀ (r b : Nat) (t : Int) (H O : List Int) (out : List S69), b + r = N → I2 N n W f g b t H O out → ∃ out2 t2 H2 O2, ph2 W r b t H O out = some out2 ∧ I2 N n W f g N t2 H2 O2 out2 := by
  intro r
  induction r with
  | zero => intro b t H O out hb h; obtain rfl : b = N := by omega
            exact ⟨out, t, H, O, rfl, h⟩
  | succ r ih =>
    intro b t H O out hb h
    obtain ⟨hl, ol, ha, hbb, hc, hd, ht, ho⟩ := h
    have hx := ha b (by omega) (by omega)
    have hgb := hg b (by omega)
    unfold ph2
    by_cases hz : rd O (b : Int) = 0
    · rw [if_pos hz]
      have hgz : g b = 0 := by omega
      have hrange : ∀ c : Nat, c < N → 0 ≤ rd O (c : Int) ∧ rd O (c : Int) ≤ n := fun (c : Nat) hc' => by
        by_cases e : c < b
        · have := (hbb c e).1; omega
        · have := ha c (by omega) hc'
          rcases hg c hc' with h | h <;> omega
      have htot := cnt_total (f := fun c => rd O (c : Int)) (n := n) N hrange
      have hpos := cnt_has (f := fun c => rd O (c : Int)) (v := 0) (b := b) hz N (by omega)
      have hsv : sv (fun v => rd H v) n = sv (fun v => cnt (fun c => rd O (c : Int)) v N) n := sv_congr n (fun v h1 h2 => (hc v h1 h2).1)
      obtain ⟨v, hv1, hv2, hv3⟩ := sv_lt (g := fun v => rd H v) (h := fun v => rd W (v - 1)) (n := n) (by omega)
      have hvt : t ≤ v := by
        apply Classical.byContradiction
        intro hcn
        have := hd v hv1 (by omega)
        omega
      obtain ⟨t', e1, e2, e3, e4, e5⟩ := nextTo_ok (H := H) h8 hW hw (fun v h1 h2 => by rw [(hc v h1 h2).1]; exact (cnt_nn _ v N).1) (v + 1 - t).toNat t v ht.1 hv2 (by omega) hv3 (by omega) 9 (by omega)
      rw [e1, Option.bind_some]
      have hne : t' ≠ f b := by
        intro e
        rcases hgb with h | h
        · omega
        · have := (hc t' (by omega) e3).2.2 (by rw [e]; exact h.2.2.2)
          omega
      have hrb : ∀ c : Nat, rd (O.set b t') (c : Int) = if c = b then t' else rd O (c : Int) := fun c => rd_set_nat (by omega) c
      refine ih (b + 1) t' _ _ _ (by omega) ⟨by rw [List.length_set]; exact hl, by rw [List.length_set]; exact ol, fun c h1 h2 => ?_, fun c h1 => ?_, fun v h1 h2 => ?_, fun v h1 h2 => ?_, ⟨by omega, e3⟩, ?_⟩
      · rw [hrb, if_neg (by omega)]
        exact ha c (by omega) h2
      · rw [hrb]
        by_cases e : c = b
        · subst e
          rw [if_pos rfl]
          exact ⟨⟨by omega, e3⟩, fun h => absurd hgz h, fun _ => hne⟩
        · rw [if_neg e]
          exact hbb c (by omega)
      · have hch := cnt_change (f := fun c => rd O (c : Int)) (g := fun c => rd (O.set b t') (c : Int)) (v := v) (i := b) (fun c hc' => by show rd (O.set b t') (c : Int) = rd O (c : Int); rw [hrb, if_neg hc']) N
        have e6 : rd (O.set b t') (b : Int) = t' := by rw [hrb, if_pos rfl]
        simp only [e6, hz] at hch
        obtain ⟨q1, q2, q3⟩ := hc v h1 h2
        rw [hch, rd_set (by omega), if_pos (show b < N by omega), if_neg (show ¬ (0 : Int) = v by omega), ← q1]
        by_cases e : v = t'
        · subst e
          rw [if_pos rfl, if_pos rfl]
          exact ⟨by omega, by omega, fun h => by have := q3 h; omega⟩
        · rw [if_neg (show ¬ v.toNat = t'.toNat by omega), if_neg (show ¬ t' = v by omega)]
          exact ⟨by omega, q2, q3⟩
      · rw [rd_set (by omega), if_neg (by omega)]
        by_cases e : v < t
        · exact hd v h1 e
        · exact e5 v (by omega) h2
      · subst ho
        show addR _ _ _ = addR (rle (fun c => rd (O.set b t') (c : Int)) b) (b : Int) (rd (O.set b t') (b : Int))
        have e7 : rle (fun c => rd (O.set b t') (c : Int)) b = rle (fun c => rd O (c : Int)) b := rle_congr b (fun c hc' => by show rd (O.set b t') (c : Int) = rd O (c : Int); rw [hrb, if_neg (by omega)])
        rw [hrb b, if_pos rfl, e7]
    · rw [if_neg hz]
      refine ih (b + 1) t _ _ _ (by omega) ⟨hl, ol, fun c h1 h2 => ha c (by omega) h2, fun c h1 => ?_, hc, hd, ht, ?_⟩
      · by_cases e : c = b
        · subst e
          rcases hgb with h | h
          · exact ⟨by omega, fun _ => hx, fun h0 => by omega⟩
          · omega
        · exact hbb c (by omega)
      · subst ho
        rfl

def dif (f g : Nat → Int) : Nat → Int
  | 0 => 0
  | k + 1 => dif f g k + if f k = g k then 0 else 1

/-- What the weighing anew tells: each place's colour behind it. -/
theorem rwA_okN {N n : Nat} {L : List S69} {W : List Int} (hN : N = 10000) (h1 : 1 ≤ n) (h8 : n ≤ 8) (hS : okS n 0 0 L) (hW : okW n W) :
    ∃ f2 : Nat → Int, rwA L W = (if (rle f2 N).length > 16 then some ([], 19) else some (rle f2 N, 0)) ∧ (∀ b, b < N → 1 ≤ f2 b ∧ f2 b ≤ n) ∧
      (∀ b, b < N → cnt (pickL L) (pickL L b) N ≤ rd W (pickL L b - 1) → f2 b = pickL L b) ∧
      dif (pickL L) f2 N = sv (fun v => mx 0 (cnt (pickL L) v N - rd W (v - 1))) n := by
  obtain ⟨w1, w2, w3⟩ := hW
  have hWl : W.length = n := by omega
  have hf : ∀ b, b < N → 1 ≤ pickL L b ∧ pickL L b ≤ n := fun b hb => okS_pick hS (by omega) (by omega)
  have hw0 : ∀ v : Int, 1 ≤ v → v ≤ n → rd W (v - 1) ∈ W := fun v a b => rd_mem (by omega) (by omega)
  have hp : ∀ v : Int, 1 ≤ v → v ≤ n → 0 ≤ rd W (v - 1) := fun v a b => w2 _ (hw0 v a b)
  have hsum : sv (fun v => rd W (v - 1)) n = N := by rw [← sumL_sv W n (by omega), hN, List.take_of_length_le (by omega)]; exact w3
  have hle : ∀ v : Int, 1 ≤ v → v ≤ n → rd W (v - 1) ≤ 10000 := by
    intro v a b
    have hmem := hw0 v a b
    have : ∀ (l : List Int) (x : Int), (∀ y ∈ l, 0 ≤ y) → x ∈ l → x ≤ sumL l := by
      intro l
      induction l with
      | nil => intro x _ h; cases h
      | cons y l ih =>
        intro x hy hx
        rw [sumL_cons]
        have hnn := sumL_nn (a := l) (fun z hz => hy z (by simp [hz]))
        rcases List.mem_cons.1 hx with e | e
        · omega
        · have := ih x (fun z hz => hy z (by simp [hz])) e
          have := hy y (by simp)
          omega
    have := this W _ w2 hmem
    omega
  have hpl : (paintL L).length = N := by rw [hN]; simp [paintL]
  have hcf : ∀ v, cnt (fun b => rd (paintL L) (b : Int)) v N = cnt (pickL L) v N := fun v => cnt_congr N (fun b hb => paint_rd (by omega))
  have hH : ∀ v : Int, 1 ≤ v → v ≤ n → rd (hasL (wcount (paintL L) n N) n) v = cnt (pickL L) v N := fun v a b => by
    rw [hasL_rd a b h8, wcount_cnt a b N (by omega), hcf]
  have hm8 : min W.length 8 = n := by omega
  obtain ⟨H1, O1, e1, hl1, ol1, _, hb1, hc1, hd1⟩ := ph1_ok hN h8 hWl hp hf N (hasL (wcount (paintL L) n N) n) (paintL L) (by omega)
    ⟨by simp [hasL], hpl, fun b hb => paint_rd (by omega), fun b h1 h2 => by omega, fun v a b => by rw [hH v a b, hcf], fun v a b => by rw [hH v a b]; exact ⟨.inr rfl, by omega⟩⟩
  have hg : ∀ b : Nat, b < N → (rd O1 (b : Int) = pickL L b ∧ 1 ≤ pickL L b ∧ pickL L b ≤ n) ∨ (rd O1 (b : Int) = 0 ∧ 1 ≤ pickL L b ∧ pickL L b ≤ n ∧ rd W (pickL L b - 1) < cnt (pickL L) (pickL L b) N) := fun b hb => by
    have := hf b hb
    rcases hb1 b (by omega) hb with h | h
    · exact .inl ⟨h.1, this⟩
    · exact .inr ⟨h.1, this.1, this.2, h.2⟩
  have hle1 : ∀ v : Int, 1 ≤ v → v ≤ n → rd H1 v ≤ rd W (v - 1) := by
    intro v a b
    apply Classical.byContradiction
    intro hcn
    have h0 := hp v a b
    have hcc := hc1 v a b
    obtain ⟨c, hc', ec⟩ := cnt_pos (f := fun b => rd O1 (b : Int)) (v := v) N (by omega)
    have ec : rd O1 (c : Int) = v := ec
    rcases hb1 c (by omega) hc' with h | h
    · have : pickL L c = v := by omega
      rw [this] at h
      omega
    · omega
  obtain ⟨out2, t2, H2, O2, e2, hI⟩ := ph2_ok (f := pickL L) (g := fun b => rd O1 (b : Int)) hN h8 hWl hle hsum hg N 0 1 H1 O1 [] (by omega)
    ⟨hl1, ol1, fun c _ _ => rfl, fun c h => by omega, fun v a b => ⟨hc1 v a b, hle1 v a b, fun h => by
      have h2 := hd1 v a b
      have h3 := hle1 v a b
      omega⟩, fun v a b => by omega, ⟨by omega, by omega⟩, rfl⟩
  have hfac : ∀ b : Nat, b < N → (1 ≤ rd O2 (b : Int) ∧ rd O2 (b : Int) ≤ n) ∧ (rd O1 (b : Int) ≠ 0 → rd O2 (b : Int) = rd O1 (b : Int)) ∧ (rd O1 (b : Int) = 0 → rd O2 (b : Int) ≠ pickL L b) := hI.b
  refine ⟨fun b => rd O2 (b : Int), ?_, fun b hb => (hfac b hb).1, fun b hb hle' => ?_, ?_⟩
  · have e0 : rwA L W = (ph1 W N (hasL (wcount (paintL L) n N) n) (paintL L)).bind fun p => (ph2 W N 0 1 p.1 p.2 []).bind fun out => if out.length > 16 then some ([], 19) else some (out, 0) := by
      rw [hN, ← hm8]
      rfl
    rw [e0, e1, Option.bind_some, e2, Option.bind_some, hI.o]
  · rcases hg b hb with h | h
    · exact ((hfac b hb).2.1 (by omega)).trans h.1
    · omega
  · have hdif : ∀ k, k ≤ N → dif (pickL L) (fun b => rd O2 (b : Int)) k = cnt (fun b => rd O1 (b : Int)) 0 k := by
      intro k
      induction k with
      | zero => intro _; rfl
      | succ k ih =>
        intro hk
        show dif (pickL L) (fun b => rd O2 (b : Int)) k + (if pickL L k = rd O2 (k : Int) then 0 else 1) = cnt (fun b => rd O1 (b : Int)) 0 k + (if rd O1 (k : Int) = 0 then 1 else 0)
        rw [ih (by omega)]
        have h2 := hfac k (by omega)
        rcases hg k (by omega) with h | h
        · have := h2.2.1 (by omega)
          rw [if_pos (by omega), if_neg (by omega)]
        · have := h2.2.2 h.1
          rw [if_neg (by omega), if_pos (by omega)]
    rw [hdif N (by omega)]
    have t1 := cnt_total (f := fun b => rd O1 (b : Int)) (n := n) N (fun b hb => by
      show 0 ≤ rd O1 (b : Int) ∧ rd O1 (b : Int) ≤ n
      rcases hg b hb with h | h <;> omega)
    have t2 := cnt_total (f := pickL L) (n := n) N (fun b hb => by have := hf b hb; omega)
    have t3 : cnt (pickL L) 0 N = 0 := by
      have := cnt_nn (pickL L) 0 N
      apply Classical.byContradiction
      intro hcn
      obtain ⟨b, hb, e⟩ := cnt_pos (f := pickL L) (v := 0) N (by omega)
      have := hf b hb
      omega
    have t4 : sv (fun v => cnt (pickL L) v N) n = sv (fun v => cnt (fun b => rd O1 (b : Int)) v N) n + sv (fun v => mx 0 (cnt (pickL L) v N - rd W (v - 1))) n := by
      rw [← sv_add]
      refine sv_congr n (fun v a b => ?_)
      have h1 := hd1 v a b
      have h2 := hle1 v a b
      rw [← hc1 v a b]
      unfold mx
      split <;> omega
    omega

theorem rwA_ok {n : Nat} {L : List S69} {W : List Int} (h1 : 1 ≤ n) (h8 : n ≤ 8) (hS : okS n 0 0 L) (hW : okW n W) :
    ∃ N : Nat, N = 10000 ∧ ∃ f2 : Nat → Int, rwA L W = (if (rle f2 N).length > 16 then some ([], 19) else some (rle f2 N, 0)) ∧ (∀ b, b < N → 1 ≤ f2 b ∧ f2 b ≤ n) ∧
      (∀ b, b < N → cnt (pickL L) (pickL L b) N ≤ rd W (pickL L b - 1) → f2 b = pickL L b) ∧
      dif (pickL L) f2 N = sv (fun v => mx 0 (cnt (pickL L) v N - rd W (v - 1))) n := by
  obtain ⟨N, hN⟩ : ∃ N : Nat, N = 10000 := ⟨_, rfl⟩
  exact ⟨N, hN, rwA_okN hN h1 h8 hS hW⟩
end Go.Proofs.YtefglphdiimhnaaDoor.Plain
