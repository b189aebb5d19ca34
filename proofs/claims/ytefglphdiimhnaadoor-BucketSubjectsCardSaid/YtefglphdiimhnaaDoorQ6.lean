-- printed by wip/hp.py (the session's driver of the print, with hand-proved contracts)
import Derived.Test.YtefglphdiimhnaaDoorQ0
import Derived.Test.YtefglphdiimhnaaDoorQ5
namespace Go.Proofs.YtefglphdiimhnaaDoor.Q
open Go.RowKit Go.Proofs.YtefglphdiimhnaaDoorW.PrintWords Go.Proofs.YtefglphdiimhnaaDoorW.PrintLast Go.Proofs.YtefglphdiimhnaaDoorW.PrintMore
attribute [local go_sem] max2_int min2_int max_two min_two max_three min_three max_four min_four   -- for this text's walks alone
set_option linter.unusedVariables false
set_option linter.unusedSimpArgs false

/-! ### digest_Hash: function 48 -/
def digest_Hash.f (k : Nat) (a0 : Int) (l1 : List (List Int)) : Option (Int) := (digest_Frame.f k l1).bind fun t115 => ((digest_Sum.f a0 0 t115).bind fun t118 => (some t118))
theorem digest_Hash.mono : ∀ a0 a1 k, LeO (digest_Hash.f k a0 a1) (digest_Hash.f (k + 1) a0 a1) := by
  intro a0 a1 k
  unfold digest_Hash.f
  repeat' first
      | (with_reducible exact digest_Frame.mono _ _)
      | (with_reducible exact LeO.refl _)
      | (with_reducible exact LeO.none _)
      | (with_reducible refine LeO.ite ?_ ?_)
      | (with_reducible refine LeO.bind ?_ (fun _ => ?_))
      | exact digest_Frame.mono _ _
      | exact LeO.none _
      | refine LeO.ite ?_ ?_
      | refine LeO.bind ?_ (fun _ => ?_)
set_option maxHeartbeats 8000000 in
set_option maxRecDepth 100000 in
theorem digest_Hash.calls (k : Nat) (a0 : Int) (A1 : Option Addr) (c1 : Nat) (l1 : List (List Int)) (r : Int) (w : World) (hr1 : Kd.C (Kd.slice 5 (Kd.int .u8)) w A1 l1.length l1) (hc1 : l1.length ≤ c1) (h : digest_Hash.f k a0 l1 = some r) :
    Calls Tryd.prog 48 #[.int .u64 a0, .slice A1 l1.length c1] w fun e w' => e = .returned (.int .u64 r) ∧ Below w.heap.size w w' := by
  have HR1 := Aside0.mk hr1; have HC1 := Aside0.mk hc1; clear hr1 hc1
  have HB := Aside0.mk (Below.refl w.heap.size w)
  have H : ((digest_Frame.f k l1).bind fun t115 => ((digest_Sum.f a0 0 t115).bind fun t118 => (some t118))) = some r := h
  clear h; replace H := Option.bind_eq_some_iff.mp H; obtain ⟨t115, A30, H⟩ := H
  replace H : ((digest_Sum.f a0 0 t115).bind fun t118 => (some t118)) = some r := H
  have A3 := Aside0.mk A30; clear A30; replace H := Option.bind_eq_some_iff.mp H; obtain ⟨t118, A40, H⟩ := H
  replace H : (some t118) = some r := H
  have A4 := Aside0.mk A40; clear A40
  obtain rfl := Option.some.inj H
  go_enter Tryd.func48, Tryd.ntmps48
  go_wp2_with (first | ((with_reducible refine gate_callee (f := 58) rfl ?_); refine goesL_ (some 7) rfl rfl Tryd.func58 (by kernel_rfl) rfl #[.slice A1 l1.length c1] rfl (by (try simp only [List.map_toArray, List.map_cons, List.map_nil]); first | done | rfl | (simp only [List.length_drop, List.length_take]; rfl)) ?_; (with_reducible refine (digest_Frame.calls k _ _ l1 t115 _ ?side1 ?side2 A3.out).mono ?_); (case side1 => repeat (first | exact HR1.out | (with_reducible refine Kd.C_alloc ?_ _) | (with_reducible refine Kd.C_drewN ?_ _) | (with_reducible refine Kd.C_drew ?_))); (case side2 => exact HC1.out); rintro e w5 ⟨v116, rfl, ho0, hb⟩; refine ⟨_, rfl, ?_⟩; have n0_ := Aside0.mk (Kd.R_lower ho0 (below_size (by repeat (first | (with_reducible first|exact HB.out|apply zE|apply zB|apply zC) | exact HB.out)))); have n1_ := Aside0.mk (below_step (by repeat (first | (with_reducible first|exact HB.out|apply zE|apply zB|apply zC) | exact HB.out)) hb); clear HB; have HO117 := n0_; have HB := n1_; clear n0_ n1_; (try clear hb); (try clear hb2); (try clear hk); (try clear hi); (try clear hge); (try clear ho0); obtain ⟨Ao6, co6, eo6⟩ := Kd.R_slice HO117.out; subst eo6) | ((with_reducible refine gate_callee (f := 57) rfl ?_); refine goesL_ (some 8) rfl rfl Tryd.func57 (by kernel_rfl) rfl #[.int .u64 a0, .int .u64 0, .slice Ao6 t115.length co6] rfl (by (try simp only [List.map_toArray, List.map_cons, List.map_nil]); first | done | rfl | (simp only [List.length_drop, List.length_take]; rfl)) ?_; (with_reducible refine (digest_Sum.calls a0 0 _ _ t115 t118 _ ?side1 ?side2 A4.out).mono ?_); (case side1 => repeat (first | exact (Kd.R_reads' HO117.out).2.2 | (with_reducible refine Kd.C_alloc ?_ _) | (with_reducible refine Kd.C_drewN ?_ _) | (with_reducible refine Kd.C_drew ?_))); (case side2 => exact (Kd.R_reads' HO117.out).2.1); rintro e w7 ⟨rfl, hb⟩; refine ⟨_, rfl, ?_⟩; have n0_ := Aside0.mk (Kd.R_below (by (with_reducible repeat (first | apply Kd.R_alloc | apply Kd.R_drewN | apply Kd.R_drew)); exact HO117.out) hb); have n1_ := Aside0.mk (below_step (by repeat (first | (with_reducible first|exact HB.out|apply zE|apply zB|apply zC) | exact HB.out)) hb); clear HO117 HB; have HO117 := n0_; have HB := n1_; clear n0_ n1_; (try clear hb); (try clear hb2); (try clear hk); (try clear hi); (try clear hge)))
  go_ret
  exact ⟨by first | rfl | (simp [errW_none, errW_some] <;> rfl) | (simp [*, errW_none, errW_some] <;> rfl), by repeat (first | (with_reducible first|exact HB.out|apply zE|apply zB|apply zC) | exact HB.out)⟩

/-! ### bucket_Of: function 30 -/
/-- Two slices of bytes that lie in a block, as a slice of slices. -/
theorem two_slices {W : World} {g2 : Nat} {T : Nat} {A1 A2 : Option Addr} {c1 c2 : Nat} {x y : List Int} (hb : W.heap[g2]? = some (.cells #[.slice A1 x.length c1, .slice A2 y.length c2] T (0, 0))) (h1 : Kd.C (Kd.int .u8) W A1 x.length x) (hc1 : x.length ≤ c1) (h2 : Kd.C (Kd.int .u8) W A2 y.length y) (hc2 : y.length ≤ c2) :
    Kd.C (Kd.slice 5 (Kd.int .u8)) W (some ⟨g2, 0, none⟩) [x, y].length [x, y] := by
  refine ⟨rfl, by simp, fun _ => ⟨_, rfl, fun j p hp => ?_⟩⟩
  rcases j with _ | _ | j
  · obtain rfl : x = p := by simpa using hp
    refine ⟨[.slice A1 x.length c1], rfl, ⟨A1, c1, rfl, hc1, h1⟩, fun i u hu => ?_⟩
    rcases i with _ | i
    · rw [add_plain, blk_cell hb]; simpa using hu
    · simp at hu
  · obtain rfl : y = p := by simpa using hp
    refine ⟨[.slice A2 y.length c2], rfl, ⟨A2, c2, rfl, hc2, h2⟩, fun i u hu => ?_⟩
    rcases i with _ | i
    · rw [add_plain, blk_cell hb]
      obtain rfl : Value.slice A2 y.length c2 = u := by simpa using hu
      rfl
    · simp at hu
  · simp at hp
set_option maxRecDepth 100000 in
set_option maxHeartbeats 4000000 in
theorem of_any (k : Nat) (s t : ByteArray) (r : Int) (w : World) (hs : s.size ≤ 9223372036854775807) (ht : t.size ≤ 9223372036854775807) (h : digest_Hash.f k 1 [bytesOf s, bytesOf t] = some r) (hr : 0 ≤ r) :
    Calls Tryd.prog 30 #[.string s, .string t] w fun e w' => e = .returned (.int .i64 (r % 10000)) ∧ Below w.heap.size w w' := by
  have HS := Aside0.mk hs; have HT := Aside0.mk ht; have H := Aside0.mk h
  have kb := fun (s : ByteArray) (W : World) => print_bytes (P := Tryd.prog) 9 24 5 Tryd.underlying9 Tryd.underlying24 Tryd.underlying5 s W
  have kz := fun (s : ByteArray) (W : World) => Lib.bytesWorld_size W 5 s
  clear hs ht h
  go_enter Tryd.func30, Tryd.ntmps30
  have hC1 : Kd.C (Kd.int .u8) (Lib.bytesWorld w 5 s) (some ⟨w.heap.size, 0, none⟩) (bytesOf s).length (bytesOf s) := by
    rw [bytesOf_length]
    exact Kd.C_of_reads (d := (0 : Int)) (h1 := fun _ => rfl) (bytes_reads w 5 s HS.out)
  have hC2 : Kd.C (Kd.int .u8) (Lib.bytesWorld (Lib.bytesWorld w 5 s) 5 t) (some ⟨w.heap.size + 1, 0, none⟩) (bytesOf t).length (bytesOf t) := by
    have h := bytes_reads (Lib.bytesWorld w 5 s) 5 t HT.out
    rw [kz] at h
    rw [bytesOf_length]
    exact Kd.C_of_reads (d := (0 : Int)) (h1 := fun _ => rfl) h
  have hB1 := bytes_below (Below.refl w.heap.size w) (Nat.le_refl _) 5 s
  have hB2 := bytes_below (Below.refl (Lib.bytesWorld w 5 s).heap.size (Lib.bytesWorld w 5 s)) (Nat.le_refl _) 5 t
  have hC1' := Kd.C_below hC1 hB2
  have HB2 := Aside0.mk (below_then hB1 hB1.size hB2)
  obtain ⟨O, hO⟩ : ∃ O : Obj, O = Obj.cells #[Value.slice (some ⟨w.heap.size, 0, none⟩) s.size (grownCap w s.size 0 5), Value.slice (some ⟨w.heap.size + 1, 0, none⟩) t.size (grownCap (Lib.bytesWorld w 5 s) t.size 0 5)] 24 := ⟨_, rfl⟩
  have hb := blk_new (Lib.bytesWorld (Lib.bytesWorld w 5 s) 5 t) O
  rw [kz, kz] at hb
  have h2 : Kd.C (Kd.slice 5 (Kd.int .u8)) ((Lib.bytesWorld (Lib.bytesWorld w 5 s) 5 t).alloc O) (some ⟨w.heap.size + 1 + 1, 0, none⟩) [bytesOf s, bytesOf t].length [bytesOf s, bytesOf t] := by
    refine two_slices (T := 24) (A1 := some ⟨w.heap.size, 0, none⟩) (c1 := grownCap w s.size 0 5) (A2 := some ⟨w.heap.size + 1, 0, none⟩) (c2 := grownCap (Lib.bytesWorld w 5 s) t.size 0 5) ?_ (Kd.C_alloc hC1' O) ?_ (Kd.C_alloc hC2 O) ?_
    · rw [hb, hO, bytesOf_length, bytesOf_length]
    · rw [bytesOf_length]; exact grownCap_ge ..
    · rw [bytesOf_length]; exact grownCap_ge ..
  rw [hO] at h2
  have H2 := Aside0.mk h2
  have HB3 := Aside0.mk (HB2.out.alloc (o := O) HB2.out.size |> fun h => by rw [hO] at h; exact h)
  clear hC1 hC2 hB1 hB2 hC1' hO hb h2
  go_wp2_with fail
  refine (digest_Hash.calls k 1 (some ⟨w.heap.size + 1 + 1, 0, none⟩) 2 [bytesOf s, bytesOf t] r _ H2.out (by simp) H.out).mono ?_
  rintro e w1 ⟨rfl, hb1⟩
  have HB4 := Aside0.mk (below_then HB3.out HB3.out.size hb1)
  clear hb1
  have hr3 : r % 10000 < 10000 := Int.emod_lt_of_pos _ (by omega)
  have hr4 : 0 ≤ r % 10000 := Int.emod_nonneg _ (by omega)
  go_wp2
  go_ret
  exact ⟨rfl, HB4.out⟩
def bucket_Of.f (k : Nat) (a0 : ByteArray) (a1 : ByteArray) : Option Int := if a0.size ≤ 140737488355328 ∧ a1.size ≤ 140737488355328 then ((digest_Hash.f k 1 [bytesOf a0, bytesOf a1]).bind fun r => if 0 ≤ r then some (r % 10000) else none) else none
theorem bucket_Of.mono : ∀ a0 a1 k, LeO (bucket_Of.f k a0 a1) (bucket_Of.f (k + 1) a0 a1) := fun a0 a1 k => by
  unfold bucket_Of.f
  exact LeO.ite (LeO.bind (digest_Hash.mono _ _ _) (fun _ => LeO.refl _)) (LeO.refl _)
theorem bucket_Of.calls (k : Nat) (a0 : ByteArray) (a1 : ByteArray) (r : Int) (w : World) (h : bucket_Of.f k a0 a1 = some r) :
    Calls Tryd.prog 30 #[.string a0, .string a1] w fun e w' => e = .returned (.int .i64 r) ∧ Below w.heap.size w w' := by
  unfold bucket_Of.f at h
  by_cases hc : a0.size ≤ 140737488355328 ∧ a1.size ≤ 140737488355328
  · rw [if_pos hc] at h
    obtain ⟨q, hq, h⟩ := Option.bind_eq_some_iff.1 h
    by_cases h0 : 0 ≤ q
    · rw [if_pos h0] at h
      obtain rfl := Option.some.inj h
      exact of_any k a0 a1 q w (by omega) (by omega) hq h0
    · rw [if_neg h0] at h
      cases h
  · rw [if_neg hc] at h
    cases h

/-! ### flagstoneref2_state_rounds: function 68 -/
def flagstoneref2_state_rounds.f (a0_0 : Int) (a0_1 : Int) (a0_2 : Int) (a0_3 : Int) (a1 : Int) : Option (Int × Int × Int × Int) := if 0 ≤ a1 ∧ a1 ≤ 100 then some (sipN a1.toNat (a0_0, a0_1, a0_2, a0_3)) else none
theorem flagstoneref2_state_rounds.calls (a0_0 : Int) (a0_1 : Int) (a0_2 : Int) (a0_3 : Int) (a1 : Int) (r1 : Int) (r2 : Int) (r3 : Int) (r4 : Int) (w : World) (h : flagstoneref2_state_rounds.f a0_0 a0_1 a0_2 a0_3 a1 = some (r1, r2, r3, r4)) :
    Calls Tryd.prog 68 #[.agg #[.int .u64 a0_0, .int .u64 a0_1, .int .u64 a0_2, .int .u64 a0_3], .int .i64 a1] w fun e w' => e = .returned (.agg #[.int .u64 r1, .int .u64 r2, .int .u64 r3, .int .u64 r4]) ∧ Below w.heap.size w w' := by
  unfold flagstoneref2_state_rounds.f at h
  by_cases hc : 0 ≤ a1 ∧ a1 ≤ 100
  · rw [if_pos hc] at h
    obtain ⟨n, rfl⟩ : ∃ n : Nat, (n : Int) = a1 := ⟨a1.toNat, by omega⟩
    rw [Int.toNat_natCast] at h
    have e := Option.some.inj h
    have hh := ref_rounds_any n (by omega) a0_0 a0_1 a0_2 a0_3 w
    rw [e] at hh
    exact hh
  · rw [if_neg hc] at h
    cases h

/-! ### flagstoneref2_Sum: function 59 -/
mutual
def flagstoneref2_Sum.l0 : Nat → List Int → Int → Int → Int → Int → Int → Option (Int)
  | 0, _, _, _, _, _, _ => none
  | k + 1, x2, x8, x120000, x120001, x120002, x120003 => if x8 ≤ (wrap64 ((x2.length : Int) / 8)) then (flagstoneref2_Sum.l1 k x2 x8 0 0 x120000 x120001 x120002 x120003) else ((flagstoneref2_state_rounds.f x120000 x120001 (Go.bits .xor .u64 x120002 255) x120003 4).bind fun bt120 => (some (Go.bits .xor .u64 (Go.bits .xor .u64 (Go.bits .xor .u64 bt120.1 bt120.2.1) bt120.2.2.1) bt120.2.2.2)))
def flagstoneref2_Sum.l1 : Nat → List Int → Int → Int → Int → Int → Int → Int → Int → Option (Int)
  | 0, _, _, _, _, _, _, _, _ => none
  | k + 1, x2, x8, x9, x10, x120000, x120001, x120002, x120003 => if x10 < 8 then (if (wrap64 ((wrap64 (8 * x8)) + x10)) < (x2.length : Int) then (if 0 ≤ (wrap64 ((wrap64 (8 * x8)) + x10)) then (if 0 ≤ (IntKind.u64.wrap (wrap64 (8 * x10))) then (flagstoneref2_Sum.l1 k x2 x8 (Go.bits .or .u64 x9 (shl .u64 (IntKind.u64.wrap (rd x2 (wrap64 ((wrap64 (8 * x8)) + x10)))) (IntKind.u64.wrap (wrap64 (8 * x10))))) (wrap64 (x10 + 1)) x120000 x120001 x120002 x120003) else (none)) else (none)) else (if x8 = (wrap64 ((x2.length : Int) / 8)) then ((flagstoneref2_state_rounds.f x120000 x120001 x120002 (Go.bits .xor .u64 x120003 (Go.bits .or .u64 x9 (((x2.length : Int) % 256) * 72057594037927936))) 2).bind fun bt125 => (flagstoneref2_Sum.l0 k x2 (wrap64 (x8 + 1)) (Go.bits .xor .u64 bt125.1 (Go.bits .or .u64 x9 (((x2.length : Int) % 256) * 72057594037927936))) bt125.2.1 bt125.2.2.1 bt125.2.2.2)) else ((flagstoneref2_state_rounds.f x120000 x120001 x120002 (Go.bits .xor .u64 x120003 x9) 2).bind fun bt129 => (flagstoneref2_Sum.l0 k x2 (wrap64 (x8 + 1)) (Go.bits .xor .u64 bt129.1 x9) bt129.2.1 bt129.2.2.1 bt129.2.2.2)))) else (if x8 = (wrap64 ((x2.length : Int) / 8)) then ((flagstoneref2_state_rounds.f x120000 x120001 x120002 (Go.bits .xor .u64 x120003 (Go.bits .or .u64 x9 (((x2.length : Int) % 256) * 72057594037927936))) 2).bind fun bt133 => (flagstoneref2_Sum.l0 k x2 (wrap64 (x8 + 1)) (Go.bits .xor .u64 bt133.1 (Go.bits .or .u64 x9 (((x2.length : Int) % 256) * 72057594037927936))) bt133.2.1 bt133.2.2.1 bt133.2.2.2)) else ((flagstoneref2_state_rounds.f x120000 x120001 x120002 (Go.bits .xor .u64 x120003 x9) 2).bind fun bt137 => (flagstoneref2_Sum.l0 k x2 (wrap64 (x8 + 1)) (Go.bits .xor .u64 bt137.1 x9) bt137.2.1 bt137.2.2.1 bt137.2.2.2)))
end
def flagstoneref2_Sum.f (k : Nat) (a0 : Int) (a1 : Int) (l2 : List Int) : Option (Int) := flagstoneref2_Sum.l0 k l2 0 (Go.bits .xor .u64 a0 8317987319222330741) (Go.bits .xor .u64 a1 7237128888997146477) (Go.bits .xor .u64 a0 7816392313619706465) (Go.bits .xor .u64 a1 8387220255154660723)
theorem flagstoneref2_Sum.mono_l : ∀ k, (∀ y0 y1 y2 y3 y4 y5, LeO (flagstoneref2_Sum.l0 k y0 y1 y2 y3 y4 y5) (flagstoneref2_Sum.l0 (k + 1) y0 y1 y2 y3 y4 y5)) ∧ (∀ y0 y1 y2 y3 y4 y5 y6 y7, LeO (flagstoneref2_Sum.l1 k y0 y1 y2 y3 y4 y5 y6 y7) (flagstoneref2_Sum.l1 (k + 1) y0 y1 y2 y3 y4 y5 y6 y7))
  | 0 => ⟨fun _ _ _ _ _ _ r h => by simp [flagstoneref2_Sum.l0] at h, fun _ _ _ _ _ _ _ _ r h => by simp [flagstoneref2_Sum.l1] at h⟩
  | k + 1 => by
    obtain ⟨ih0, ih1⟩ := flagstoneref2_Sum.mono_l k
    refine ⟨?_, ?_⟩
    · intro y0 y1 y2 y3 y4 y5
      unfold flagstoneref2_Sum.l0
      repeat' first
      | (with_reducible exact ih0 _ _ _ _ _ _)
      | (with_reducible exact ih1 _ _ _ _ _ _ _ _)
      | (with_reducible exact LeO.refl _)
      | (with_reducible exact LeO.none _)
      | (with_reducible refine LeO.ite ?_ ?_)
      | (with_reducible refine LeO.bind ?_ (fun _ => ?_))
      | exact ih0 _ _ _ _ _ _
      | exact ih1 _ _ _ _ _ _ _ _
      | exact LeO.none _
      | refine LeO.ite ?_ ?_
      | refine LeO.bind ?_ (fun _ => ?_)
    · intro y0 y1 y2 y3 y4 y5 y6 y7
      unfold flagstoneref2_Sum.l1
      repeat' first
      | (with_reducible exact ih0 _ _ _ _ _ _)
      | (with_reducible exact ih1 _ _ _ _ _ _ _ _)
      | (with_reducible exact LeO.refl _)
      | (with_reducible exact LeO.none _)
      | (with_reducible refine LeO.ite ?_ ?_)
      | (with_reducible refine LeO.bind ?_ (fun _ => ?_))
      | exact ih0 _ _ _ _ _ _
      | exact ih1 _ _ _ _ _ _ _ _
      | exact LeO.none _
      | refine LeO.ite ?_ ?_
      | refine LeO.bind ?_ (fun _ => ?_)
theorem flagstoneref2_Sum.mono : ∀ a0 a1 a2 k, LeO (flagstoneref2_Sum.f k a0 a1 a2) (flagstoneref2_Sum.f (k + 1) a0 a1 a2) := by
  intro a0 a1 a2 k
  obtain ⟨ih0, ih1⟩ := flagstoneref2_Sum.mono_l k
  unfold flagstoneref2_Sum.f
  repeat' first
      | (with_reducible exact ih0 _ _ _ _ _ _)
      | (with_reducible exact ih1 _ _ _ _ _ _ _ _)
      | (with_reducible exact LeO.refl _)
      | (with_reducible exact LeO.none _)
      | (with_reducible refine LeO.ite ?_ ?_)
      | (with_reducible refine LeO.bind ?_ (fun _ => ?_))
      | exact ih0 _ _ _ _ _ _
      | exact ih1 _ _ _ _ _ _ _ _
      | exact LeO.none _
      | refine LeO.ite ?_ ?_
      | refine LeO.bind ?_ (fun _ => ?_)
set_option maxHeartbeats 8000000 in
set_option maxRecDepth 100000 in
theorem flagstoneref2_Sum.calls (k : Nat) (a0 : Int) (a1 : Int) (A2 : Option Addr) (c2 : Nat) (l2 : List Int) (r : Int) (w : World) (hr2 : Kd.C (Kd.int .u8) w A2 l2.length l2) (hc2 : l2.length ≤ c2) (h : flagstoneref2_Sum.f k a0 a1 l2 = some r) :
    Calls Tryd.prog 59 #[.int .u64 a0, .int .u64 a1, .slice A2 l2.length c2] w fun e w' => e = .returned (.int .u64 r) ∧ Below w.heap.size w w' := by
  have hu110 := Tryd.underlying110; have HR2 := Aside0.mk hr2; have HC2 := Aside0.mk hc2; clear hr2 hc2
  have HB := Aside0.mk (Below.refl w.heap.size w)
  have H : (flagstoneref2_Sum.l0 k l2 0 (Go.bits .xor .u64 a0 8317987319222330741) (Go.bits .xor .u64 a1 7237128888997146477) (Go.bits .xor .u64 a0 7816392313619706465) (Go.bits .xor .u64 a1 8387220255154660723)) = some r := h
  clear h; have H' := Aside0.mk H; clear H
  go_enter Tryd.func59, Tryd.ntmps59
  go_wp2_with (first | ((with_reducible refine gate_dst (N := 7) rfl ?_); (try (refine gate_guard (by rfl) ?_; dsimp only)); refine box_event ?hg (N := 7) ?hd (cs := #[.int .u64 0, .int .u64 0, .int .u64 0, .int .u64 0]) (t := 110) ?hr ?_; (case hd => rfl); (case hg => rfl); (case hr => first | (go_simp; done) | (go_simp; rfl)); intro gb119 hg w4 hbox hb; have n0_ := Aside0.mk (below_step (by repeat (first | (with_reducible first|exact HB.out|apply zE|apply zB|apply zC) | exact HB.out)) hb); have n1_ := Aside0.mk (hbox); have n2_ := Aside0.mk ((by rw [hg]; exact (below_size (by repeat (first | (with_reducible first|exact HB.out|apply zE|apply zB|apply zC) | exact HB.out))) : w.heap.size ≤ gb119)); have n3_ := Aside0.mk ((by rw [hg]; exact (below_size (by repeat (first | (with_reducible first|exact HB.out|apply zE|apply zB|apply zC) | exact HB.out))) : w.heap.size ≤ gb119)); clear HB; have HB := n0_; have BK119 := n1_; have GW119 := n2_; have GE119 := n3_; clear n0_ n1_ n2_ n3_ hb hbox hg; have hcz5_0 : w4.cell? ⟨gb119, 0, none⟩ = some (.int .u64 0) := (blk_cell BK119.out 0).trans rfl; have hcz5_1 : w4.cell? ⟨gb119, 1, none⟩ = some (.int .u64 0) := (blk_cell BK119.out 1).trans rfl; have hcz5_2 : w4.cell? ⟨gb119, 2, none⟩ = some (.int .u64 0) := (blk_cell BK119.out 2).trans rfl; have hcz5_3 : w4.cell? ⟨gb119, 3, none⟩ = some (.int .u64 0) := (blk_cell BK119.out 3).trans rfl; have hfz5_0 := blk_frozen BK119.out 0; have hfz5_1 := blk_frozen BK119.out 1; have hfz5_2 := blk_frozen BK119.out 2; have hfz5_3 := blk_frozen BK119.out 3))
  go_loopg [8] k (fun kq v8 w' => ∃ (x8_1 : Int) (x120000_1 : Int) (x120001_1 : Int) (x120002_1 : Int) (x120003_1 : Int), v8 = .int .i64 x8_1 ∧ Aside0 (flagstoneref2_Sum.l0 kq l2 x8_1 x120000_1 x120001_1 x120002_1 x120003_1 = some r) ∧ Aside0 (kq ≤ k) ∧ Aside0 (w'.heap[gb119]? = some (.cells #[.int .u64 x120000_1, .int .u64 x120001_1, .int .u64 x120002_1, .int .u64 x120003_1] 110 (0, 0))) ∧ Aside0 (Below w.heap.size w w'))
  case atStart => exact ⟨(0), (Go.bits .xor .u64 a0 8317987319222330741), (Go.bits .xor .u64 a1 7237128888997146477), (Go.bits .xor .u64 a0 7816392313619706465), (Go.bits .xor .u64 a1 8387220255154660723), (by first | rfl | (simp; done) | (simp [*]; done)), H', ⟨Nat.le_refl _⟩, ⟨by (with_reducible repeat (first|refine zN ?_ _|refine zD ?_|refine zA ?_ _)); refine blk_put (cs := #[.int .u64 (Go.bits .xor .u64 a0 8317987319222330741), .int .u64 (Go.bits .xor .u64 a1 7237128888997146477), .int .u64 (Go.bits .xor .u64 a0 7816392313619706465), .int .u64 0]) ?_ 3 _ rfl; (with_reducible repeat (first|refine zN ?_ _|refine zD ?_|refine zA ?_ _)); refine blk_put (cs := #[.int .u64 (Go.bits .xor .u64 a0 8317987319222330741), .int .u64 (Go.bits .xor .u64 a1 7237128888997146477), .int .u64 0, .int .u64 0]) ?_ 2 _ rfl; (with_reducible repeat (first|refine zN ?_ _|refine zD ?_|refine zA ?_ _)); refine blk_put (cs := #[.int .u64 (Go.bits .xor .u64 a0 8317987319222330741), .int .u64 0, .int .u64 0, .int .u64 0]) ?_ 1 _ rfl; (with_reducible repeat (first|refine zN ?_ _|refine zD ?_|refine zA ?_ _)); refine blk_put (cs := #[.int .u64 0, .int .u64 0, .int .u64 0, .int .u64 0]) ?_ 0 _ rfl; (with_reducible repeat (first|refine zN ?_ _|refine zD ?_|refine zA ?_ _)); exact BK119.out⟩, ⟨by repeat (first | (with_reducible first|exact HB.out|apply zE|apply zB|apply zC | refine zJ ?_ GE119.out) | exact HB.out)⟩⟩
  case round =>
    clear H'; (try clear c2); (try clear p2); (try clear c5); (try clear hcz5_0); (try clear hcz5_1); (try clear hcz5_2); (try clear hcz5_3); (try clear hfz5_0); (try clear hfz5_1); (try clear hfz5_2); (try clear hfz5_3)
    obtain ⟨x8_1, x120000_1, x120001_1, x120002_1, x120003_1, rfl, HA, HK1, BK119, HB⟩ := hrel
    cases gk with
    | zero => exact absurd HA.out (by simp [flagstoneref2_Sum.l0])
    | succ k1 =>
      have H := HA.out; clear HA
      simp only [flagstoneref2_Sum.l0] at H
      by_cases c6 : x8_1 ≤ (wrap64 ((l2.length : Int) / 8))
      · rw [if_pos c6] at H
        have c6b0 : decide (x8_1 ≤ (wrap64 ((l2.length : Int) / 8))) = true := decide_eq_true c6
        clear c6; have H' := Aside0.mk H; clear H
        go_wp2
        go_loopg [9, 10] k1 (fun kq v9 v10 w' => ∃ (x9_2 : Int) (x10_2 : Int), v9 = .int .u64 x9_2 ∧ v10 = .int .i64 x10_2 ∧ Aside0 (flagstoneref2_Sum.l1 kq l2 x8_1 x9_2 x10_2 x120000_1 x120001_1 x120002_1 x120003_1 = some r) ∧ Aside0 (kq ≤ k1) ∧ Aside0 (w'.heap[gb119]? = some (.cells #[.int .u64 x120000_1, .int .u64 x120001_1, .int .u64 x120002_1, .int .u64 x120003_1] 110 (0, 0))) ∧ Aside0 (Below w.heap.size w w'))
        case atStart => exact ⟨(0), (0), (by first | rfl | (simp; done) | (simp [*]; done)), (by first | rfl | (simp; done) | (simp [*]; done)), H', ⟨Nat.le_refl _⟩, ⟨by (with_reducible repeat (first|refine zN ?_ _|refine zD ?_|refine zA ?_ _)); exact BK119.out⟩, ⟨by repeat (first | (with_reducible first|exact HB.out|apply zE|apply zB|apply zC | refine zJ ?_ GE119.out) | exact HB.out)⟩⟩
        case round =>
          clear H'; (try clear c2); (try clear p2); (try clear c5); (try clear c6); (try clear c6b0); (try clear p6); (try clear hcz5_0); (try clear hcz5_1); (try clear hcz5_2); (try clear hcz5_3); (try clear hfz5_0); (try clear hfz5_1); (try clear hfz5_2); (try clear hfz5_3); (try clear p2)
          obtain ⟨x9_2, x10_2, rfl, rfl, HA, HK2, BK119, HB⟩ := hrel
          cases gk with
          | zero => exact absurd HA.out (by simp [flagstoneref2_Sum.l1])
          | succ k2 =>
            have H := HA.out; clear HA
            simp only [flagstoneref2_Sum.l1] at H
            by_cases c7 : x10_2 < 8
            · rw [if_pos c7] at H
              have c7b0 : decide (x10_2 < 8) = true := decide_eq_true c7
              clear c7
              by_cases c8 : (wrap64 ((wrap64 (8 * x8_1)) + x10_2)) < (l2.length : Int)
              · rw [if_pos c8] at H
                have c8b0 : decide ((wrap64 ((wrap64 (8 * x8_1)) + x10_2)) < (l2.length : Int)) = true := decide_eq_true c8
                clear c8
                obtain ⟨ji9, hji9⟩ : ∃ j_ : Int, (wrap64 ((wrap64 (8 * x8_1)) + x10_2)) = j_ := ⟨_, rfl⟩
                replace H : (if 0 ≤ (ji9) then (if 0 ≤ (IntKind.u64.wrap (wrap64 (8 * x10_2))) then (flagstoneref2_Sum.l1 k2 l2 x8_1 (Go.bits .or .u64 x9_2 (shl .u64 (IntKind.u64.wrap (rd l2 (ji9))) (IntKind.u64.wrap (wrap64 (8 * x10_2))))) (wrap64 (x10_2 + 1)) x120000_1 x120001_1 x120002_1 x120003_1) else (none)) else (none)) = some r := by first | (rw [hji9] at H; exact H) | (simp only [hji9] at H ⊢; exact H)
                (try rw [hji9] at c8b0)
                have hji9w : (IntKind.i64.wrap ((wrap64 (8 * x8_1)) + x10_2)) = ji9 := (i64_w _).trans hji9
                by_cases c10 : 0 ≤ (ji9)
                · rw [if_pos c10] at H
                  have c10b0 : decide (0 ≤ (ji9)) = true := decide_eq_true c10
                  clear c10
                  obtain ⟨ji11, hji11⟩ : ∃ j_ : Int, (IntKind.u64.wrap (wrap64 (8 * x10_2))) = j_ := ⟨_, rfl⟩
                  replace H : (if 0 ≤ (ji11) then (flagstoneref2_Sum.l1 k2 l2 x8_1 (Go.bits .or .u64 x9_2 (shl .u64 (IntKind.u64.wrap (rd l2 (ji9))) (ji11))) (wrap64 (x10_2 + 1)) x120000_1 x120001_1 x120002_1 x120003_1) else (none)) = some r := by first | (rw [hji11] at H; exact H) | (simp only [hji11] at H ⊢; exact H)
                  by_cases c12 : 0 ≤ (ji11)
                  · rw [if_pos c12] at H
                    have c12b0 := eq_true c12
                    have c12b1 : decide (0 ≤ (ji11)) = true := decide_eq_true c12
                    clear c12
                    obtain ⟨ji13, hji13⟩ : ∃ j_ : Int, (shl .u64 (IntKind.u64.wrap (rd l2 (ji9))) (ji11)) = j_ := ⟨_, rfl⟩
                    replace H : (flagstoneref2_Sum.l1 k2 l2 x8_1 (Go.bits .or .u64 x9_2 (ji13)) (wrap64 (x10_2 + 1)) x120000_1 x120001_1 x120002_1 x120003_1) = some r := by first | (rw [hji13] at H; exact H) | (simp only [hji13] at H ⊢; exact H)
                    have hji13_ : (IntKind.u64.wrap ((IntKind.u64.wrap (rd l2 (ji9))) * 2 ^ min (ji11).toNat 64)) = ji13 := hji13
                    have hji13z : (ji11) ≤ 64 → (IntKind.u64.wrap ((IntKind.u64.wrap (rd l2 (ji9))) * 2 ^ (ji11).toNat)) = ji13 := shl_small hji13
                    have H' := Aside0.mk H; clear H
                    have p124 : 0 ≤ ((ji9) : Int) := of_decide_eq_true (by first | (with_reducible assumption) | assumption)
                    have q124 : (ji9) < (l2.length : Int) := of_decide_eq_true (by first | (with_reducible assumption) | assumption)
                    obtain ⟨ad124, e124, hx124_0⟩ := Kd.at_int HR2.out (ji9) p124 q124
                    cases e124
                    replace hx124_0 := (HB.out.cell (World.block_lt_of_cell? w _ hx124_0)).trans hx124_0
                    replace p124 := eq_true p124
                    replace q124 := eq_true q124
                    go_wp2
                    go_roundg k2
                    case measure => have := HK1.out; have := HK2.out; omega
                    case rel => exact ⟨(Go.bits .or .u64 x9_2 (ji13)), (wrap64 (x10_2 + 1)), (by first | rfl | (simp; done) | (simp only [← hji13] <;> (first | rfl | simp)) | (simp [*]; done)), (by first | rfl | (simp; done) | (simp [*]; done)), H', ⟨by have := HK1.out; have := HK2.out; omega⟩, ⟨by (with_reducible repeat (first|refine zN ?_ _|refine zD ?_|refine zA ?_ _)); exact BK119.out⟩, ⟨by repeat (first | (with_reducible first|exact HB.out|apply zE|apply zB|apply zC | refine zJ ?_ GE119.out) | exact HB.out)⟩⟩
                  · rw [if_neg c12] at H
                    exact absurd H (by simp)
                · rw [if_neg c10] at H
                  exact absurd H (by simp)
              · rw [if_neg c8] at H
                have c8b0 : decide ((wrap64 ((wrap64 (8 * x8_1)) + x10_2)) < (l2.length : Int)) = false := decide_eq_false c8
                clear c8
                by_cases c14 : x8_1 = (wrap64 ((l2.length : Int) / 8))
                · rw [if_pos c14] at H
                  have c14b0 : (x8_1 == (wrap64 ((l2.length : Int) / 8))) = true := beq_iff_eq.mpr c14
                  have c14b1 : (x8_1 != (wrap64 ((l2.length : Int) / 8))) = false := bne_eq_false_iff_eq.mpr c14
                  clear c14; replace H := Option.bind_eq_some_iff.mp H
                  obtain ⟨⟨t125, t126, t127, t128⟩, A150, H⟩ := H
                  replace H : (flagstoneref2_Sum.l0 k2 l2 (wrap64 (x8_1 + 1)) (Go.bits .xor .u64 t125 (Go.bits .or .u64 x9_2 (((l2.length : Int) % 256) * 72057594037927936))) t126 t127 t128) = some r := H
                  have A15 := Aside0.mk A150; clear A150; have H' := Aside0.mk H; clear H
                  have hcz16_0 : wr.cell? ⟨gb119, 0, none⟩ = some (.int .u64 x120000_1) := (blk_cell BK119.out 0).trans rfl
                  have hcz16_1 : wr.cell? ⟨gb119, 1, none⟩ = some (.int .u64 x120001_1) := (blk_cell BK119.out 1).trans rfl
                  have hcz16_2 : wr.cell? ⟨gb119, 2, none⟩ = some (.int .u64 x120002_1) := (blk_cell BK119.out 2).trans rfl
                  have hcz16_3 : wr.cell? ⟨gb119, 3, none⟩ = some (.int .u64 x120003_1) := (blk_cell BK119.out 3).trans rfl
                  have hfz16_0 := blk_frozen BK119.out 0
                  have hfz16_1 := blk_frozen BK119.out 1
                  have hfz16_2 := blk_frozen BK119.out 2
                  have hfz16_3 := blk_frozen BK119.out 3
                  go_wp2_with (first | ((with_reducible refine gate_callee (f := 68) rfl ?_); refine goesL_ (some 72) rfl rfl Tryd.func68 (by kernel_rfl) rfl #[.agg #[.int .u64 x120000_1, .int .u64 x120001_1, .int .u64 x120002_1, .int .u64 (Go.bits .xor .u64 x120003_1 (Go.bits .or .u64 x9_2 (((l2.length : Int) % 256) * 72057594037927936)))], .int .i64 2] rfl (by (try simp only [List.map_toArray, List.map_cons, List.map_nil]); first | done | rfl | (simp only [List.length_drop, List.length_take]; rfl)) ?_; (with_reducible refine (flagstoneref2_state_rounds.calls x120000_1 x120001_1 x120002_1 (Go.bits .xor .u64 x120003_1 (Go.bits .or .u64 x9_2 (((l2.length : Int) % 256) * 72057594037927936))) 2 t125 t126 t127 t128 _ A15.out).mono ?_); rintro e w17 ⟨rfl, hb⟩; refine ⟨_, rfl, ?_⟩; have n0_ := Aside0.mk (blk_below (g := gb119) (o := .cells #[.int .u64 x120000_1, .int .u64 x120001_1, .int .u64 x120002_1, .int .u64 (Go.bits .xor .u64 x120003_1 (Go.bits .or .u64 x9_2 (((l2.length : Int) % 256) * 72057594037927936)))] 110 (0, 0)) (by (with_reducible repeat (first|refine zN ?_ _|refine zD ?_|refine zA ?_ _)); refine blk_put (cs := #[.int .u64 x120000_1, .int .u64 x120001_1, .int .u64 x120002_1, .int .u64 x120003_1]) ?_ 3 _ rfl; (with_reducible repeat (first|refine zN ?_ _|refine zD ?_|refine zA ?_ _)); exact BK119.out) hb); have n1_ := Aside0.mk (below_step (by repeat (first | (with_reducible first|exact HB.out|apply zE|apply zB|apply zC | refine zJ ?_ GE119.out) | exact HB.out)) hb); clear BK119 HB; have BK119 := n0_; have HB := n1_; clear n0_ n1_; (try clear hb); (try clear hb2); (try clear hk); (try clear hi); (try clear hge); have hcz18_0 : w17.cell? ⟨gb119, 0, none⟩ = some (.int .u64 x120000_1) := (blk_cell BK119.out 0).trans rfl; have hcz18_1 : w17.cell? ⟨gb119, 1, none⟩ = some (.int .u64 x120001_1) := (blk_cell BK119.out 1).trans rfl; have hcz18_2 : w17.cell? ⟨gb119, 2, none⟩ = some (.int .u64 x120002_1) := (blk_cell BK119.out 2).trans rfl; have hcz18_3 : w17.cell? ⟨gb119, 3, none⟩ = some (.int .u64 (Go.bits .xor .u64 x120003_1 (Go.bits .or .u64 x9_2 (((l2.length : Int) % 256) * 72057594037927936)))) := (blk_cell BK119.out 3).trans rfl; have hfz18_0 := blk_frozen BK119.out 0; have hfz18_1 := blk_frozen BK119.out 1; have hfz18_2 := blk_frozen BK119.out 2; have hfz18_3 := blk_frozen BK119.out 3))
                  go_roundg k2
                  case measure => have := HK1.out; have := HK2.out; omega
                  case rel => exact ⟨(wrap64 (x8_1 + 1)), (Go.bits .xor .u64 t125 (Go.bits .or .u64 x9_2 (((l2.length : Int) % 256) * 72057594037927936))), (t126), (t127), (t128), (by first | rfl | (simp; done) | (simp [*]; done)), H', ⟨by have := HK1.out; have := HK2.out; omega⟩, ⟨by (with_reducible repeat (first|refine zN ?_ _|refine zD ?_|refine zA ?_ _)); refine blk_put (cs := #[.int .u64 t125, .int .u64 t126, .int .u64 t127, .int .u64 t128]) ?_ 0 _ rfl; (with_reducible repeat (first|refine zN ?_ _|refine zD ?_|refine zA ?_ _)); refine blk_put (cs := #[.int .u64 t125, .int .u64 t126, .int .u64 t127, .int .u64 (Go.bits .xor .u64 x120003_1 (Go.bits .or .u64 x9_2 (((l2.length : Int) % 256) * 72057594037927936)))]) ?_ 3 _ rfl; (with_reducible repeat (first|refine zN ?_ _|refine zD ?_|refine zA ?_ _)); refine blk_put (cs := #[.int .u64 t125, .int .u64 t126, .int .u64 x120002_1, .int .u64 (Go.bits .xor .u64 x120003_1 (Go.bits .or .u64 x9_2 (((l2.length : Int) % 256) * 72057594037927936)))]) ?_ 2 _ rfl; (with_reducible repeat (first|refine zN ?_ _|refine zD ?_|refine zA ?_ _)); refine blk_put (cs := #[.int .u64 t125, .int .u64 x120001_1, .int .u64 x120002_1, .int .u64 (Go.bits .xor .u64 x120003_1 (Go.bits .or .u64 x9_2 (((l2.length : Int) % 256) * 72057594037927936)))]) ?_ 1 _ rfl; (with_reducible repeat (first|refine zN ?_ _|refine zD ?_|refine zA ?_ _)); refine blk_put (cs := #[.int .u64 x120000_1, .int .u64 x120001_1, .int .u64 x120002_1, .int .u64 (Go.bits .xor .u64 x120003_1 (Go.bits .or .u64 x9_2 (((l2.length : Int) % 256) * 72057594037927936)))]) ?_ 0 _ rfl; (with_reducible repeat (first|refine zN ?_ _|refine zD ?_|refine zA ?_ _)); exact BK119.out⟩, ⟨by repeat (first | (with_reducible first|exact HB.out|apply zE|apply zB|apply zC | refine zJ ?_ GE119.out) | exact HB.out)⟩⟩
                · rw [if_neg c14] at H
                  have c14b0 : (x8_1 == (wrap64 ((l2.length : Int) / 8))) = false := beq_eq_false_iff_ne.mpr c14
                  have c14b1 : (x8_1 != (wrap64 ((l2.length : Int) / 8))) = true := bne_iff_ne.mpr c14
                  replace H := Option.bind_eq_some_iff.mp H
                  obtain ⟨⟨t129, t130, t131, t132⟩, A190, H⟩ := H
                  replace H : (flagstoneref2_Sum.l0 k2 l2 (wrap64 (x8_1 + 1)) (Go.bits .xor .u64 t129 x9_2) t130 t131 t132) = some r := H
                  have A19 := Aside0.mk A190; clear A190; have H' := Aside0.mk H; clear H
                  have hcz20_0 : wr.cell? ⟨gb119, 0, none⟩ = some (.int .u64 x120000_1) := (blk_cell BK119.out 0).trans rfl
                  have hcz20_1 : wr.cell? ⟨gb119, 1, none⟩ = some (.int .u64 x120001_1) := (blk_cell BK119.out 1).trans rfl
                  have hcz20_2 : wr.cell? ⟨gb119, 2, none⟩ = some (.int .u64 x120002_1) := (blk_cell BK119.out 2).trans rfl
                  have hcz20_3 : wr.cell? ⟨gb119, 3, none⟩ = some (.int .u64 x120003_1) := (blk_cell BK119.out 3).trans rfl
                  have hfz20_0 := blk_frozen BK119.out 0
                  have hfz20_1 := blk_frozen BK119.out 1
                  have hfz20_2 := blk_frozen BK119.out 2
                  have hfz20_3 := blk_frozen BK119.out 3
                  go_wp2_with (first | ((with_reducible refine gate_callee (f := 68) rfl ?_); refine goesL_ (some 72) rfl rfl Tryd.func68 (by kernel_rfl) rfl #[.agg #[.int .u64 x120000_1, .int .u64 x120001_1, .int .u64 x120002_1, .int .u64 (Go.bits .xor .u64 x120003_1 x9_2)], .int .i64 2] rfl (by (try simp only [List.map_toArray, List.map_cons, List.map_nil]); first | done | rfl | (simp only [List.length_drop, List.length_take]; rfl)) ?_; (with_reducible refine (flagstoneref2_state_rounds.calls x120000_1 x120001_1 x120002_1 (Go.bits .xor .u64 x120003_1 x9_2) 2 t129 t130 t131 t132 _ A19.out).mono ?_); rintro e w21 ⟨rfl, hb⟩; refine ⟨_, rfl, ?_⟩; have n0_ := Aside0.mk (blk_below (g := gb119) (o := .cells #[.int .u64 x120000_1, .int .u64 x120001_1, .int .u64 x120002_1, .int .u64 (Go.bits .xor .u64 x120003_1 x9_2)] 110 (0, 0)) (by (with_reducible repeat (first|refine zN ?_ _|refine zD ?_|refine zA ?_ _)); refine blk_put (cs := #[.int .u64 x120000_1, .int .u64 x120001_1, .int .u64 x120002_1, .int .u64 x120003_1]) ?_ 3 _ rfl; (with_reducible repeat (first|refine zN ?_ _|refine zD ?_|refine zA ?_ _)); exact BK119.out) hb); have n1_ := Aside0.mk (below_step (by repeat (first | (with_reducible first|exact HB.out|apply zE|apply zB|apply zC | refine zJ ?_ GE119.out) | exact HB.out)) hb); clear BK119 HB; have BK119 := n0_; have HB := n1_; clear n0_ n1_; (try clear hb); (try clear hb2); (try clear hk); (try clear hi); (try clear hge); have hcz22_0 : w21.cell? ⟨gb119, 0, none⟩ = some (.int .u64 x120000_1) := (blk_cell BK119.out 0).trans rfl; have hcz22_1 : w21.cell? ⟨gb119, 1, none⟩ = some (.int .u64 x120001_1) := (blk_cell BK119.out 1).trans rfl; have hcz22_2 : w21.cell? ⟨gb119, 2, none⟩ = some (.int .u64 x120002_1) := (blk_cell BK119.out 2).trans rfl; have hcz22_3 : w21.cell? ⟨gb119, 3, none⟩ = some (.int .u64 (Go.bits .xor .u64 x120003_1 x9_2)) := (blk_cell BK119.out 3).trans rfl; have hfz22_0 := blk_frozen BK119.out 0; have hfz22_1 := blk_frozen BK119.out 1; have hfz22_2 := blk_frozen BK119.out 2; have hfz22_3 := blk_frozen BK119.out 3))
                  go_roundg k2
                  case measure => have := HK1.out; have := HK2.out; omega
                  case rel => exact ⟨(wrap64 (x8_1 + 1)), (Go.bits .xor .u64 t129 x9_2), (t130), (t131), (t132), (by first | rfl | (simp; done) | (simp [*]; done)), H', ⟨by have := HK1.out; have := HK2.out; omega⟩, ⟨by (with_reducible repeat (first|refine zN ?_ _|refine zD ?_|refine zA ?_ _)); refine blk_put (cs := #[.int .u64 t129, .int .u64 t130, .int .u64 t131, .int .u64 t132]) ?_ 0 _ rfl; (with_reducible repeat (first|refine zN ?_ _|refine zD ?_|refine zA ?_ _)); refine blk_put (cs := #[.int .u64 t129, .int .u64 t130, .int .u64 t131, .int .u64 (Go.bits .xor .u64 x120003_1 x9_2)]) ?_ 3 _ rfl; (with_reducible repeat (first|refine zN ?_ _|refine zD ?_|refine zA ?_ _)); refine blk_put (cs := #[.int .u64 t129, .int .u64 t130, .int .u64 x120002_1, .int .u64 (Go.bits .xor .u64 x120003_1 x9_2)]) ?_ 2 _ rfl; (with_reducible repeat (first|refine zN ?_ _|refine zD ?_|refine zA ?_ _)); refine blk_put (cs := #[.int .u64 t129, .int .u64 x120001_1, .int .u64 x120002_1, .int .u64 (Go.bits .xor .u64 x120003_1 x9_2)]) ?_ 1 _ rfl; (with_reducible repeat (first|refine zN ?_ _|refine zD ?_|refine zA ?_ _)); refine blk_put (cs := #[.int .u64 x120000_1, .int .u64 x120001_1, .int .u64 x120002_1, .int .u64 (Go.bits .xor .u64 x120003_1 x9_2)]) ?_ 0 _ rfl; (with_reducible repeat (first|refine zN ?_ _|refine zD ?_|refine zA ?_ _)); exact BK119.out⟩, ⟨by repeat (first | (with_reducible first|exact HB.out|apply zE|apply zB|apply zC | refine zJ ?_ GE119.out) | exact HB.out)⟩⟩
            · rw [if_neg c7] at H
              have c7b0 : decide (x10_2 < 8) = false := decide_eq_false c7
              clear c7
              by_cases c23 : x8_1 = (wrap64 ((l2.length : Int) / 8))
              · rw [if_pos c23] at H
                have c23b0 : (x8_1 == (wrap64 ((l2.length : Int) / 8))) = true := beq_iff_eq.mpr c23
                have c23b1 : (x8_1 != (wrap64 ((l2.length : Int) / 8))) = false := bne_eq_false_iff_eq.mpr c23
                clear c23; replace H := Option.bind_eq_some_iff.mp H
                obtain ⟨⟨t133, t134, t135, t136⟩, A240, H⟩ := H
                replace H : (flagstoneref2_Sum.l0 k2 l2 (wrap64 (x8_1 + 1)) (Go.bits .xor .u64 t133 (Go.bits .or .u64 x9_2 (((l2.length : Int) % 256) * 72057594037927936))) t134 t135 t136) = some r := H
                have A24 := Aside0.mk A240; clear A240; have H' := Aside0.mk H; clear H
                have hcz25_0 : wr.cell? ⟨gb119, 0, none⟩ = some (.int .u64 x120000_1) := (blk_cell BK119.out 0).trans rfl
                have hcz25_1 : wr.cell? ⟨gb119, 1, none⟩ = some (.int .u64 x120001_1) := (blk_cell BK119.out 1).trans rfl
                have hcz25_2 : wr.cell? ⟨gb119, 2, none⟩ = some (.int .u64 x120002_1) := (blk_cell BK119.out 2).trans rfl
                have hcz25_3 : wr.cell? ⟨gb119, 3, none⟩ = some (.int .u64 x120003_1) := (blk_cell BK119.out 3).trans rfl
                have hfz25_0 := blk_frozen BK119.out 0
                have hfz25_1 := blk_frozen BK119.out 1
                have hfz25_2 := blk_frozen BK119.out 2
                have hfz25_3 := blk_frozen BK119.out 3
                go_wp2_with (first | ((with_reducible refine gate_callee (f := 68) rfl ?_); refine goesL_ (some 72) rfl rfl Tryd.func68 (by kernel_rfl) rfl #[.agg #[.int .u64 x120000_1, .int .u64 x120001_1, .int .u64 x120002_1, .int .u64 (Go.bits .xor .u64 x120003_1 (Go.bits .or .u64 x9_2 (((l2.length : Int) % 256) * 72057594037927936)))], .int .i64 2] rfl (by (try simp only [List.map_toArray, List.map_cons, List.map_nil]); first | done | rfl | (simp only [List.length_drop, List.length_take]; rfl)) ?_; (with_reducible refine (flagstoneref2_state_rounds.calls x120000_1 x120001_1 x120002_1 (Go.bits .xor .u64 x120003_1 (Go.bits .or .u64 x9_2 (((l2.length : Int) % 256) * 72057594037927936))) 2 t133 t134 t135 t136 _ A24.out).mono ?_); rintro e w26 ⟨rfl, hb⟩; refine ⟨_, rfl, ?_⟩; have n0_ := Aside0.mk (blk_below (g := gb119) (o := .cells #[.int .u64 x120000_1, .int .u64 x120001_1, .int .u64 x120002_1, .int .u64 (Go.bits .xor .u64 x120003_1 (Go.bits .or .u64 x9_2 (((l2.length : Int) % 256) * 72057594037927936)))] 110 (0, 0)) (by (with_reducible repeat (first|refine zN ?_ _|refine zD ?_|refine zA ?_ _)); refine blk_put (cs := #[.int .u64 x120000_1, .int .u64 x120001_1, .int .u64 x120002_1, .int .u64 x120003_1]) ?_ 3 _ rfl; (with_reducible repeat (first|refine zN ?_ _|refine zD ?_|refine zA ?_ _)); exact BK119.out) hb); have n1_ := Aside0.mk (below_step (by repeat (first | (with_reducible first|exact HB.out|apply zE|apply zB|apply zC | refine zJ ?_ GE119.out) | exact HB.out)) hb); clear BK119 HB; have BK119 := n0_; have HB := n1_; clear n0_ n1_; (try clear hb); (try clear hb2); (try clear hk); (try clear hi); (try clear hge); have hcz27_0 : w26.cell? ⟨gb119, 0, none⟩ = some (.int .u64 x120000_1) := (blk_cell BK119.out 0).trans rfl; have hcz27_1 : w26.cell? ⟨gb119, 1, none⟩ = some (.int .u64 x120001_1) := (blk_cell BK119.out 1).trans rfl; have hcz27_2 : w26.cell? ⟨gb119, 2, none⟩ = some (.int .u64 x120002_1) := (blk_cell BK119.out 2).trans rfl; have hcz27_3 : w26.cell? ⟨gb119, 3, none⟩ = some (.int .u64 (Go.bits .xor .u64 x120003_1 (Go.bits .or .u64 x9_2 (((l2.length : Int) % 256) * 72057594037927936)))) := (blk_cell BK119.out 3).trans rfl; have hfz27_0 := blk_frozen BK119.out 0; have hfz27_1 := blk_frozen BK119.out 1; have hfz27_2 := blk_frozen BK119.out 2; have hfz27_3 := blk_frozen BK119.out 3))
                go_roundg k2
                case measure => have := HK1.out; have := HK2.out; omega
                case rel => exact ⟨(wrap64 (x8_1 + 1)), (Go.bits .xor .u64 t133 (Go.bits .or .u64 x9_2 (((l2.length : Int) % 256) * 72057594037927936))), (t134), (t135), (t136), (by first | rfl | (simp; done) | (simp [*]; done)), H', ⟨by have := HK1.out; have := HK2.out; omega⟩, ⟨by (with_reducible repeat (first|refine zN ?_ _|refine zD ?_|refine zA ?_ _)); refine blk_put (cs := #[.int .u64 t133, .int .u64 t134, .int .u64 t135, .int .u64 t136]) ?_ 0 _ rfl; (with_reducible repeat (first|refine zN ?_ _|refine zD ?_|refine zA ?_ _)); refine blk_put (cs := #[.int .u64 t133, .int .u64 t134, .int .u64 t135, .int .u64 (Go.bits .xor .u64 x120003_1 (Go.bits .or .u64 x9_2 (((l2.length : Int) % 256) * 72057594037927936)))]) ?_ 3 _ rfl; (with_reducible repeat (first|refine zN ?_ _|refine zD ?_|refine zA ?_ _)); refine blk_put (cs := #[.int .u64 t133, .int .u64 t134, .int .u64 x120002_1, .int .u64 (Go.bits .xor .u64 x120003_1 (Go.bits .or .u64 x9_2 (((l2.length : Int) % 256) * 72057594037927936)))]) ?_ 2 _ rfl; (with_reducible repeat (first|refine zN ?_ _|refine zD ?_|refine zA ?_ _)); refine blk_put (cs := #[.int .u64 t133, .int .u64 x120001_1, .int .u64 x120002_1, .int .u64 (Go.bits .xor .u64 x120003_1 (Go.bits .or .u64 x9_2 (((l2.length : Int) % 256) * 72057594037927936)))]) ?_ 1 _ rfl; (with_reducible repeat (first|refine zN ?_ _|refine zD ?_|refine zA ?_ _)); refine blk_put (cs := #[.int .u64 x120000_1, .int .u64 x120001_1, .int .u64 x120002_1, .int .u64 (Go.bits .xor .u64 x120003_1 (Go.bits .or .u64 x9_2 (((l2.length : Int) % 256) * 72057594037927936)))]) ?_ 0 _ rfl; (with_reducible repeat (first|refine zN ?_ _|refine zD ?_|refine zA ?_ _)); exact BK119.out⟩, ⟨by repeat (first | (with_reducible first|exact HB.out|apply zE|apply zB|apply zC | refine zJ ?_ GE119.out) | exact HB.out)⟩⟩
              · rw [if_neg c23] at H
                have c23b0 : (x8_1 == (wrap64 ((l2.length : Int) / 8))) = false := beq_eq_false_iff_ne.mpr c23
                have c23b1 : (x8_1 != (wrap64 ((l2.length : Int) / 8))) = true := bne_iff_ne.mpr c23
                replace H := Option.bind_eq_some_iff.mp H
                obtain ⟨⟨t137, t138, t139, t140⟩, A280, H⟩ := H
                replace H : (flagstoneref2_Sum.l0 k2 l2 (wrap64 (x8_1 + 1)) (Go.bits .xor .u64 t137 x9_2) t138 t139 t140) = some r := H
                have A28 := Aside0.mk A280; clear A280; have H' := Aside0.mk H; clear H
                have hcz29_0 : wr.cell? ⟨gb119, 0, none⟩ = some (.int .u64 x120000_1) := (blk_cell BK119.out 0).trans rfl
                have hcz29_1 : wr.cell? ⟨gb119, 1, none⟩ = some (.int .u64 x120001_1) := (blk_cell BK119.out 1).trans rfl
                have hcz29_2 : wr.cell? ⟨gb119, 2, none⟩ = some (.int .u64 x120002_1) := (blk_cell BK119.out 2).trans rfl
                have hcz29_3 : wr.cell? ⟨gb119, 3, none⟩ = some (.int .u64 x120003_1) := (blk_cell BK119.out 3).trans rfl
                have hfz29_0 := blk_frozen BK119.out 0
                have hfz29_1 := blk_frozen BK119.out 1
                have hfz29_2 := blk_frozen BK119.out 2
                have hfz29_3 := blk_frozen BK119.out 3
                go_wp2_with (first | ((with_reducible refine gate_callee (f := 68) rfl ?_); refine goesL_ (some 72) rfl rfl Tryd.func68 (by kernel_rfl) rfl #[.agg #[.int .u64 x120000_1, .int .u64 x120001_1, .int .u64 x120002_1, .int .u64 (Go.bits .xor .u64 x120003_1 x9_2)], .int .i64 2] rfl (by (try simp only [List.map_toArray, List.map_cons, List.map_nil]); first | done | rfl | (simp only [List.length_drop, List.length_take]; rfl)) ?_; (with_reducible refine (flagstoneref2_state_rounds.calls x120000_1 x120001_1 x120002_1 (Go.bits .xor .u64 x120003_1 x9_2) 2 t137 t138 t139 t140 _ A28.out).mono ?_); rintro e w30 ⟨rfl, hb⟩; refine ⟨_, rfl, ?_⟩; have n0_ := Aside0.mk (blk_below (g := gb119) (o := .cells #[.int .u64 x120000_1, .int .u64 x120001_1, .int .u64 x120002_1, .int .u64 (Go.bits .xor .u64 x120003_1 x9_2)] 110 (0, 0)) (by (with_reducible repeat (first|refine zN ?_ _|refine zD ?_|refine zA ?_ _)); refine blk_put (cs := #[.int .u64 x120000_1, .int .u64 x120001_1, .int .u64 x120002_1, .int .u64 x120003_1]) ?_ 3 _ rfl; (with_reducible repeat (first|refine zN ?_ _|refine zD ?_|refine zA ?_ _)); exact BK119.out) hb); have n1_ := Aside0.mk (below_step (by repeat (first | (with_reducible first|exact HB.out|apply zE|apply zB|apply zC | refine zJ ?_ GE119.out) | exact HB.out)) hb); clear BK119 HB; have BK119 := n0_; have HB := n1_; clear n0_ n1_; (try clear hb); (try clear hb2); (try clear hk); (try clear hi); (try clear hge); have hcz31_0 : w30.cell? ⟨gb119, 0, none⟩ = some (.int .u64 x120000_1) := (blk_cell BK119.out 0).trans rfl; have hcz31_1 : w30.cell? ⟨gb119, 1, none⟩ = some (.int .u64 x120001_1) := (blk_cell BK119.out 1).trans rfl; have hcz31_2 : w30.cell? ⟨gb119, 2, none⟩ = some (.int .u64 x120002_1) := (blk_cell BK119.out 2).trans rfl; have hcz31_3 : w30.cell? ⟨gb119, 3, none⟩ = some (.int .u64 (Go.bits .xor .u64 x120003_1 x9_2)) := (blk_cell BK119.out 3).trans rfl; have hfz31_0 := blk_frozen BK119.out 0; have hfz31_1 := blk_frozen BK119.out 1; have hfz31_2 := blk_frozen BK119.out 2; have hfz31_3 := blk_frozen BK119.out 3))
                go_roundg k2
                case measure => have := HK1.out; have := HK2.out; omega
                case rel => exact ⟨(wrap64 (x8_1 + 1)), (Go.bits .xor .u64 t137 x9_2), (t138), (t139), (t140), (by first | rfl | (simp; done) | (simp [*]; done)), H', ⟨by have := HK1.out; have := HK2.out; omega⟩, ⟨by (with_reducible repeat (first|refine zN ?_ _|refine zD ?_|refine zA ?_ _)); refine blk_put (cs := #[.int .u64 t137, .int .u64 t138, .int .u64 t139, .int .u64 t140]) ?_ 0 _ rfl; (with_reducible repeat (first|refine zN ?_ _|refine zD ?_|refine zA ?_ _)); refine blk_put (cs := #[.int .u64 t137, .int .u64 t138, .int .u64 t139, .int .u64 (Go.bits .xor .u64 x120003_1 x9_2)]) ?_ 3 _ rfl; (with_reducible repeat (first|refine zN ?_ _|refine zD ?_|refine zA ?_ _)); refine blk_put (cs := #[.int .u64 t137, .int .u64 t138, .int .u64 x120002_1, .int .u64 (Go.bits .xor .u64 x120003_1 x9_2)]) ?_ 2 _ rfl; (with_reducible repeat (first|refine zN ?_ _|refine zD ?_|refine zA ?_ _)); refine blk_put (cs := #[.int .u64 t137, .int .u64 x120001_1, .int .u64 x120002_1, .int .u64 (Go.bits .xor .u64 x120003_1 x9_2)]) ?_ 1 _ rfl; (with_reducible repeat (first|refine zN ?_ _|refine zD ?_|refine zA ?_ _)); refine blk_put (cs := #[.int .u64 x120000_1, .int .u64 x120001_1, .int .u64 x120002_1, .int .u64 (Go.bits .xor .u64 x120003_1 x9_2)]) ?_ 0 _ rfl; (with_reducible repeat (first|refine zN ?_ _|refine zD ?_|refine zA ?_ _)); exact BK119.out⟩, ⟨by repeat (first | (with_reducible first|exact HB.out|apply zE|apply zB|apply zC | refine zJ ?_ GE119.out) | exact HB.out)⟩⟩
      · rw [if_neg c6] at H
        have c6b0 : decide (x8_1 ≤ (wrap64 ((l2.length : Int) / 8))) = false := decide_eq_false c6
        clear c6; replace H := Option.bind_eq_some_iff.mp H
        obtain ⟨⟨t120, t121, t122, t123⟩, A320, H⟩ := H
        replace H : (some (Go.bits .xor .u64 (Go.bits .xor .u64 (Go.bits .xor .u64 t120 t121) t122) t123)) = some r := H
        have A32 := Aside0.mk A320; clear A320
        obtain rfl := Option.some.inj H
        have hcz33_0 : wr.cell? ⟨gb119, 0, none⟩ = some (.int .u64 x120000_1) := (blk_cell BK119.out 0).trans rfl
        have hcz33_1 : wr.cell? ⟨gb119, 1, none⟩ = some (.int .u64 x120001_1) := (blk_cell BK119.out 1).trans rfl
        have hcz33_2 : wr.cell? ⟨gb119, 2, none⟩ = some (.int .u64 x120002_1) := (blk_cell BK119.out 2).trans rfl
        have hcz33_3 : wr.cell? ⟨gb119, 3, none⟩ = some (.int .u64 x120003_1) := (blk_cell BK119.out 3).trans rfl
        have hfz33_0 := blk_frozen BK119.out 0
        have hfz33_1 := blk_frozen BK119.out 1
        have hfz33_2 := blk_frozen BK119.out 2
        have hfz33_3 := blk_frozen BK119.out 3
        go_wp2_with (first | ((with_reducible refine gate_callee (f := 68) rfl ?_); refine goesL_ (some 83) rfl rfl Tryd.func68 (by kernel_rfl) rfl #[.agg #[.int .u64 x120000_1, .int .u64 x120001_1, .int .u64 (Go.bits .xor .u64 x120002_1 255), .int .u64 x120003_1], .int .i64 4] rfl (by (try simp only [List.map_toArray, List.map_cons, List.map_nil]); first | done | rfl | (simp only [List.length_drop, List.length_take]; rfl)) ?_; (with_reducible refine (flagstoneref2_state_rounds.calls x120000_1 x120001_1 (Go.bits .xor .u64 x120002_1 255) x120003_1 4 t120 t121 t122 t123 _ A32.out).mono ?_); rintro e w34 ⟨rfl, hb⟩; refine ⟨_, rfl, ?_⟩; have n0_ := Aside0.mk (blk_below (g := gb119) (o := .cells #[.int .u64 x120000_1, .int .u64 x120001_1, .int .u64 (Go.bits .xor .u64 x120002_1 255), .int .u64 x120003_1] 110 (0, 0)) (by (with_reducible repeat (first|refine zN ?_ _|refine zD ?_|refine zA ?_ _)); refine blk_put (cs := #[.int .u64 x120000_1, .int .u64 x120001_1, .int .u64 x120002_1, .int .u64 x120003_1]) ?_ 2 _ rfl; (with_reducible repeat (first|refine zN ?_ _|refine zD ?_|refine zA ?_ _)); exact BK119.out) hb); have n1_ := Aside0.mk (below_step (by repeat (first | (with_reducible first|exact HB.out|apply zE|apply zB|apply zC | refine zJ ?_ GE119.out) | exact HB.out)) hb); clear BK119 HB; have BK119 := n0_; have HB := n1_; clear n0_ n1_; (try clear hb); (try clear hb2); (try clear hk); (try clear hi); (try clear hge); have hcz35_0 : w34.cell? ⟨gb119, 0, none⟩ = some (.int .u64 x120000_1) := (blk_cell BK119.out 0).trans rfl; have hcz35_1 : w34.cell? ⟨gb119, 1, none⟩ = some (.int .u64 x120001_1) := (blk_cell BK119.out 1).trans rfl; have hcz35_2 : w34.cell? ⟨gb119, 2, none⟩ = some (.int .u64 (Go.bits .xor .u64 x120002_1 255)) := (blk_cell BK119.out 2).trans rfl; have hcz35_3 : w34.cell? ⟨gb119, 3, none⟩ = some (.int .u64 x120003_1) := (blk_cell BK119.out 3).trans rfl; have hfz35_0 := blk_frozen BK119.out 0; have hfz35_1 := blk_frozen BK119.out 1; have hfz35_2 := blk_frozen BK119.out 2; have hfz35_3 := blk_frozen BK119.out 3))
        go_ret
        exact ⟨by first | rfl | (simp [errW_none, errW_some] <;> rfl) | (simp [*, errW_none, errW_some] <;> rfl), by repeat (first | (with_reducible first|exact HB.out|apply zE|apply zB|apply zC | refine zJ ?_ GE119.out) | exact HB.out)⟩

/-! ### flagstoneref2_Frame: function 60 -/
mutual
def flagstoneref2_Frame.l0 : Nat → List (List Int) → List Int → Int → Option (List Int)
  | 0, _, _, _ => none
  | k + 1, x0, x3, x4 => if x4 < (x0.length : Int) then (if 0 ≤ x4 then (flagstoneref2_Frame.l1 k x0 x3 x4 (IntKind.u64.wrap (((rd_L6 x0 x4).length : Int))) 56) else (none)) else (some x3)
def flagstoneref2_Frame.l1 : Nat → List (List Int) → List Int → Int → Int → Int → Option (List Int)
  | 0, _, _, _, _, _ => none
  | k + 1, x0, x3, x4, x5, x6 => if x6 ≥ 0 then (if 0 ≤ (IntKind.u64.wrap (x6)) then (if x3.length < 140737488355328 then (flagstoneref2_Frame.l1 k x0 (x3 ++ [(shr .u64 x5 (IntKind.u64.wrap (x6))) % 256]) x4 x5 (wrap64 (x6 - 8))) else (none)) else (none)) else (if 0 ≤ x4 then (if x4 < (x0.length : Int) then (if x3.length + (rd_L6 x0 x4).length < 140737488355328 then (flagstoneref2_Frame.l0 k x0 (x3 ++ (rd_L6 x0 x4)) (wrap64 (x4 + 1))) else (none)) else (none)) else (none))
end
def flagstoneref2_Frame.f (k : Nat) (l0 : List (List Int)) : Option (List Int) := flagstoneref2_Frame.l0 k l0 ([] : List Int) 0
theorem flagstoneref2_Frame.mono_l : ∀ k, (∀ y0 y1 y2, LeO (flagstoneref2_Frame.l0 k y0 y1 y2) (flagstoneref2_Frame.l0 (k + 1) y0 y1 y2)) ∧ (∀ y0 y1 y2 y3 y4, LeO (flagstoneref2_Frame.l1 k y0 y1 y2 y3 y4) (flagstoneref2_Frame.l1 (k + 1) y0 y1 y2 y3 y4))
  | 0 => ⟨fun _ _ _ r h => by simp [flagstoneref2_Frame.l0] at h, fun _ _ _ _ _ r h => by simp [flagstoneref2_Frame.l1] at h⟩
  | k + 1 => by
    obtain ⟨ih0, ih1⟩ := flagstoneref2_Frame.mono_l k
    refine ⟨?_, ?_⟩
    · intro y0 y1 y2
      unfold flagstoneref2_Frame.l0
      repeat' first
      | (with_reducible exact ih0 _ _ _)
      | (with_reducible exact ih1 _ _ _ _ _)
      | (with_reducible exact LeO.refl _)
      | (with_reducible exact LeO.none _)
      | (with_reducible refine LeO.ite ?_ ?_)
      | (with_reducible refine LeO.bind ?_ (fun _ => ?_))
      | exact ih0 _ _ _
      | exact ih1 _ _ _ _ _
      | exact LeO.none _
      | refine LeO.ite ?_ ?_
      | refine LeO.bind ?_ (fun _ => ?_)
    · intro y0 y1 y2 y3 y4
      unfold flagstoneref2_Frame.l1
      repeat' first
      | (with_reducible exact ih0 _ _ _)
      | (with_reducible exact ih1 _ _ _ _ _)
      | (with_reducible exact LeO.refl _)
      | (with_reducible exact LeO.none _)
      | (with_reducible refine LeO.ite ?_ ?_)
      | (with_reducible refine LeO.bind ?_ (fun _ => ?_))
      | exact ih0 _ _ _
      | exact ih1 _ _ _ _ _
      | exact LeO.none _
      | refine LeO.ite ?_ ?_
      | refine LeO.bind ?_ (fun _ => ?_)
theorem flagstoneref2_Frame.mono : ∀ a0 k, LeO (flagstoneref2_Frame.f k a0) (flagstoneref2_Frame.f (k + 1) a0) := by
  intro a0 k
  obtain ⟨ih0, ih1⟩ := flagstoneref2_Frame.mono_l k
  unfold flagstoneref2_Frame.f
  repeat' first
      | (with_reducible exact ih0 _ _ _)
      | (with_reducible exact ih1 _ _ _ _ _)
      | (with_reducible exact LeO.refl _)
      | (with_reducible exact LeO.none _)
      | (with_reducible refine LeO.ite ?_ ?_)
      | (with_reducible refine LeO.bind ?_ (fun _ => ?_))
      | exact ih0 _ _ _
      | exact ih1 _ _ _ _ _
      | exact LeO.none _
      | refine LeO.ite ?_ ?_
      | refine LeO.bind ?_ (fun _ => ?_)
set_option maxHeartbeats 8000000 in
set_option maxRecDepth 100000 in
theorem flagstoneref2_Frame.calls (k : Nat) (A0 : Option Addr) (c0 : Nat) (l0 : List (List Int)) (r : List Int) (w : World) (hr0 : Kd.C (Kd.slice 5 (Kd.int .u8)) w A0 l0.length l0) (hc0 : l0.length ≤ c0) (h : flagstoneref2_Frame.f k l0 = some r) :
    Calls Tryd.prog 60 #[.slice A0 l0.length c0] w fun e w' => ∃ v0_ : Value, e = .returned (v0_) ∧ Kd.R (Kd.int .u8) 5 w' w.heap.size (fun _ => True) v0_ r ∧ Below w.heap.size w w' := by
  have HR0 := Aside0.mk hr0; have HC0 := Aside0.mk hc0; clear hr0 hc0
  have HB := Aside0.mk (Below.refl w.heap.size w)
  have H : (flagstoneref2_Frame.l0 k l0 ([] : List Int) 0) = some r := h
  clear h; have H' := Aside0.mk H; clear H
  go_enter Tryd.func60, Tryd.ntmps60
  go_wp2
  go_loopg [3, 4] k (fun kq v3 v4 w' => ∃ (x3_1 : List Int) (x4_1 : Int), v4 = .int .i64 x4_1 ∧ Aside0 (flagstoneref2_Frame.l0 kq l0 x3_1 x4_1 = some r) ∧ Aside0 (kq ≤ k) ∧ Aside0 (Kd.R (Kd.int .u8) 5 w' w.heap.size (fun _ => True) v3 x3_1) ∧ Aside0 (Below w.heap.size w w'))
  case atStart => exact ⟨(([] : List Int)), (0), (by first | rfl | (simp; done) | (simp [*]; done)), H', ⟨Nat.le_refl _⟩, ⟨by first | exact Kd.R_nil _ _ _ _ _ | exact Kd.N_nil _ _ _ _ _ | exact Kd.V_nil _ _ _ _ _ | exact Kd.Q_nil _ _ _ _ _ | exact Kd.S_nil _ _ _ _ _⟩, ⟨by repeat (first | (with_reducible first|exact HB.out|apply zE|apply zB|apply zC) | exact HB.out)⟩⟩
  case round =>
    clear H'
    obtain ⟨x3_1, x4_1, rfl, HA, HK1, HO_3, HB⟩ := hrel
    cases gk with
    | zero => exact absurd HA.out (by simp [flagstoneref2_Frame.l0])
    | succ k1 =>
      have H := HA.out; clear HA
      simp only [flagstoneref2_Frame.l0] at H
      by_cases c2 : x4_1 < (l0.length : Int)
      · rw [if_pos c2] at H
        have c2b0 : decide (x4_1 < (l0.length : Int)) = true := decide_eq_true c2
        clear c2
        by_cases c3 : 0 ≤ x4_1
        · rw [if_pos c3] at H
          have c3b0 : decide (0 ≤ x4_1) = true := decide_eq_true c3
          clear c3; have H' := Aside0.mk H; clear H
          have p141 : 0 ≤ (x4_1 : Int) := of_decide_eq_true (by first | (with_reducible assumption) | assumption)
          have q141 : x4_1 < (l0.length : Int) := of_decide_eq_true (by first | (with_reducible assumption) | assumption)
          obtain ⟨ad141, A141_0, c141_0, e141, hx141_0, hl141_0, hi141_0⟩ := at_L6 HR0.out x4_1 p141 q141
          cases e141
          replace hx141_0 := (HB.out.cell (World.block_lt_of_cell? w _ hx141_0)).trans hx141_0
          have HR141_0 := Aside0.mk hi141_0; have HC141_0 := Aside0.mk hl141_0; clear hi141_0 hl141_0
          replace p141 := eq_true p141
          replace q141 := eq_true q141
          go_wp2
          go_loopg [3, 6] k1 (fun kq v3 v6 w' => ∃ (x3_2 : List Int) (x6_2 : Int), v6 = .int .i64 x6_2 ∧ Aside0 (flagstoneref2_Frame.l1 kq l0 x3_2 x4_1 (IntKind.u64.wrap (((rd_L6 l0 x4_1).length : Int))) x6_2 = some r) ∧ Aside0 (kq ≤ k1) ∧ Aside0 (Kd.R (Kd.int .u8) 5 w' w.heap.size (fun _ => True) v3 x3_2) ∧ Aside0 (Below w.heap.size w w'))
          case atStart => exact ⟨(x3_1), (56), (by first | rfl | (simp; done) | (simp [*]; done)), H', ⟨Nat.le_refl _⟩, ⟨by (with_reducible repeat (first | apply Kd.R_alloc | apply Kd.R_drewN | apply Kd.R_drew)); exact HO_3.out⟩, ⟨by repeat (first | (with_reducible first|exact HB.out|apply zE|apply zB|apply zC) | exact HB.out)⟩⟩
          case round =>
            clear H'; (try clear c1); (try clear p1); (try clear q1); (try clear hx1); (try clear c2); (try clear c2b0); (try clear p2); (try clear c3); (try clear c3b0); (try clear hx141_0); (try clear p141); (try clear q141)
            obtain ⟨x3_2, x6_2, rfl, HA, HK2, HO_3, HB⟩ := hrel
            cases gk with
            | zero => exact absurd HA.out (by simp [flagstoneref2_Frame.l1])
            | succ k2 =>
              have H := HA.out; clear HA
              simp only [flagstoneref2_Frame.l1] at H
              by_cases c4 : x6_2 ≥ 0
              · rw [if_pos c4] at H
                have c4b0 : decide (0 ≤ x6_2) = true := decide_eq_true c4
                clear c4
                obtain ⟨ji5, hji5⟩ : ∃ j_ : Int, (IntKind.u64.wrap (x6_2)) = j_ := ⟨_, rfl⟩
                replace H : (if 0 ≤ (ji5) then (if x3_2.length < 140737488355328 then (flagstoneref2_Frame.l1 k2 l0 (x3_2 ++ [(shr .u64 (IntKind.u64.wrap (((rd_L6 l0 x4_1).length : Int))) (ji5)) % 256]) x4_1 (IntKind.u64.wrap (((rd_L6 l0 x4_1).length : Int))) (wrap64 (x6_2 - 8))) else (none)) else (none)) = some r := by first | (rw [hji5] at H; exact H) | (simp only [hji5] at H ⊢; exact H)
                by_cases c6 : 0 ≤ (ji5)
                · rw [if_pos c6] at H
                  have c6b0 := eq_true c6
                  have c6b1 : decide (0 ≤ (ji5)) = true := decide_eq_true c6
                  clear c6
                  obtain ⟨ji7, hji7⟩ : ∃ j_ : Int, (shr .u64 (IntKind.u64.wrap (((rd_L6 l0 x4_1).length : Int))) (ji5)) = j_ := ⟨_, rfl⟩
                  replace H : (if x3_2.length < 140737488355328 then (flagstoneref2_Frame.l1 k2 l0 (x3_2 ++ [(ji7) % 256]) x4_1 (IntKind.u64.wrap (((rd_L6 l0 x4_1).length : Int))) (wrap64 (x6_2 - 8))) else (none)) = some r := by first | (rw [hji7] at H; exact H) | (simp only [hji7] at H ⊢; exact H)
                  have hji7_ : ((IntKind.u64.wrap (((rd_L6 l0 x4_1).length : Int))) / 2 ^ min (ji5).toNat 64) = ji7 := hji7
                  have hji7z : (ji5) ≤ 64 → ((IntKind.u64.wrap (((rd_L6 l0 x4_1).length : Int))) / 2 ^ (ji5).toNat) = ji7 := shr_small hji7
                  by_cases c8 : x3_2.length < 140737488355328
                  · rw [if_pos c8] at H
                    have LMc8 := Aside0.mk c8; clear c8
                    obtain ⟨y142, hy142⟩ : ∃ y_ : List Int, y_ = (x3_2 ++ [(ji7) % 256]) := ⟨_, rfl⟩
                    replace H : (flagstoneref2_Frame.l1 k2 l0 y142 x4_1 (IntKind.u64.wrap (((rd_L6 l0 x4_1).length : Int))) (wrap64 (x6_2 - 8))) = some r := by first | (rw [hy142]; with_reducible exact H) | (have H2_ := (Option.bind_some _ _).symm.trans H; rw [hy142]; with_reducible exact H2_) | (have H2_ := (Option.bind_some _ _).symm.trans H; with_reducible exact H2_) | with_reducible exact H | (rw [hy142]; exact H) | exact H
                    have Ny142 := Aside0.mk hy142; clear hy142; have H' := Aside0.mk H; clear H
                    go_wp2_with (first | ((with_reducible refine gate_builtin (b := .append) (xs := #[.tmp 23, .tmp 29]) rfl ?_); at_builtin; refine Kd.R_append (Kd.int .u8) (w0 := w) w.heap.size rfl (.tmp 23) (.tmp 29) 24 5 (.int .u8 0) 1 rfl Tryd.underlying24 info5 rfl (by decide) (by omega) u3 x3_2 ((ji7) % 256) [.int .u8 ((ji7) % 256)] (fun _ => True) (fun _ => False) rfl rfl ?aP (fun _ hk => hk.elim) ?aF ?aO ?aB ?aS ?aL ?_; (case aP => exact rfl); (case aB => exact (by repeat (first | (with_reducible first|exact HB.out|apply zE|apply zB|apply zC) | exact HB.out))); (case aF => exact (fun _ _ => trivial)); (case aO => exact (by (with_reducible repeat (first | apply Kd.R_alloc | apply Kd.R_drewN | apply Kd.R_drew)); exact HO_3.out)); (case aS => exact (below_size (by repeat (first | (with_reducible first|exact HB.out|apply zE|apply zB|apply zC) | exact HB.out)))); (case aL => have := LMc8.out; omega); intro v143 w9 ho hb hg hat; rw [← Ny142.out] at ho; have n0_ := Aside0.mk (hb); have n1_ := Aside0.mk (ho); clear HB HO_3; have HB := n0_; have HO144 := n1_; clear n0_ n1_ ho hb hg hat))
                    go_roundg k2
                    case measure => have := HK1.out; have := HK2.out; omega
                    case rel => exact ⟨(y142), (wrap64 (x6_2 - 8)), (by first | rfl | (simp; done) | (simp [*]; done)), H', ⟨by have := HK1.out; have := HK2.out; omega⟩, ⟨by (with_reducible repeat (first | apply Kd.R_alloc | apply Kd.R_drewN | apply Kd.R_drew)); exact HO144.out⟩, ⟨by repeat (first | (with_reducible first|exact HB.out|apply zE|apply zB|apply zC) | exact HB.out)⟩⟩
                  · rw [if_neg c8] at H
                    exact absurd H (by simp)
                · rw [if_neg c6] at H
                  exact absurd H (by simp)
              · rw [if_neg c4] at H
                have c4b0 : decide (0 ≤ x6_2) = false := decide_eq_false c4
                clear c4
                by_cases c10 : 0 ≤ x4_1
                · rw [if_pos c10] at H
                  have c10b0 : decide (0 ≤ x4_1) = true := decide_eq_true c10
                  clear c10
                  by_cases c11 : x4_1 < (l0.length : Int)
                  · rw [if_pos c11] at H
                    have c11b0 : decide (x4_1 < (l0.length : Int)) = true := decide_eq_true c11
                    clear c11
                    by_cases c12 : x3_2.length + (rd_L6 l0 x4_1).length < 140737488355328
                    · rw [if_pos c12] at H
                      have LMc12 := Aside0.mk c12; clear c12
                      obtain ⟨y146, hy146⟩ : ∃ y_ : List Int, y_ = (x3_2 ++ (rd_L6 l0 x4_1)) := ⟨_, rfl⟩
                      replace H : (flagstoneref2_Frame.l0 k2 l0 y146 (wrap64 (x4_1 + 1))) = some r := by first | (rw [hy146]; with_reducible exact H) | (have H2_ := (Option.bind_some _ _).symm.trans H; rw [hy146]; with_reducible exact H2_) | (have H2_ := (Option.bind_some _ _).symm.trans H; with_reducible exact H2_) | with_reducible exact H | (rw [hy146]; exact H) | exact H
                      have Ny146 := Aside0.mk hy146; clear hy146; have H' := Aside0.mk H; clear H
                      have p145 : 0 ≤ (x4_1 : Int) := of_decide_eq_true (by first | (with_reducible assumption) | assumption)
                      have q145 : x4_1 < (l0.length : Int) := of_decide_eq_true (by first | (with_reducible assumption) | assumption)
                      obtain ⟨ad145, A145_0, c145_0, e145, hx145_0, hl145_0, hi145_0⟩ := at_L6 HR0.out x4_1 p145 q145
                      obtain rfl : ad141 = ad145 := (by injection e145)
                      replace hx145_0 := (HB.out.cell (World.block_lt_of_cell? w _ hx145_0)).trans hx145_0
                      have HR145_0 := Aside0.mk hi145_0; have HC145_0 := Aside0.mk hl145_0; clear hi145_0 hl145_0
                      replace p145 := eq_true p145
                      replace q145 := eq_true q145
                      go_wp2_with (first | ((with_reducible refine gate_builtin (b := .append) (xs := #[.tmp 31, .tmp 35]) rfl ?_); at_builtin; refine Kd.R_append_rows (Kd.int .u8) (w0 := w) w.heap.size rfl (.tmp 31) (.tmp 35) 24 5 (.int .u8 0) 1 rfl Tryd.underlying24 info5 rfl (by decide) (by omega) u3 x3_2 (rd_L6 l0 x4_1) _ _ _ (fun _ => True) (fun _ => False) rfl rfl ?aO ?aR (fun _ _ h => h) (fun _ h => h.elim) ?aF ?aB ?aS ?aL ?_; (case aR => repeat (first | exact (Kd.C_below HR145_0.out HB.out) | (with_reducible refine Kd.C_alloc ?_ _) | (with_reducible refine Kd.C_drewN ?_ _) | (with_reducible refine Kd.C_drew ?_))); (case aB => exact (by repeat (first | (with_reducible first|exact HB.out|apply zE|apply zB|apply zC) | exact HB.out))); (case aF => exact (fun _ _ => trivial)); (case aO => exact (by (with_reducible repeat (first | apply Kd.R_alloc | apply Kd.R_drewN | apply Kd.R_drew)); exact HO_3.out)); (case aS => exact (below_size (by repeat (first | (with_reducible first|exact HB.out|apply zE|apply zB|apply zC) | exact HB.out)))); (case aL => have := LMc12.out; omega); intro v147 w13 ho hb hg hat; rw [← Ny146.out] at ho; have n0_ := Aside0.mk (hb); have n1_ := Aside0.mk (ho); clear HB HO_3; have HB := n0_; have HO148 := n1_; clear n0_ n1_ ho hb hg hat))
                      go_roundg k2
                      case measure => have := HK1.out; have := HK2.out; omega
                      case rel => exact ⟨(y146), (wrap64 (x4_1 + 1)), (by first | rfl | (simp; done) | (simp [*]; done)), H', ⟨by have := HK1.out; have := HK2.out; omega⟩, ⟨by (with_reducible repeat (first | apply Kd.R_alloc | apply Kd.R_drewN | apply Kd.R_drew)); exact HO148.out⟩, ⟨by repeat (first | (with_reducible first|exact HB.out|apply zE|apply zB|apply zC) | exact HB.out)⟩⟩
                    · rw [if_neg c12] at H
                      exact absurd H (by simp)
                  · rw [if_neg c11] at H
                    exact absurd H (by simp)
                · rw [if_neg c10] at H
                  exact absurd H (by simp)
        · rw [if_neg c3] at H
          exact absurd H (by simp)
      · rw [if_neg c2] at H
        have c2b0 : decide (x4_1 < (l0.length : Int)) = false := decide_eq_false c2
        clear c2
        obtain rfl := Option.some.inj H
        go_wp2
        go_ret
        exact ⟨_, by first | rfl | (simp [errW_none, errW_some] <;> rfl) | (simp [*, errW_none, errW_some] <;> rfl), by (with_reducible repeat (first | apply Kd.R_alloc | apply Kd.R_drewN | apply Kd.R_drew)); exact HO_3.out, by repeat (first | (with_reducible first|exact HB.out|apply zE|apply zB|apply zC) | exact HB.out)⟩

/-! ### flagstoneref2_Hash: function 49 -/
def flagstoneref2_Hash.f (k : Nat) (a0 : Int) (l1 : List (List Int)) : Option (Int) := (flagstoneref2_Frame.f k l1).bind fun t149 => ((flagstoneref2_Sum.f k a0 0 t149).bind fun t152 => (some t152))
theorem flagstoneref2_Hash.mono : ∀ a0 a1 k, LeO (flagstoneref2_Hash.f k a0 a1) (flagstoneref2_Hash.f (k + 1) a0 a1) := by
  intro a0 a1 k
  unfold flagstoneref2_Hash.f
  repeat' first
      | (with_reducible exact flagstoneref2_Frame.mono _ _)
      | (with_reducible exact flagstoneref2_Sum.mono _ _ _ _)
      | (with_reducible exact LeO.refl _)
      | (with_reducible exact LeO.none _)
      | (with_reducible refine LeO.ite ?_ ?_)
      | (with_reducible refine LeO.bind ?_ (fun _ => ?_))
      | exact flagstoneref2_Frame.mono _ _
      | exact flagstoneref2_Sum.mono _ _ _ _
      | exact LeO.none _
      | refine LeO.ite ?_ ?_
      | refine LeO.bind ?_ (fun _ => ?_)
set_option maxHeartbeats 8000000 in
set_option maxRecDepth 100000 in
theorem flagstoneref2_Hash.calls (k : Nat) (a0 : Int) (A1 : Option Addr) (c1 : Nat) (l1 : List (List Int)) (r : Int) (w : World) (hr1 : Kd.C (Kd.slice 5 (Kd.int .u8)) w A1 l1.length l1) (hc1 : l1.length ≤ c1) (h : flagstoneref2_Hash.f k a0 l1 = some r) :
    Calls Tryd.prog 49 #[.int .u64 a0, .slice A1 l1.length c1] w fun e w' => e = .returned (.int .u64 r) ∧ Below w.heap.size w w' := by
  have HR1 := Aside0.mk hr1; have HC1 := Aside0.mk hc1; clear hr1 hc1
  have HB := Aside0.mk (Below.refl w.heap.size w)
  have H : ((flagstoneref2_Frame.f k l1).bind fun t149 => ((flagstoneref2_Sum.f k a0 0 t149).bind fun t152 => (some t152))) = some r := h
  clear h; replace H := Option.bind_eq_some_iff.mp H; obtain ⟨t149, A30, H⟩ := H
  replace H : ((flagstoneref2_Sum.f k a0 0 t149).bind fun t152 => (some t152)) = some r := H
  have A3 := Aside0.mk A30; clear A30; replace H := Option.bind_eq_some_iff.mp H; obtain ⟨t152, A40, H⟩ := H
  replace H : (some t152) = some r := H
  have A4 := Aside0.mk A40; clear A40
  obtain rfl := Option.some.inj H
  go_enter Tryd.func49, Tryd.ntmps49
  go_wp2_with (first | ((with_reducible refine gate_callee (f := 60) rfl ?_); refine goesL_ (some 7) rfl rfl Tryd.func60 (by kernel_rfl) rfl #[.slice A1 l1.length c1] rfl (by (try simp only [List.map_toArray, List.map_cons, List.map_nil]); first | done | rfl | (simp only [List.length_drop, List.length_take]; rfl)) ?_; (with_reducible refine (flagstoneref2_Frame.calls k _ _ l1 t149 _ ?side1 ?side2 A3.out).mono ?_); (case side1 => repeat (first | exact HR1.out | (with_reducible refine Kd.C_alloc ?_ _) | (with_reducible refine Kd.C_drewN ?_ _) | (with_reducible refine Kd.C_drew ?_))); (case side2 => exact HC1.out); rintro e w5 ⟨v150, rfl, ho0, hb⟩; refine ⟨_, rfl, ?_⟩; have n0_ := Aside0.mk (Kd.R_lower ho0 (below_size (by repeat (first | (with_reducible first|exact HB.out|apply zE|apply zB|apply zC) | exact HB.out)))); have n1_ := Aside0.mk (below_step (by repeat (first | (with_reducible first|exact HB.out|apply zE|apply zB|apply zC) | exact HB.out)) hb); clear HB; have HO151 := n0_; have HB := n1_; clear n0_ n1_; (try clear hb); (try clear hb2); (try clear hk); (try clear hi); (try clear hge); (try clear ho0); obtain ⟨Ao6, co6, eo6⟩ := Kd.R_slice HO151.out; subst eo6) | ((with_reducible refine gate_callee (f := 59) rfl ?_); refine goesL_ (some 8) rfl rfl Tryd.func59 (by kernel_rfl) rfl #[.int .u64 a0, .int .u64 0, .slice Ao6 t149.length co6] rfl (by (try simp only [List.map_toArray, List.map_cons, List.map_nil]); first | done | rfl | (simp only [List.length_drop, List.length_take]; rfl)) ?_; (with_reducible refine (flagstoneref2_Sum.calls k a0 0 _ _ t149 t152 _ ?side1 ?side2 A4.out).mono ?_); (case side1 => repeat (first | exact (Kd.R_reads' HO151.out).2.2 | (with_reducible refine Kd.C_alloc ?_ _) | (with_reducible refine Kd.C_drewN ?_ _) | (with_reducible refine Kd.C_drew ?_))); (case side2 => exact (Kd.R_reads' HO151.out).2.1); rintro e w7 ⟨rfl, hb⟩; refine ⟨_, rfl, ?_⟩; have n0_ := Aside0.mk (Kd.R_below (by (with_reducible repeat (first | apply Kd.R_alloc | apply Kd.R_drewN | apply Kd.R_drew)); exact HO151.out) hb); have n1_ := Aside0.mk (below_step (by repeat (first | (with_reducible first|exact HB.out|apply zE|apply zB|apply zC) | exact HB.out)) hb); clear HO151 HB; have HO151 := n0_; have HB := n1_; clear n0_ n1_; (try clear hb); (try clear hb2); (try clear hk); (try clear hi); (try clear hge)))
  go_ret
  exact ⟨by first | rfl | (simp [errW_none, errW_some] <;> rfl) | (simp [*, errW_none, errW_some] <;> rfl), by repeat (first | (with_reducible first|exact HB.out|apply zE|apply zB|apply zC) | exact HB.out)⟩

/-! ### flagstoneref13_Of: function 31 -/
set_option maxRecDepth 100000 in
set_option maxHeartbeats 4000000 in
theorem ref_of_any (k : Nat) (s t : ByteArray) (r : Int) (w : World) (hs : s.size ≤ 9223372036854775807) (ht : t.size ≤ 9223372036854775807) (h : flagstoneref2_Hash.f k 1 [bytesOf s, bytesOf t] = some r) (hr : 0 ≤ r) :
    Calls Tryd.prog 31 #[.string s, .string t] w fun e w' => e = .returned (.int .i64 (r % 10000)) ∧ Below w.heap.size w w' := by
  have HS := Aside0.mk hs; have HT := Aside0.mk ht; have H := Aside0.mk h
  have kb := fun (s : ByteArray) (W : World) => print_bytes (P := Tryd.prog) 9 24 5 Tryd.underlying9 Tryd.underlying24 Tryd.underlying5 s W
  have kz := fun (s : ByteArray) (W : World) => Lib.bytesWorld_size W 5 s
  clear hs ht h
  go_enter Tryd.func31, Tryd.ntmps31
  have hC1 : Kd.C (Kd.int .u8) (Lib.bytesWorld w 5 s) (some ⟨w.heap.size, 0, none⟩) (bytesOf s).length (bytesOf s) := by
    rw [bytesOf_length]
    exact Kd.C_of_reads (d := (0 : Int)) (h1 := fun _ => rfl) (bytes_reads w 5 s HS.out)
  have hC2 : Kd.C (Kd.int .u8) (Lib.bytesWorld (Lib.bytesWorld w 5 s) 5 t) (some ⟨w.heap.size + 1, 0, none⟩) (bytesOf t).length (bytesOf t) := by
    have h := bytes_reads (Lib.bytesWorld w 5 s) 5 t HT.out
    rw [kz] at h
    rw [bytesOf_length]
    exact Kd.C_of_reads (d := (0 : Int)) (h1 := fun _ => rfl) h
  have hB1 := bytes_below (Below.refl w.heap.size w) (Nat.le_refl _) 5 s
  have hB2 := bytes_below (Below.refl (Lib.bytesWorld w 5 s).heap.size (Lib.bytesWorld w 5 s)) (Nat.le_refl _) 5 t
  have hC1' := Kd.C_below hC1 hB2
  have HB2 := Aside0.mk (below_then hB1 hB1.size hB2)
  obtain ⟨O, hO⟩ : ∃ O : Obj, O = Obj.cells #[Value.slice (some ⟨w.heap.size, 0, none⟩) s.size (grownCap w s.size 0 5), Value.slice (some ⟨w.heap.size + 1, 0, none⟩) t.size (grownCap (Lib.bytesWorld w 5 s) t.size 0 5)] 24 := ⟨_, rfl⟩
  have hb := blk_new (Lib.bytesWorld (Lib.bytesWorld w 5 s) 5 t) O
  rw [kz, kz] at hb
  have h2 : Kd.C (Kd.slice 5 (Kd.int .u8)) ((Lib.bytesWorld (Lib.bytesWorld w 5 s) 5 t).alloc O) (some ⟨w.heap.size + 1 + 1, 0, none⟩) [bytesOf s, bytesOf t].length [bytesOf s, bytesOf t] := by
    refine two_slices (T := 24) (A1 := some ⟨w.heap.size, 0, none⟩) (c1 := grownCap w s.size 0 5) (A2 := some ⟨w.heap.size + 1, 0, none⟩) (c2 := grownCap (Lib.bytesWorld w 5 s) t.size 0 5) ?_ (Kd.C_alloc hC1' O) ?_ (Kd.C_alloc hC2 O) ?_
    · rw [hb, hO, bytesOf_length, bytesOf_length]
    · rw [bytesOf_length]; exact grownCap_ge ..
    · rw [bytesOf_length]; exact grownCap_ge ..
  rw [hO] at h2
  have H2 := Aside0.mk h2
  have HB3 := Aside0.mk (HB2.out.alloc (o := O) HB2.out.size |> fun h => by rw [hO] at h; exact h)
  clear hC1 hC2 hB1 hB2 hC1' hO hb h2
  go_wp2_with fail
  refine (flagstoneref2_Hash.calls k 1 (some ⟨w.heap.size + 1 + 1, 0, none⟩) 2 [bytesOf s, bytesOf t] r _ H2.out (by simp) H.out).mono ?_
  rintro e w1 ⟨rfl, hb1⟩
  have HB4 := Aside0.mk (below_then HB3.out HB3.out.size hb1)
  clear hb1
  have hr3 : r % 10000 < 10000 := Int.emod_lt_of_pos _ (by omega)
  have hr4 : 0 ≤ r % 10000 := Int.emod_nonneg _ (by omega)
  go_wp2
  go_ret
  exact ⟨rfl, HB4.out⟩
def flagstoneref13_Of.f (k : Nat) (a0 : ByteArray) (a1 : ByteArray) : Option Int := if a0.size ≤ 140737488355328 ∧ a1.size ≤ 140737488355328 then ((flagstoneref2_Hash.f k 1 [bytesOf a0, bytesOf a1]).bind fun r => if 0 ≤ r then some (r % 10000) else none) else none
theorem flagstoneref13_Of.mono : ∀ a0 a1 k, LeO (flagstoneref13_Of.f k a0 a1) (flagstoneref13_Of.f (k + 1) a0 a1) := fun a0 a1 k => by
  unfold flagstoneref13_Of.f
  exact LeO.ite (LeO.bind (flagstoneref2_Hash.mono _ _ _) (fun _ => LeO.refl _)) (LeO.refl _)
theorem flagstoneref13_Of.calls (k : Nat) (a0 : ByteArray) (a1 : ByteArray) (r : Int) (w : World) (h : flagstoneref13_Of.f k a0 a1 = some r) :
    Calls Tryd.prog 31 #[.string a0, .string a1] w fun e w' => e = .returned (.int .i64 r) ∧ Below w.heap.size w w' := by
  unfold flagstoneref13_Of.f at h
  by_cases hc : a0.size ≤ 140737488355328 ∧ a1.size ≤ 140737488355328
  · rw [if_pos hc] at h
    obtain ⟨q, hq, h⟩ := Option.bind_eq_some_iff.1 h
    by_cases h0 : 0 ≤ q
    · rw [if_pos h0] at h
      obtain rfl := Option.some.inj h
      exact ref_of_any k a0 a1 q w (by omega) (by omega) hq h0
    · rw [if_neg h0] at h
      cases h
  · rw [if_neg hc] at h
    cases h

end Go.Proofs.YtefglphdiimhnaaDoor.Q
