-- printed by wip/hp.py (the session's driver of the print, with hand-proved contracts)
import Derived.Test.YtefglphdiimhnaaDoorQ0
namespace Go.Proofs.YtefglphdiimhnaaDoor.Q
open Go.RowKit Go.Proofs.YtefglphdiimhnaaDoorW.PrintWords Go.Proofs.YtefglphdiimhnaaDoorW.PrintLast Go.Proofs.YtefglphdiimhnaaDoorW.PrintMore
attribute [local go_sem] max2_int min2_int max_two min_two max_three min_three max_four min_four   -- for this text's walks alone
set_option linter.unusedVariables false
set_option linter.unusedSimpArgs false

/-! ### digest_state_rounds: function 67 -/
section
/-- A word turned to the left. -/
def rotl (x : Int) (k : Int) : Int := Go.bits .or .u64 (shl .u64 x k) (shr .u64 x (64 - k))
theorem rotl_still13 (x : Int) (w : World) : Calls Tryd.prog 73 #[.int .u64 x, .int .i64 13] w (fun e w'' => e = .returned (.int .u64 (rotl x 13)) ∧ w'' = w) := by
  have e1 : Go.bits .and .u64 13 63 = 13 := by decide +kernel
  have e2 := Aside0.mk (show rotl x 13 = Go.bits .or .u64 (IntKind.u64.wrap (x * 8192)) (x / 2251799813685248) from rfl)
  go_enter Tryd.func73, Tryd.ntmps73
  go_wp2
  go_ret
  exact ⟨by rw [e2.out]; rfl, rfl⟩
theorem rotl_still16 (x : Int) (w : World) : Calls Tryd.prog 73 #[.int .u64 x, .int .i64 16] w (fun e w'' => e = .returned (.int .u64 (rotl x 16)) ∧ w'' = w) := by
  have e1 : Go.bits .and .u64 16 63 = 16 := by decide +kernel
  have e2 := Aside0.mk (show rotl x 16 = Go.bits .or .u64 (IntKind.u64.wrap (x * 65536)) (x / 281474976710656) from rfl)
  go_enter Tryd.func73, Tryd.ntmps73
  go_wp2
  go_ret
  exact ⟨by rw [e2.out]; rfl, rfl⟩
theorem rotl_still17 (x : Int) (w : World) : Calls Tryd.prog 73 #[.int .u64 x, .int .i64 17] w (fun e w'' => e = .returned (.int .u64 (rotl x 17)) ∧ w'' = w) := by
  have e1 : Go.bits .and .u64 17 63 = 17 := by decide +kernel
  have e2 := Aside0.mk (show rotl x 17 = Go.bits .or .u64 (IntKind.u64.wrap (x * 131072)) (x / 140737488355328) from rfl)
  go_enter Tryd.func73, Tryd.ntmps73
  go_wp2
  go_ret
  exact ⟨by rw [e2.out]; rfl, rfl⟩
theorem rotl_still21 (x : Int) (w : World) : Calls Tryd.prog 73 #[.int .u64 x, .int .i64 21] w (fun e w'' => e = .returned (.int .u64 (rotl x 21)) ∧ w'' = w) := by
  have e1 : Go.bits .and .u64 21 63 = 21 := by decide +kernel
  have e2 := Aside0.mk (show rotl x 21 = Go.bits .or .u64 (IntKind.u64.wrap (x * 2097152)) (x / 8796093022208) from rfl)
  go_enter Tryd.func73, Tryd.ntmps73
  go_wp2
  go_ret
  exact ⟨by rw [e2.out]; rfl, rfl⟩
theorem rotl_still32 (x : Int) (w : World) : Calls Tryd.prog 73 #[.int .u64 x, .int .i64 32] w (fun e w'' => e = .returned (.int .u64 (rotl x 32)) ∧ w'' = w) := by
  have e1 : Go.bits .and .u64 32 63 = 32 := by decide +kernel
  have e2 := Aside0.mk (show rotl x 32 = Go.bits .or .u64 (IntKind.u64.wrap (x * 4294967296)) (x / 4294967296) from rfl)
  go_enter Tryd.func73, Tryd.ntmps73
  go_wp2
  go_ret
  exact ⟨by rw [e2.out]; rfl, rfl⟩
/-- The four words of the state. -/
def St4 (T : Nat) (w : World) (g : Nat) (a b c d : Int) : Prop := w.heap[g]? = some (.cells #[.int .u64 a, .int .u64 b, .int .u64 c, .int .u64 d] T (0, 0))
theorem St4.c0 {T : Nat} {w : World} {g : Nat} {a b c d : Int} (h : St4 T w g a b c d) : w.cell? ⟨g, 0, none⟩ = some (.int .u64 a) := (blk_cell h 0).trans rfl
theorem St4.c1 {T : Nat} {w : World} {g : Nat} {a b c d : Int} (h : St4 T w g a b c d) : w.cell? ⟨g, 1, none⟩ = some (.int .u64 b) := (blk_cell h 1).trans rfl
theorem St4.c2 {T : Nat} {w : World} {g : Nat} {a b c d : Int} (h : St4 T w g a b c d) : w.cell? ⟨g, 2, none⟩ = some (.int .u64 c) := (blk_cell h 2).trans rfl
theorem St4.c3 {T : Nat} {w : World} {g : Nat} {a b c d : Int} (h : St4 T w g a b c d) : w.cell? ⟨g, 3, none⟩ = some (.int .u64 d) := (blk_cell h 3).trans rfl
theorem St4.fr {T : Nat} {w : World} {g : Nat} {a b c d : Int} (h : St4 T w g a b c d) (i : Nat) : w.frozen? ⟨g, i, none⟩ = false := blk_frozen h i
theorem St4.s0 {T : Nat} {w : World} {g : Nat} {a b c d : Int} (h : St4 T w g a b c d) (x : Int) : St4 T (w.setCell ⟨g, 0, none⟩ (.int .u64 x)) g x b c d := blk_put h 0 _ rfl
theorem St4.s1 {T : Nat} {w : World} {g : Nat} {a b c d : Int} (h : St4 T w g a b c d) (x : Int) : St4 T (w.setCell ⟨g, 1, none⟩ (.int .u64 x)) g a x c d := blk_put h 1 _ rfl
theorem St4.s2 {T : Nat} {w : World} {g : Nat} {a b c d : Int} (h : St4 T w g a b c d) (x : Int) : St4 T (w.setCell ⟨g, 2, none⟩ (.int .u64 x)) g a b x d := blk_put h 2 _ rfl
theorem St4.s3 {T : Nat} {w : World} {g : Nat} {a b c d : Int} (h : St4 T w g a b c d) (x : Int) : St4 T (w.setCell ⟨g, 3, none⟩ (.int .u64 x)) g a b c x := blk_put h 3 _ rfl
theorem St4.drew {T : Nat} {w : World} {g : Nat} {a b c d : Int} (h : St4 T w g a b c d) : St4 T w.drew g a b c d := h
def sipR (s : Int × Int × Int × Int) : Int × Int × Int × Int :=
  let a := s.1; let b := s.2.1; let c := s.2.2.1; let d := s.2.2.2
  let a1 := IntKind.u64.wrap (a + b); let b1 := Go.bits .xor .u64 (rotl b 13) a1; let a2 := rotl a1 32
  let c1 := IntKind.u64.wrap (c + d); let d1 := Go.bits .xor .u64 (rotl d 16) c1
  let a3 := IntKind.u64.wrap (a2 + d1); let d2 := Go.bits .xor .u64 (rotl d1 21) a3
  let c2 := IntKind.u64.wrap (c1 + b1); let b2 := Go.bits .xor .u64 (rotl b1 17) c2
  (a3, b2, rotl c2 32, d2)
def sipN : Nat → Int × Int × Int × Int → Int × Int × Int × Int
  | 0, s => s
  | n + 1, s => sipN n (sipR s)
def StT (w : World) (g : Nat) (s : Int × Int × Int × Int) : Prop := St4 105 w g s.1 s.2.1 s.2.2.1 s.2.2.2
set_option maxRecDepth 100000 in
set_option maxHeartbeats 4000000 in
theorem rounds_any (n : Nat) (hn : n ≤ 100) (g : Nat) (s : Int × Int × Int × Int) (w : World) (hb : StT w g s) :
    Calls Tryd.prog 67 #[.pointer (some ⟨g, 0, none⟩), .int .i64 (n : Int)] w fun e w' => e = .returned (.tuple #[]) ∧ StT w' g (sipN n s) ∧ KeepBut w w' g none ∧ Below g w w' := by
  have HB := Aside0.mk hb; clear hb
  go_enter Tryd.func67, Tryd.ntmps67
  go_wp2
  go_loopw [5] (fun v wr => ∃ (k r : Nat) (s' : Int × Int × Int × Int), v = .int .i64 (k : Int) ∧ k + r = n ∧ Aside0 (sipN r s' = sipN n s) ∧ Aside0 (StT wr g s') ∧ Aside0 (KeepBut w wr g none) ∧ Aside0 (Below g w wr)) (fun v _ => n - (intOf v).toNat)
  case atStart => exact ⟨0, n, s, rfl, by omega, ⟨rfl⟩, HB, ⟨KeepBut.refl _ _ _⟩, ⟨Below.refl _ _⟩⟩
  case round =>
    clear HB
    obtain ⟨k, r, ⟨a, b, c, d⟩, rfl, hk, HS, HB, HK, HW⟩ := hrel
    rcases r with _ | r
    · obtain rfl : k = n := by omega
      go_wp2
      go_end0
      exact ⟨rfl, by rw [← HS.out]; exact HB.out, HK.out, HW.out⟩
    · have hlt : k < n := by omega
      replace HB := Aside0.mk (show St4 105 wr g a b c d from HB.out)
      obtain ⟨k0, k1, k2, k3⟩ := And.intro HB.out.c0 (And.intro HB.out.c1 (And.intro HB.out.c2 HB.out.c3))
      have ff := HB.out.fr 0
      go_wp2
      go_still_tail 11, (by kernel_rfl)
      go_wp2
      clear k0 k1 k2 k3 ff
      generalize hv0 : IntKind.u64.wrap (a + b) = a1
      have V0 := Aside0.mk hv0; clear hv0
      generalize hw0 : (wr.setCell ⟨g, 0, none⟩ (.int .u64 a1)).drew = w0
      replace HB := Aside0.mk (hw0 ▸ (HB.out.s0 a1).drew)
      replace HK := Aside0.mk (hw0 ▸ zG (HK.out.set_ 0 (.int .u64 a1)))
      replace HW := Aside0.mk (hw0 ▸ below_drew (HW.out.setCell (p := ⟨g, 0, none⟩) (Nat.le_refl _) (.int .u64 a1)))
      clear hw0
      obtain ⟨k0, k1, k2, k3⟩ := And.intro HB.out.c0 (And.intro HB.out.c1 (And.intro HB.out.c2 HB.out.c3))
      have ff := HB.out.fr 1
      go_still_tail 13, (by kernel_rfl)
      still_call (rotl_still13 _ _)
      repeat still_step
      refine wpStill_nil ?_
      go_wp2
      clear k0 k1 k2 k3 ff
      generalize hv1 : Go.bits .xor .u64 (rotl b 13) a1 = b1
      have V1 := Aside0.mk hv1; clear hv1
      generalize hw1 : (w0.setCell ⟨g, 1, none⟩ (.int .u64 b1)).drew = w1
      replace HB := Aside0.mk (hw1 ▸ (HB.out.s1 b1).drew)
      replace HK := Aside0.mk (hw1 ▸ zG (HK.out.set_ 1 (.int .u64 b1)))
      replace HW := Aside0.mk (hw1 ▸ below_drew (HW.out.setCell (p := ⟨g, 1, none⟩) (Nat.le_refl _) (.int .u64 b1)))
      clear hw1
      obtain ⟨k0, k1, k2, k3⟩ := And.intro HB.out.c0 (And.intro HB.out.c1 (And.intro HB.out.c2 HB.out.c3))
      have ff := HB.out.fr 0
      go_still_tail 8, (by kernel_rfl)
      still_call (rotl_still32 _ _)
      repeat still_step
      refine wpStill_nil ?_
      go_wp2
      clear k0 k1 k2 k3 ff
      generalize hv2 : rotl a1 32 = a2
      have V2 := Aside0.mk hv2; clear hv2
      generalize hw2 : (w1.setCell ⟨g, 0, none⟩ (.int .u64 a2)).drew = w2
      replace HB := Aside0.mk (hw2 ▸ (HB.out.s0 a2).drew)
      replace HK := Aside0.mk (hw2 ▸ zG (HK.out.set_ 0 (.int .u64 a2)))
      replace HW := Aside0.mk (hw2 ▸ below_drew (HW.out.setCell (p := ⟨g, 0, none⟩) (Nat.le_refl _) (.int .u64 a2)))
      clear hw2
      obtain ⟨k0, k1, k2, k3⟩ := And.intro HB.out.c0 (And.intro HB.out.c1 (And.intro HB.out.c2 HB.out.c3))
      have ff := HB.out.fr 2
      go_still_tail 11, (by kernel_rfl)
      go_wp2
      clear k0 k1 k2 k3 ff
      generalize hv3 : IntKind.u64.wrap (c + d) = c1
      have V3 := Aside0.mk hv3; clear hv3
      generalize hw3 : (w2.setCell ⟨g, 2, none⟩ (.int .u64 c1)).drew = w3
      replace HB := Aside0.mk (hw3 ▸ (HB.out.s2 c1).drew)
      replace HK := Aside0.mk (hw3 ▸ zG (HK.out.set_ 2 (.int .u64 c1)))
      replace HW := Aside0.mk (hw3 ▸ below_drew (HW.out.setCell (p := ⟨g, 2, none⟩) (Nat.le_refl _) (.int .u64 c1)))
      clear hw3
      obtain ⟨k0, k1, k2, k3⟩ := And.intro HB.out.c0 (And.intro HB.out.c1 (And.intro HB.out.c2 HB.out.c3))
      have ff := HB.out.fr 3
      go_still_tail 13, (by kernel_rfl)
      still_call (rotl_still16 _ _)
      repeat still_step
      refine wpStill_nil ?_
      go_wp2
      clear k0 k1 k2 k3 ff
      generalize hv4 : Go.bits .xor .u64 (rotl d 16) c1 = d1
      have V4 := Aside0.mk hv4; clear hv4
      generalize hw4 : (w3.setCell ⟨g, 3, none⟩ (.int .u64 d1)).drew = w4
      replace HB := Aside0.mk (hw4 ▸ (HB.out.s3 d1).drew)
      replace HK := Aside0.mk (hw4 ▸ zG (HK.out.set_ 3 (.int .u64 d1)))
      replace HW := Aside0.mk (hw4 ▸ below_drew (HW.out.setCell (p := ⟨g, 3, none⟩) (Nat.le_refl _) (.int .u64 d1)))
      clear hw4
      obtain ⟨k0, k1, k2, k3⟩ := And.intro HB.out.c0 (And.intro HB.out.c1 (And.intro HB.out.c2 HB.out.c3))
      have ff := HB.out.fr 0
      go_still_tail 11, (by kernel_rfl)
      go_wp2
      clear k0 k1 k2 k3 ff
      generalize hv5 : IntKind.u64.wrap (a2 + d1) = a3
      have V5 := Aside0.mk hv5; clear hv5
      generalize hw5 : (w4.setCell ⟨g, 0, none⟩ (.int .u64 a3)).drew = w5
      replace HB := Aside0.mk (hw5 ▸ (HB.out.s0 a3).drew)
      replace HK := Aside0.mk (hw5 ▸ zG (HK.out.set_ 0 (.int .u64 a3)))
      replace HW := Aside0.mk (hw5 ▸ below_drew (HW.out.setCell (p := ⟨g, 0, none⟩) (Nat.le_refl _) (.int .u64 a3)))
      clear hw5
      obtain ⟨k0, k1, k2, k3⟩ := And.intro HB.out.c0 (And.intro HB.out.c1 (And.intro HB.out.c2 HB.out.c3))
      have ff := HB.out.fr 3
      go_still_tail 13, (by kernel_rfl)
      still_call (rotl_still21 _ _)
      repeat still_step
      refine wpStill_nil ?_
      go_wp2
      clear k0 k1 k2 k3 ff
      generalize hv6 : Go.bits .xor .u64 (rotl d1 21) a3 = d2
      have V6 := Aside0.mk hv6; clear hv6
      generalize hw6 : (w5.setCell ⟨g, 3, none⟩ (.int .u64 d2)).drew = w6
      replace HB := Aside0.mk (hw6 ▸ (HB.out.s3 d2).drew)
      replace HK := Aside0.mk (hw6 ▸ zG (HK.out.set_ 3 (.int .u64 d2)))
      replace HW := Aside0.mk (hw6 ▸ below_drew (HW.out.setCell (p := ⟨g, 3, none⟩) (Nat.le_refl _) (.int .u64 d2)))
      clear hw6
      obtain ⟨k0, k1, k2, k3⟩ := And.intro HB.out.c0 (And.intro HB.out.c1 (And.intro HB.out.c2 HB.out.c3))
      have ff := HB.out.fr 2
      go_still_tail 11, (by kernel_rfl)
      go_wp2
      clear k0 k1 k2 k3 ff
      generalize hv7 : IntKind.u64.wrap (c1 + b1) = c2
      have V7 := Aside0.mk hv7; clear hv7
      generalize hw7 : (w6.setCell ⟨g, 2, none⟩ (.int .u64 c2)).drew = w7
      replace HB := Aside0.mk (hw7 ▸ (HB.out.s2 c2).drew)
      replace HK := Aside0.mk (hw7 ▸ zG (HK.out.set_ 2 (.int .u64 c2)))
      replace HW := Aside0.mk (hw7 ▸ below_drew (HW.out.setCell (p := ⟨g, 2, none⟩) (Nat.le_refl _) (.int .u64 c2)))
      clear hw7
      obtain ⟨k0, k1, k2, k3⟩ := And.intro HB.out.c0 (And.intro HB.out.c1 (And.intro HB.out.c2 HB.out.c3))
      have ff := HB.out.fr 1
      go_still_tail 13, (by kernel_rfl)
      still_call (rotl_still17 _ _)
      repeat still_step
      refine wpStill_nil ?_
      go_wp2
      clear k0 k1 k2 k3 ff
      generalize hv8 : Go.bits .xor .u64 (rotl b1 17) c2 = b2
      have V8 := Aside0.mk hv8; clear hv8
      generalize hw8 : (w7.setCell ⟨g, 1, none⟩ (.int .u64 b2)).drew = w8
      replace HB := Aside0.mk (hw8 ▸ (HB.out.s1 b2).drew)
      replace HK := Aside0.mk (hw8 ▸ zG (HK.out.set_ 1 (.int .u64 b2)))
      replace HW := Aside0.mk (hw8 ▸ below_drew (HW.out.setCell (p := ⟨g, 1, none⟩) (Nat.le_refl _) (.int .u64 b2)))
      clear hw8
      obtain ⟨k0, k1, k2, k3⟩ := And.intro HB.out.c0 (And.intro HB.out.c1 (And.intro HB.out.c2 HB.out.c3))
      have ff := HB.out.fr 2
      go_still_tail 8, (by kernel_rfl)
      still_call (rotl_still32 _ _)
      repeat still_step
      refine wpStill_nil ?_
      go_wp2
      clear k0 k1 k2 k3 ff
      generalize hv9 : rotl c2 32 = c3
      have V9 := Aside0.mk hv9; clear hv9
      generalize hw9 : (w8.setCell ⟨g, 2, none⟩ (.int .u64 c3)).drew = w9
      replace HB := Aside0.mk (hw9 ▸ (HB.out.s2 c3).drew)
      replace HK := Aside0.mk (hw9 ▸ zG (HK.out.set_ 2 (.int .u64 c3)))
      replace HW := Aside0.mk (hw9 ▸ below_drew (HW.out.setCell (p := ⟨g, 2, none⟩) (Nat.le_refl _) (.int .u64 c3)))
      clear hw9
      go_roundw
      case measure => simp [intOf]; omega
      case rel => exact ⟨k + 1, r, (a3, b2, c3, d2), by go_num, by omega, ⟨by rw [← HS.out]; show _ = sipN r (sipR (a, b, c, d)); simp only [sipR, V0.out, V1.out, V2.out, V3.out, V4.out, V5.out, V6.out, V7.out, V8.out, V9.out]⟩, HB, HK, HW⟩
theorem rot_still13 (x : Int) (w : World) : Calls Tryd.prog 74 #[.int .u64 x, .int .u64 13] w (fun e w'' => e = .returned (.int .u64 (rotl x 13)) ∧ w'' = w) := by
  have e2 := Aside0.mk (show rotl x 13 = Go.bits .or .u64 (IntKind.u64.wrap (x * 8192)) (x / 2251799813685248) from rfl)
  go_enter Tryd.func74, Tryd.ntmps74
  go_wp2
  go_ret
  exact ⟨by rw [e2.out]; rfl, rfl⟩
theorem rot_still16 (x : Int) (w : World) : Calls Tryd.prog 74 #[.int .u64 x, .int .u64 16] w (fun e w'' => e = .returned (.int .u64 (rotl x 16)) ∧ w'' = w) := by
  have e2 := Aside0.mk (show rotl x 16 = Go.bits .or .u64 (IntKind.u64.wrap (x * 65536)) (x / 281474976710656) from rfl)
  go_enter Tryd.func74, Tryd.ntmps74
  go_wp2
  go_ret
  exact ⟨by rw [e2.out]; rfl, rfl⟩
theorem rot_still17 (x : Int) (w : World) : Calls Tryd.prog 74 #[.int .u64 x, .int .u64 17] w (fun e w'' => e = .returned (.int .u64 (rotl x 17)) ∧ w'' = w) := by
  have e2 := Aside0.mk (show rotl x 17 = Go.bits .or .u64 (IntKind.u64.wrap (x * 131072)) (x / 140737488355328) from rfl)
  go_enter Tryd.func74, Tryd.ntmps74
  go_wp2
  go_ret
  exact ⟨by rw [e2.out]; rfl, rfl⟩
theorem rot_still21 (x : Int) (w : World) : Calls Tryd.prog 74 #[.int .u64 x, .int .u64 21] w (fun e w'' => e = .returned (.int .u64 (rotl x 21)) ∧ w'' = w) := by
  have e2 := Aside0.mk (show rotl x 21 = Go.bits .or .u64 (IntKind.u64.wrap (x * 2097152)) (x / 8796093022208) from rfl)
  go_enter Tryd.func74, Tryd.ntmps74
  go_wp2
  go_ret
  exact ⟨by rw [e2.out]; rfl, rfl⟩
theorem rot_still32 (x : Int) (w : World) : Calls Tryd.prog 74 #[.int .u64 x, .int .u64 32] w (fun e w'' => e = .returned (.int .u64 (rotl x 32)) ∧ w'' = w) := by
  have e2 := Aside0.mk (show rotl x 32 = Go.bits .or .u64 (IntKind.u64.wrap (x * 4294967296)) (x / 4294967296) from rfl)
  go_enter Tryd.func74, Tryd.ntmps74
  go_wp2
  go_ret
  exact ⟨by rw [e2.out]; rfl, rfl⟩
theorem St4.far {T : Nat} {w : World} {g : Nat} {a b c d : Int} (h : St4 T w g a b c d) {p : Addr} (hp : g ≠ p.block) (u : Value) : St4 T (w.setCell p u) g a b c d := blk_far h hp u
set_option maxRecDepth 100000 in
set_option maxHeartbeats 4000000 in
theorem ref_rounds_any (n : Nat) (hn : n ≤ 100) (a b c d : Int) (w : World) :
    Calls Tryd.prog 68 #[.agg #[.int .u64 a, .int .u64 b, .int .u64 c, .int .u64 d], .int .i64 (n : Int)] w fun e w' => e = .returned (.agg #[.int .u64 (sipN n (a, b, c, d)).1, .int .u64 (sipN n (a, b, c, d)).2.1, .int .u64 (sipN n (a, b, c, d)).2.2.1, .int .u64 (sipN n (a, b, c, d)).2.2.2]) ∧ Below w.heap.size w w' := by
  have HB := Aside0.mk (show St4 110 ((w.alloc (.cells #[.int .u64 a, .int .u64 b, .int .u64 c, .int .u64 d] 110)).alloc (.cells #[.int .u64 0, .int .u64 0, .int .u64 0, .int .u64 0] 110)) w.heap.size a b c d from zA (blk_new _ _) _)
  have HR := Aside0.mk (show St4 110 ((w.alloc (.cells #[.int .u64 a, .int .u64 b, .int .u64 c, .int .u64 d] 110)).alloc (.cells #[.int .u64 0, .int .u64 0, .int .u64 0, .int .u64 0] 110)) (w.heap.size + 1) 0 0 0 0 from by
    have h := blk_new (w.alloc (.cells #[.int .u64 a, .int .u64 b, .int .u64 c, .int .u64 d] 110)) (.cells #[.int .u64 0, .int .u64 0, .int .u64 0, .int .u64 0] 110)
    rwa [World.size_alloc] at h)
  have HW := Aside0.mk (((Below.refl w.heap.size w).alloc (Nat.le_refl _) (.cells #[.int .u64 a, .int .u64 b, .int .u64 c, .int .u64 d] 110)).alloc (by simp) (.cells #[.int .u64 0, .int .u64 0, .int .u64 0, .int .u64 0] 110))
  obtain ⟨sN, hsN⟩ : ∃ sN, sN = sipN n (a, b, c, d) := ⟨_, rfl⟩
  rw [← hsN]
  have HSN := Aside0.mk hsN; clear hsN; have hu110 := Tryd.underlying110
  go_enter Tryd.func68, Tryd.ntmps68
  go_wp2
  generalize ((w.alloc (.cells #[.int .u64 a, .int .u64 b, .int .u64 c, .int .u64 d] 110)).alloc (.cells #[.int .u64 0, .int .u64 0, .int .u64 0, .int .u64 0] 110)) = w9 at HB HR HW ⊢
  go_loopw [5] (fun v wr => ∃ (k r : Nat) (a b c d : Int), v = .int .i64 (k : Int) ∧ k + r = n ∧ Aside0 (sipN r (a, b, c, d) = sN) ∧ Aside0 (St4 110 wr w.heap.size a b c d) ∧ Aside0 (St4 110 wr (w.heap.size + 1) 0 0 0 0) ∧ Aside0 (Below w.heap.size w wr)) (fun v _ => n - (intOf v).toNat)
  case atStart => exact ⟨0, n, a, b, c, d, rfl, by omega, ⟨HSN.out.symm⟩, HB, HR, HW⟩
  case round =>
    clear HB HR HW
    obtain ⟨k, r, a, b, c, d, rfl, hk, HS, HB, HR, HW⟩ := hrel
    obtain ⟨g, hg⟩ : ∃ g, g = w.heap.size := ⟨_, rfl⟩
    have HG := Aside0.mk hg; clear hg
    rcases r with _ | r
    · obtain rfl : k = n := by omega
      obtain ⟨k0, k1, k2, k3⟩ := And.intro HB.out.c0 (And.intro HB.out.c1 (And.intro HB.out.c2 HB.out.c3))
      obtain ⟨j0, j1, j2, j3⟩ := And.intro HR.out.c0 (And.intro HR.out.c1 (And.intro HR.out.c2 HR.out.c3))
      obtain ⟨f0, f1, f2, f3⟩ := And.intro (HR.out.fr 0) (And.intro (HR.out.fr 1) (And.intro (HR.out.fr 2) (HR.out.fr 3)))
      have hE := HS.out
      simp only [sipN] at hE
      subst hE
      go_wp2
      refine bodyPost_ret (results_cell_row rfl _ _ (w.heap.size + 1) 110 #[.int .u64 a, .int .u64 b, .int .u64 c, .int .u64 d] (0, 0) _ rfl (((((HR.out.s0 a).s1 b).s2 c).s3 d : St4 110 _ _ _ _ _ _)) Tryd.underlying110 rfl (by kernel_rfl)) rfl ⟨rfl, (((HW.out.setCell (p := ⟨w.heap.size + 1, 0, none⟩) (by dsimp only; omega) _).setCell (p := ⟨w.heap.size + 1, 1, none⟩) (by dsimp only; omega) _).setCell (p := ⟨w.heap.size + 1, 2, none⟩) (by dsimp only; omega) _).setCell (p := ⟨w.heap.size + 1, 3, none⟩) (by dsimp only; omega) _⟩
    · have hlt : k < n := by omega
      as_aux_lemma =>
        obtain ⟨k0, k1, k2, k3⟩ := And.intro HB.out.c0 (And.intro HB.out.c1 (And.intro HB.out.c2 HB.out.c3))
        have ff0 := HB.out.fr 0
        go_wp2
        clear k0 k1 k2 k3 ff0
        generalize hv0 : IntKind.u64.wrap (a + b) = a1
        have V0 := Aside0.mk hv0; clear hv0
        have n1_ := Aside0.mk (HB.out.s0 a1)
        have n2_ := Aside0.mk (HR.out.far (p := ⟨w.heap.size, 0, none⟩) (by dsimp only; omega) (.int .u64 a1))
        have n3_ := Aside0.mk (HW.out.setCell (p := ⟨w.heap.size, 0, none⟩) (Nat.le_refl _) (.int .u64 a1))
        clear HB HR HW
        generalize (wr.setCell ⟨w.heap.size, 0, none⟩ (.int .u64 a1)) = w0 at n1_ n2_ n3_ ⊢
        have HB := n1_; have HR := n2_; have HW := n3_; clear n1_ n2_ n3_
        as_aux_lemma =>
          obtain ⟨k0, k1, k2, k3⟩ := And.intro HB.out.c0 (And.intro HB.out.c1 (And.intro HB.out.c2 HB.out.c3))
          have ff1 := HB.out.fr 1
          go_still_tail 7, (by kernel_rfl)
          still_call (rot_still13 _ _)
          repeat still_step
          refine wpStill_nil ?_
          go_upto_region 6 with (fail)
          clear k0 k1 k2 k3 ff1
          generalize hv1 : Go.bits .xor .u64 (rotl b 13) a1 = b1
          have V1 := Aside0.mk hv1; clear hv1
          have n1_ := Aside0.mk (HB.out.s1 b1).drew
          have n2_ := Aside0.mk (HR.out.far (p := ⟨w.heap.size, 1, none⟩) (by dsimp only; omega) (.int .u64 b1)).drew
          have n3_ := Aside0.mk (below_drew (HW.out.setCell (p := ⟨w.heap.size, 1, none⟩) (Nat.le_refl _) (.int .u64 b1)))
          clear HB HR HW
          generalize (w0.setCell ⟨w.heap.size, 1, none⟩ (.int .u64 b1)).drew = w1 at n1_ n2_ n3_ ⊢
          have HB := n1_; have HR := n2_; have HW := n3_; clear n1_ n2_ n3_
          as_aux_lemma =>
            obtain ⟨k0, k1, k2, k3⟩ := And.intro HB.out.c0 (And.intro HB.out.c1 (And.intro HB.out.c2 HB.out.c3))
            have ff0 := HB.out.fr 0; have ff2 := HB.out.fr 2
            go_wp2_with (go_at_call 74; refine (rot_still32 _ _).mono ?_; rintro e w' ⟨rfl, hw'⟩; have hw2 := hw'.symm; subst hw2)
            clear k0 k1 k2 k3 ff0 ff2
            generalize hv2 : rotl a1 32 = a2
            have V2 := Aside0.mk hv2; clear hv2
            generalize hv3 : IntKind.u64.wrap (c + d) = c1
            have V3 := Aside0.mk hv3; clear hv3
            have n1_ := Aside0.mk ((HB.out.s0 a2).s2 c1)
            have n2_ := Aside0.mk ((HR.out.far (p := ⟨w.heap.size, 0, none⟩) (by dsimp only; omega) (.int .u64 a2)).far (p := ⟨w.heap.size, 2, none⟩) (by dsimp only; omega) (.int .u64 c1))
            have n3_ := Aside0.mk ((HW.out.setCell (p := ⟨w.heap.size, 0, none⟩) (Nat.le_refl _) (.int .u64 a2)).setCell (p := ⟨w.heap.size, 2, none⟩) (Nat.le_refl _) (.int .u64 c1))
            clear HB HR HW
            generalize ((w1.setCell ⟨w.heap.size, 0, none⟩ (.int .u64 a2)).setCell ⟨w.heap.size, 2, none⟩ (.int .u64 c1)) = w2 at n1_ n2_ n3_ ⊢
            have HB := n1_; have HR := n2_; have HW := n3_; clear n1_ n2_ n3_
            as_aux_lemma =>
              obtain ⟨k0, k1, k2, k3⟩ := And.intro HB.out.c0 (And.intro HB.out.c1 (And.intro HB.out.c2 HB.out.c3))
              have ff3 := HB.out.fr 3
              go_still_tail 7, (by kernel_rfl)
              still_call (rot_still16 _ _)
              repeat still_step
              refine wpStill_nil ?_
              go_upto_region 9 with (fail)
              clear k0 k1 k2 k3 ff3
              generalize hv4 : Go.bits .xor .u64 (rotl d 16) c1 = d1
              have V4 := Aside0.mk hv4; clear hv4
              have n1_ := Aside0.mk (HB.out.s3 d1).drew
              have n2_ := Aside0.mk (HR.out.far (p := ⟨w.heap.size, 3, none⟩) (by dsimp only; omega) (.int .u64 d1)).drew
              have n3_ := Aside0.mk (below_drew (HW.out.setCell (p := ⟨w.heap.size, 3, none⟩) (Nat.le_refl _) (.int .u64 d1)))
              clear HB HR HW
              generalize (w2.setCell ⟨w.heap.size, 3, none⟩ (.int .u64 d1)).drew = w3 at n1_ n2_ n3_ ⊢
              have HB := n1_; have HR := n2_; have HW := n3_; clear n1_ n2_ n3_
              as_aux_lemma =>
                obtain ⟨k0, k1, k2, k3⟩ := And.intro HB.out.c0 (And.intro HB.out.c1 (And.intro HB.out.c2 HB.out.c3))
                have ff0 := HB.out.fr 0
                go_wp2
                clear k0 k1 k2 k3 ff0
                generalize hv5 : IntKind.u64.wrap (a2 + d1) = a3
                have V5 := Aside0.mk hv5; clear hv5
                have n1_ := Aside0.mk (HB.out.s0 a3)
                have n2_ := Aside0.mk (HR.out.far (p := ⟨w.heap.size, 0, none⟩) (by dsimp only; omega) (.int .u64 a3))
                have n3_ := Aside0.mk (HW.out.setCell (p := ⟨w.heap.size, 0, none⟩) (Nat.le_refl _) (.int .u64 a3))
                clear HB HR HW
                generalize (w3.setCell ⟨w.heap.size, 0, none⟩ (.int .u64 a3)) = w4 at n1_ n2_ n3_ ⊢
                have HB := n1_; have HR := n2_; have HW := n3_; clear n1_ n2_ n3_
                as_aux_lemma =>
                  obtain ⟨k0, k1, k2, k3⟩ := And.intro HB.out.c0 (And.intro HB.out.c1 (And.intro HB.out.c2 HB.out.c3))
                  have ff3 := HB.out.fr 3
                  go_still_tail 7, (by kernel_rfl)
                  still_call (rot_still21 _ _)
                  repeat still_step
                  refine wpStill_nil ?_
                  go_upto_region 11 with (fail)
                  clear k0 k1 k2 k3 ff3
                  generalize hv6 : Go.bits .xor .u64 (rotl d1 21) a3 = d2
                  have V6 := Aside0.mk hv6; clear hv6
                  have n1_ := Aside0.mk (HB.out.s3 d2).drew
                  have n2_ := Aside0.mk (HR.out.far (p := ⟨w.heap.size, 3, none⟩) (by dsimp only; omega) (.int .u64 d2)).drew
                  have n3_ := Aside0.mk (below_drew (HW.out.setCell (p := ⟨w.heap.size, 3, none⟩) (Nat.le_refl _) (.int .u64 d2)))
                  clear HB HR HW
                  generalize (w4.setCell ⟨w.heap.size, 3, none⟩ (.int .u64 d2)).drew = w5 at n1_ n2_ n3_ ⊢
                  have HB := n1_; have HR := n2_; have HW := n3_; clear n1_ n2_ n3_
                  as_aux_lemma =>
                    obtain ⟨k0, k1, k2, k3⟩ := And.intro HB.out.c0 (And.intro HB.out.c1 (And.intro HB.out.c2 HB.out.c3))
                    have ff2 := HB.out.fr 2
                    go_wp2
                    clear k0 k1 k2 k3 ff2
                    generalize hv7 : IntKind.u64.wrap (c1 + b1) = c2
                    have V7 := Aside0.mk hv7; clear hv7
                    have n1_ := Aside0.mk (HB.out.s2 c2)
                    have n2_ := Aside0.mk (HR.out.far (p := ⟨w.heap.size, 2, none⟩) (by dsimp only; omega) (.int .u64 c2))
                    have n3_ := Aside0.mk (HW.out.setCell (p := ⟨w.heap.size, 2, none⟩) (Nat.le_refl _) (.int .u64 c2))
                    clear HB HR HW
                    generalize (w5.setCell ⟨w.heap.size, 2, none⟩ (.int .u64 c2)) = w6 at n1_ n2_ n3_ ⊢
                    have HB := n1_; have HR := n2_; have HW := n3_; clear n1_ n2_ n3_
                    as_aux_lemma =>
                      obtain ⟨k0, k1, k2, k3⟩ := And.intro HB.out.c0 (And.intro HB.out.c1 (And.intro HB.out.c2 HB.out.c3))
                      have ff1 := HB.out.fr 1
                      go_still_tail 7, (by kernel_rfl)
                      still_call (rot_still17 _ _)
                      repeat still_step
                      refine wpStill_nil ?_
                      go_upto_region 13 with (fail)
                      clear k0 k1 k2 k3 ff1
                      generalize hv8 : Go.bits .xor .u64 (rotl b1 17) c2 = b2
                      have V8 := Aside0.mk hv8; clear hv8
                      have n1_ := Aside0.mk (HB.out.s1 b2).drew
                      have n2_ := Aside0.mk (HR.out.far (p := ⟨w.heap.size, 1, none⟩) (by dsimp only; omega) (.int .u64 b2)).drew
                      have n3_ := Aside0.mk (below_drew (HW.out.setCell (p := ⟨w.heap.size, 1, none⟩) (Nat.le_refl _) (.int .u64 b2)))
                      clear HB HR HW
                      generalize (w6.setCell ⟨w.heap.size, 1, none⟩ (.int .u64 b2)).drew = w7 at n1_ n2_ n3_ ⊢
                      have HB := n1_; have HR := n2_; have HW := n3_; clear n1_ n2_ n3_
                      as_aux_lemma =>
                        obtain ⟨k0, k1, k2, k3⟩ := And.intro HB.out.c0 (And.intro HB.out.c1 (And.intro HB.out.c2 HB.out.c3))
                        have ff2 := HB.out.fr 2
                        go_wp2_with (go_at_call 74; refine (rot_still32 _ _).mono ?_; rintro e w' ⟨rfl, hw'⟩; have hw2 := hw'.symm; subst hw2)
                        clear k0 k1 k2 k3 ff2
                        generalize hv9 : rotl c2 32 = c3
                        have V9 := Aside0.mk hv9; clear hv9
                        have n1_ := Aside0.mk (HB.out.s2 c3)
                        have n2_ := Aside0.mk (HR.out.far (p := ⟨w.heap.size, 2, none⟩) (by dsimp only; omega) (.int .u64 c3))
                        have n3_ := Aside0.mk (HW.out.setCell (p := ⟨w.heap.size, 2, none⟩) (Nat.le_refl _) (.int .u64 c3))
                        clear HB HR HW
                        generalize (w7.setCell ⟨w.heap.size, 2, none⟩ (.int .u64 c3)) = w8 at n1_ n2_ n3_ ⊢
                        have HB := n1_; have HR := n2_; have HW := n3_; clear n1_ n2_ n3_
                        go_roundw
                        case measure => simp [intOf]; omega
                        case rel => exact ⟨k + 1, r, a3, b2, c3, d2, by go_num, by omega, ⟨by rw [← HS.out]; show _ = sipN r (sipR (a, b, c, d)); simp only [sipR, V0.out, V1.out, V2.out, V3.out, V4.out, V5.out, V6.out, V7.out, V8.out, V9.out]⟩, HB, HR, HW⟩
end

/-! ### digest_Sum: function 57 -/
section
/-- The state takes in a word. -/
def wordS (s : Int × Int × Int × Int) (m : Int) : Int × Int × Int × Int :=
  (Go.bits .xor .u64 (sipN 2 (s.1, s.2.1, s.2.2.1, Go.bits .xor .u64 s.2.2.2 m)).1 m, (sipN 2 (s.1, s.2.1, s.2.2.1, Go.bits .xor .u64 s.2.2.2 m)).2.1, (sipN 2 (s.1, s.2.1, s.2.2.1, Go.bits .xor .u64 s.2.2.2 m)).2.2.1, (sipN 2 (s.1, s.2.1, s.2.2.1, Go.bits .xor .u64 s.2.2.2 m)).2.2.2)
set_option maxRecDepth 100000 in
set_option maxHeartbeats 4000000 in
theorem word_any (g : Nat) (a b c d m : Int) (w : World) (hb : StT w g (a, b, c, d)) :
    Calls Tryd.prog 66 #[.pointer (some ⟨g, 0, none⟩), .int .u64 m] w fun e w' => e = .returned (.tuple #[]) ∧ StT w' g (wordS (a, b, c, d) m) ∧ KeepBut w w' g none ∧ Below g w w' := by
  have HB := Aside0.mk (show St4 105 w g a b c d from hb)
  clear hb
  obtain ⟨k0, k1, k2, k3⟩ := And.intro HB.out.c0 (And.intro HB.out.c1 (And.intro HB.out.c2 HB.out.c3))
  have ff := HB.out.fr 3
  go_enter Tryd.func66, Tryd.ntmps66
  go_wp2
  go_still_tail 8, (by kernel_rfl)
  go_wp2_with fail
  clear k0 k1 k2 k3 ff
  generalize hv : Go.bits .xor .u64 d m = d1
  refine (rounds_any 2 (by omega) g (a, b, c, d1) _ (show StT _ g (a, b, c, d1) from (HB.out.s3 d1).drew)).mono ?_
  rintro e w1 ⟨rfl, hS, hK, hW⟩
  obtain ⟨⟨a2, b2, c2, d2⟩, hs⟩ : ∃ s, s = sipN 2 (a, b, c, d1) := ⟨_, rfl⟩
  rw [← hs] at hS
  have HE := Aside0.mk (show wordS (a, b, c, d) m = (Go.bits .xor .u64 a2 m, b2, c2, d2) from by simp only [wordS]; rw [hv, ← hs])
  have HS := Aside0.mk (show St4 105 w1 g a2 b2 c2 d2 from hS)
  have HK := Aside0.mk ((zG ((KeepBut.refl w g none).set_ 3 (.int .u64 d1))).trans hK (.inl rfl))
  have HW := Aside0.mk ((below_drew ((Below.refl g w).setCell (p := ⟨g, 3, none⟩) (Nat.le_refl _) (.int .u64 d1))).trans hW)
  clear hs hS hK hW HB hv
  obtain ⟨k0, k1, k2, k3⟩ := And.intro HS.out.c0 (And.intro HS.out.c1 (And.intro HS.out.c2 HS.out.c3))
  have ff := HS.out.fr 0
  go_wp2
  go_still_tail 8, (by kernel_rfl)
  go_wp2
  go_end0
  exact ⟨rfl, by rw [HE.out]; exact (HS.out.s0 (Go.bits .xor .u64 a2 m)).drew, zG (HK.out.set_ 0 _), below_drew (HW.out.setCell (p := ⟨g, 0, none⟩) (Nat.le_refl _) _)⟩
def orB (m b : Int) (k : Nat) : Int := Go.bits .or .u64 m (IntKind.u64.wrap (b * 2 ^ (8 * k)))
def wordOf (l : List Int) (i : Nat) : Nat → Int
  | 0 => 0
  | k + 1 => orB (wordOf l i k) (rd l ((i + k : Nat) : Int)) k
def lastW (l : List Int) : Nat → Int
  | 0 => IntKind.u64.wrap ((l.length : Int) * 72057594037927936)
  | k + 1 => orB (lastW l k) (rd l ((l.length - l.length % 8 + k : Nat) : Int)) k
def stN (s : Int × Int × Int × Int) (l : List Int) : Nat → Int × Int × Int × Int
  | 0 => s
  | q + 1 => wordS (stN s l q) (wordOf l (8 * q) 8)
def finS (s : Int × Int × Int × Int) : Int := Go.bits .xor .u64 (Go.bits .xor .u64 (Go.bits .xor .u64 s.1 s.2.1) s.2.2.1) s.2.2.2
def sumP (k0 k1 : Int) (l : List Int) : Int :=
  finS (sipN 4 ((wordS (stN (Go.bits .xor .u64 k0 8317987319222330741, Go.bits .xor .u64 k1 7237128888997146477, Go.bits .xor .u64 k0 7816392313619706465, Go.bits .xor .u64 k1 8387220255154660723) l (l.length / 8)) (lastW l (l.length % 8))).1,
    (wordS (stN (Go.bits .xor .u64 k0 8317987319222330741, Go.bits .xor .u64 k1 7237128888997146477, Go.bits .xor .u64 k0 7816392313619706465, Go.bits .xor .u64 k1 8387220255154660723) l (l.length / 8)) (lastW l (l.length % 8))).2.1,
    Go.bits .xor .u64 (wordS (stN (Go.bits .xor .u64 k0 8317987319222330741, Go.bits .xor .u64 k1 7237128888997146477, Go.bits .xor .u64 k0 7816392313619706465, Go.bits .xor .u64 k1 8387220255154660723) l (l.length / 8)) (lastW l (l.length % 8))).2.2.1 255,
    (wordS (stN (Go.bits .xor .u64 k0 8317987319222330741, Go.bits .xor .u64 k1 7237128888997146477, Go.bits .xor .u64 k0 7816392313619706465, Go.bits .xor .u64 k1 8387220255154660723) l (l.length / 8)) (lastW l (l.length % 8))).2.2.2))
theorem rd_byte {l : List Int} (h : ∀ x ∈ l, 0 ≤ x ∧ x ≤ 255) (i : Nat) (hi : i < l.length) : 0 ≤ rd l (i : Int) ∧ rd l (i : Int) ≤ 255 := by
  unfold rd
  rw [Int.toNat_natCast, List.getD_eq_getElem?_getD, List.getElem?_eq_getElem hi]
  exact h _ (List.getElem_mem hi)
set_option maxRecDepth 100000 in
set_option maxHeartbeats 4000000 in
theorem sum_any (k0 k1 : Int) (A2 : Option Addr) (c2 : Nat) (l2 : List Int) (w : World) (hr2 : Kd.C (Kd.int .u8) w A2 l2.length l2) (hc2 : l2.length ≤ c2) (hl : l2.length ≤ 140737488355328) (hby : ∀ x ∈ l2, 0 ≤ x ∧ x ≤ 255) :
    Calls Tryd.prog 57 #[.int .u64 k0, .int .u64 k1, .slice A2 l2.length c2] w fun e w' => e = .returned (.int .u64 (sumP k0 k1 l2)) ∧ Below w.heap.size w w' := by
  have HR := Aside0.mk hr2; have HC := Aside0.mk hc2
  have HY := Aside0.mk (rd_byte hby)
  clear hr2 hc2 hby
  obtain ⟨s0, hs0⟩ : ∃ s0 : Int × Int × Int × Int, s0 = (Go.bits .xor .u64 k0 8317987319222330741, Go.bits .xor .u64 k1 7237128888997146477, Go.bits .xor .u64 k0 7816392313619706465, Go.bits .xor .u64 k1 8387220255154660723) := ⟨_, rfl⟩
  obtain ⟨R, hR⟩ : ∃ R, R = sumP k0 k1 l2 := ⟨_, rfl⟩
  rw [← hR]
  have HRR := Aside0.mk (show R = finS (sipN 4 ((wordS (stN s0 l2 (l2.length / 8)) (lastW l2 (l2.length % 8))).1, (wordS (stN s0 l2 (l2.length / 8)) (lastW l2 (l2.length % 8))).2.1, Go.bits .xor .u64 (wordS (stN s0 l2 (l2.length / 8)) (lastW l2 (l2.length % 8))).2.2.1 255, (wordS (stN s0 l2 (l2.length / 8)) (lastW l2 (l2.length % 8))).2.2.2)) from by rw [hR, hs0]; rfl)
  clear hR
  have HB := Aside0.mk (show StT (w.alloc (.cells #[.int .u64 (Go.bits .xor .u64 k0 8317987319222330741), .int .u64 (Go.bits .xor .u64 k1 7237128888997146477), .int .u64 (Go.bits .xor .u64 k0 7816392313619706465), .int .u64 (Go.bits .xor .u64 k1 8387220255154660723)] 105)) w.heap.size s0 from by rw [hs0]; exact blk_new _ _)
  have HW := Aside0.mk ((Below.refl w.heap.size w).alloc (Nat.le_refl _) (.cells #[.int .u64 (Go.bits .xor .u64 k0 8317987319222330741), .int .u64 (Go.bits .xor .u64 k1 7237128888997146477), .int .u64 (Go.bits .xor .u64 k0 7816392313619706465), .int .u64 (Go.bits .xor .u64 k1 8387220255154660723)] 105))
  clear hs0
  go_enter Tryd.func57, Tryd.ntmps57
  go_wp2
  generalize (w.alloc (.cells #[.int .u64 (Go.bits .xor .u64 k0 8317987319222330741), .int .u64 (Go.bits .xor .u64 k1 7237128888997146477), .int .u64 (Go.bits .xor .u64 k0 7816392313619706465), .int .u64 (Go.bits .xor .u64 k1 8387220255154660723)] 105)) = w9 at HB HW ⊢
  go_loopw [9] (fun v wr => ∃ i q : Nat, v = .int .i64 (i : Int) ∧ i ≤ l2.length ∧ Aside0 (i = 8 * q) ∧ Aside0 (StT wr w.heap.size (stN s0 l2 q)) ∧ Aside0 (Below w.heap.size w wr)) (fun v _ => l2.length - (intOf v).toNat)
  case atStart => exact ⟨0, 0, rfl, by omega, ⟨rfl⟩, HB, HW⟩
  case round =>
    clear HB HW
    obtain ⟨i, q, rfl, hq, HI, HB, HW⟩ := hrel
    by_cases hlt : i + 8 ≤ l2.length
    · have hd : decide ((i : Int) + 8 ≤ (l2.length : Int)) = true := decide_eq_true (by omega)
      obtain ⟨ad, e, _⟩ := Kd.at_int HR.out (i : Int) (by omega) (by omega)
      subst e
      obtain ⟨wo, rfl⟩ : ∃ wo : World, wo = wr := ⟨_, rfl⟩
      go_wp2
      go_loop [10, 33] (fun m v => ∃ k : Nat, v = .int .i64 (k : Int) ∧ k ≤ 8 ∧ m = .int .u64 (wordOf l2 i k)) (fun _ v => 8 - (intOf v).toNat)
      case atStart => exact ⟨0, rfl, by omega, rfl⟩
      case round =>
        obtain ⟨k, rfl, hk, rfl⟩ := hrel
        by_cases hk8 : k < 8
        · obtain ⟨ad', e', hc⟩ := Kd.at_int HR.out ((i + k : Nat) : Int) (by omega) (by omega)
          obtain rfl : ad = ad' := by injection e'
          clear e'
          replace hc := (HW.out.cell (World.block_lt_of_cell? w _ hc)).trans hc
          rw [Int.toNat_natCast] at hc
          have hb0 : 0 ≤ rd l2 ((i + k : Nat) : Int) := (HY.out _ (by omega)).1
          have hb1 : rd l2 ((i + k : Nat) : Int) ≤ 255 := (HY.out _ (by omega)).2
          have HO := Aside0.mk (show wordOf l2 i (k + 1) = orB (wordOf l2 i k) (rd l2 ((i + k : Nat) : Int)) k from rfl)
          obtain ⟨x, hx⟩ : ∃ x, x = rd l2 ((i + k : Nat) : Int) := ⟨_, rfl⟩
          rw [← hx] at hc hb0 hb1 HO
          clear hx
          obtain ⟨m, hm⟩ : ∃ m, m = wordOf l2 i k := ⟨_, rfl⟩
          rw [← hm] at HO
          rw [← hm]
          clear hm
          go_wp2
          go_round
          case measure => simp [intOf]; omega
          case rel => exact ⟨k + 1, by go_num, by omega, by rw [HO.out]; rfl⟩
        · obtain rfl : k = 8 := by omega
          obtain ⟨m, hm⟩ : ∃ m, m = wordOf l2 i 8 := ⟨_, rfl⟩
          have HM := Aside0.mk hm
          rw [← hm]
          clear hm
          go_wp2_with fail
          refine (word_any w.heap.size _ _ _ _ m _ HB.out).mono ?_
          rintro e w1 ⟨rfl, hS, hK, hW⟩
          have HB1 := Aside0.mk (show StT w1 w.heap.size (stN s0 l2 (q + 1)) from by
            show StT w1 w.heap.size (wordS (stN s0 l2 q) (wordOf l2 (8 * q) 8))
            rw [← HI.out, ← HM.out]; exact hS)
          have HW1 := Aside0.mk (HW.out.trans hW)
          clear hS hK hW
          go_wp2
          go_roundw
          case measure => simp [intOf]; omega
          case rel => exact ⟨i + 8, q + 1, by go_num, by omega, ⟨by have := HI.out; omega⟩, HB1, HW1⟩
    · have hd : decide ((i : Int) + 8 ≤ (l2.length : Int)) = false := decide_eq_false (by omega)
      have hq2 : l2.length / 8 = q := by have := HI.out; omega
      have HQ := Aside0.mk hq2
      have hn8 : l2.length % 8 < 8 := Nat.mod_lt _ (by omega)
      have HI2 := Aside0.mk (show l2.length - l2.length % 8 = i from by have := HI.out; omega)
      clear hq2
      obtain ⟨r8, hr8⟩ : ∃ r8, r8 = l2.length % 8 := ⟨_, rfl⟩
      have HR8 := Aside0.mk hr8
      have er : (l2.length : Int) % 8 = (r8 : Int) := by omega
      have hi8 : i + r8 = l2.length := by have := HI2.out; omega
      have HE := Aside0.mk hi8
      rw [← hr8] at hn8
      clear hr8 hi8
      go_upto_block 4 with (fail)
      rw [er]
      go_wp2
      have HLW := Aside0.mk (show lastW l2 0 = IntKind.u64.wrap ((l2.length : Int) * 72057594037927936) from rfl)
      go_loop [8, 54] (fun m v => ∃ k : Nat, v = .int .i64 (k : Int) ∧ k ≤ r8 ∧ m = .int .u64 (lastW l2 k)) (fun _ v => r8 - (intOf v).toNat)
      case atStart => exact ⟨0, rfl, by omega, by rw [HLW.out]⟩
      case round =>
        obtain ⟨k, rfl, hk, rfl⟩ := hrel
        by_cases hk8 : k < r8
        · have hb8 := HE.out
          obtain ⟨ad, e, hc⟩ := Kd.at_int HR.out ((l2.length - r8 + k : Nat) : Int) (by omega) (by omega)
          subst e
          replace hc := (HW.out.cell (World.block_lt_of_cell? w _ hc)).trans hc
          rw [Int.toNat_natCast] at hc
          have hb0 : 0 ≤ rd l2 ((l2.length - r8 + k : Nat) : Int) := (HY.out _ (by omega)).1
          have hb1 : rd l2 ((l2.length - r8 + k : Nat) : Int) ≤ 255 := (HY.out _ (by omega)).2
          have HO := Aside0.mk (show lastW l2 (k + 1) = orB (lastW l2 k) (rd l2 ((l2.length - r8 + k : Nat) : Int)) k from by rw [HR8.out]; rfl)
          obtain ⟨x, hx⟩ : ∃ x, x = rd l2 ((l2.length - r8 + k : Nat) : Int) := ⟨_, rfl⟩
          rw [← hx] at hc hb0 hb1 HO
          clear hx
          obtain ⟨m, hm⟩ : ∃ m, m = lastW l2 k := ⟨_, rfl⟩
          rw [← hm] at HO
          rw [← hm]
          have hle : r8 ≤ l2.length := by omega
          clear hm hb8
          go_wp2
          go_round
          case measure => simp [intOf]; omega
          case rel => exact ⟨k + 1, by go_num, by omega, by rw [HO.out]; rfl⟩
        · obtain rfl : k = r8 := by omega
          obtain ⟨m, hm⟩ : ∃ m, m = lastW l2 k := ⟨_, rfl⟩
          have HM := Aside0.mk hm
          rw [← hm]
          clear hm
          go_wp2_with fail
          refine (word_any w.heap.size _ _ _ _ m _ HB.out).mono ?_
          rintro e w1 ⟨rfl, hS, hK, hW⟩
          obtain ⟨⟨a, b, c, d⟩, hs⟩ : ∃ s, s = wordS (stN s0 l2 q) m := ⟨_, rfl⟩
          have hRR := HRR.out
          rw [HQ.out, ← HR8.out, ← HM.out, ← hs] at hRR
          have hS2 : St4 105 w1 w.heap.size a b c d := by
            have h2 : StT w1 w.heap.size (wordS (stN s0 l2 q) m) := hS
            rw [← hs] at h2
            exact h2
          have HRF := Aside0.mk hRR; have HB1 := Aside0.mk hS2
          have HW1 := Aside0.mk (HW.out.trans hW)
          clear hS hK hW hs hRR hS2 HB HW
          obtain ⟨e0, e1, e2, e3⟩ := And.intro HB1.out.c0 (And.intro HB1.out.c1 (And.intro HB1.out.c2 HB1.out.c3))
          have ff := HB1.out.fr 2
          go_wp2_with fail
          clear e0 e1 e2 e3 ff
          refine (rounds_any 4 (by omega) w.heap.size (a, b, Go.bits .xor .u64 c 255, d) _ (show StT _ _ (a, b, Go.bits .xor .u64 c 255, d) from HB1.out.s2 _)).mono ?_
          rintro e w2 ⟨rfl, hS, hK, hW⟩
          obtain ⟨⟨a2, b2, c2', d2⟩, hs⟩ : ∃ s, s = sipN 4 (a, b, Go.bits .xor .u64 c 255, d) := ⟨_, rfl⟩
          rw [← hs] at hS
          have HS := Aside0.mk (show St4 105 w2 w.heap.size a2 b2 c2' d2 from hS)
          have HF := Aside0.mk (show R = finS (a2, b2, c2', d2) from by rw [HRF.out, ← hs])
          have HW2 := Aside0.mk ((HW1.out.setCell (p := ⟨w.heap.size, 2, none⟩) (Nat.le_refl _) (.int .u64 (Go.bits .xor .u64 c 255))).trans hW)
          clear hs hS hK hW HB1 HW1 HRF
          obtain ⟨e0, e1, e2, e3⟩ := And.intro HS.out.c0 (And.intro HS.out.c1 (And.intro HS.out.c2 HS.out.c3))
          go_wp2
          go_ret
          exact ⟨by rw [HF.out]; rfl, HW2.out⟩
end
def digest_Sum.f (a0 : Int) (a1 : Int) (l2 : List Int) : Option Int := if l2.length ≤ 140737488355328 ∧ ∀ x ∈ l2, 0 ≤ x ∧ x ≤ 255 then some (sumP a0 a1 l2) else none
theorem digest_Sum.calls (a0 : Int) (a1 : Int) (A2 : Option Addr) (c2 : Nat) (l2 : List Int) (r : Int) (w : World) (hr2 : Kd.C (Kd.int .u8) w A2 l2.length l2) (hc2 : l2.length ≤ c2) (h : digest_Sum.f a0 a1 l2 = some r) :
    Calls Tryd.prog 57 #[.int .u64 a0, .int .u64 a1, .slice A2 l2.length c2] w fun e w' => e = .returned (.int .u64 r) ∧ Below w.heap.size w w' := by
  unfold digest_Sum.f at h
  by_cases hc : l2.length ≤ 140737488355328 ∧ ∀ x ∈ l2, 0 ≤ x ∧ x ≤ 255
  · rw [if_pos hc] at h
    obtain rfl := Option.some.inj h
    exact sum_any a0 a1 A2 c2 l2 w hr2 hc2 hc.1 hc.2
  · rw [if_neg hc] at h
    cases h

/-! ### digest_Frame: function 58 -/
mutual
def digest_Frame.l0 : Nat → List Int → List (List Int) → Int → Int → Option (List Int)
  | 0, _, _, _, _ => none
  | k + 1, x3, x7, x8, x9 => if x9 < x8 then (if 0 ≤ x9 then (if x9 < (x7.length : Int) then (digest_Frame.l1 k x3 (rd_L6 x7 x9) 7 x7 x8 x9) else (none)) else (none)) else (some x3)
def digest_Frame.l1 : Nat → List Int → List Int → Int → List (List Int) → Int → Int → Option (List Int)
  | 0, _, _, _, _, _, _ => none
  | k + 1, x3, x5, x6, x7, x8, x9 => if x6 ≥ 0 then (if 0 ≤ (wrap64 (8 * x6)) then (if x3.length < 140737488355328 then (digest_Frame.l1 k (x3 ++ [(shr .u64 (IntKind.u64.wrap ((x5.length : Int))) (wrap64 (8 * x6))) % 256]) x5 (wrap64 (x6 - 1)) x7 x8 x9) else (none)) else (none)) else (if x3.length + x5.length < 140737488355328 then (digest_Frame.l0 k (x3 ++ x5) x7 x8 (wrap64 (x9 + 1))) else (none))
end
def digest_Frame.f (k : Nat) (l0 : List (List Int)) : Option (List Int) := digest_Frame.l0 k ([] : List Int) l0 (l0.length : Int) 0
theorem digest_Frame.mono_l : ∀ k, (∀ y0 y1 y2 y3, LeO (digest_Frame.l0 k y0 y1 y2 y3) (digest_Frame.l0 (k + 1) y0 y1 y2 y3)) ∧ (∀ y0 y1 y2 y3 y4 y5, LeO (digest_Frame.l1 k y0 y1 y2 y3 y4 y5) (digest_Frame.l1 (k + 1) y0 y1 y2 y3 y4 y5))
  | 0 => ⟨fun _ _ _ _ r h => by simp [digest_Frame.l0] at h, fun _ _ _ _ _ _ r h => by simp [digest_Frame.l1] at h⟩
  | k + 1 => by
    obtain ⟨ih0, ih1⟩ := digest_Frame.mono_l k
    refine ⟨?_, ?_⟩
    · intro y0 y1 y2 y3
      unfold digest_Frame.l0
      repeat' first
      | (with_reducible exact ih0 _ _ _ _)
      | (with_reducible exact ih1 _ _ _ _ _ _)
      | (with_reducible exact LeO.refl _)
      | (with_reducible exact LeO.none _)
      | (with_reducible refine LeO.ite ?_ ?_)
      | (with_reducible refine LeO.bind ?_ (fun _ => ?_))
      | exact ih0 _ _ _ _
      | exact ih1 _ _ _ _ _ _
      | exact LeO.none _
      | refine LeO.ite ?_ ?_
      | refine LeO.bind ?_ (fun _ => ?_)
    · intro y0 y1 y2 y3 y4 y5
      unfold digest_Frame.l1
      repeat' first
      | (with_reducible exact ih0 _ _ _ _)
      | (with_reducible exact ih1 _ _ _ _ _ _)
      | (with_reducible exact LeO.refl _)
      | (with_reducible exact LeO.none _)
      | (with_reducible refine LeO.ite ?_ ?_)
      | (with_reducible refine LeO.bind ?_ (fun _ => ?_))
      | exact ih0 _ _ _ _
      | exact ih1 _ _ _ _ _ _
      | exact LeO.none _
      | refine LeO.ite ?_ ?_
      | refine LeO.bind ?_ (fun _ => ?_)
theorem digest_Frame.mono : ∀ a0 k, LeO (digest_Frame.f k a0) (digest_Frame.f (k + 1) a0) := by
  intro a0 k
  obtain ⟨ih0, ih1⟩ := digest_Frame.mono_l k
  unfold digest_Frame.f
  repeat' first
      | (with_reducible exact ih0 _ _ _ _)
      | (with_reducible exact ih1 _ _ _ _ _ _)
      | (with_reducible exact LeO.refl _)
      | (with_reducible exact LeO.none _)
      | (with_reducible refine LeO.ite ?_ ?_)
      | (with_reducible refine LeO.bind ?_ (fun _ => ?_))
      | exact ih0 _ _ _ _
      | exact ih1 _ _ _ _ _ _
      | exact LeO.none _
      | refine LeO.ite ?_ ?_
      | refine LeO.bind ?_ (fun _ => ?_)
set_option maxHeartbeats 8000000 in
set_option maxRecDepth 100000 in
theorem digest_Frame.calls (k : Nat) (A0 : Option Addr) (c0 : Nat) (l0 : List (List Int)) (r : List Int) (w : World) (hr0 : Kd.C (Kd.slice 5 (Kd.int .u8)) w A0 l0.length l0) (hc0 : l0.length ≤ c0) (h : digest_Frame.f k l0 = some r) :
    Calls Tryd.prog 58 #[.slice A0 l0.length c0] w fun e w' => ∃ v0_ : Value, e = .returned (v0_) ∧ Kd.R (Kd.int .u8) 5 w' w.heap.size (fun _ => True) v0_ r ∧ Below w.heap.size w w' := by
  have HR0 := Aside0.mk hr0; have HC0 := Aside0.mk hc0; clear hr0 hc0
  have HB := Aside0.mk (Below.refl w.heap.size w)
  have H : (digest_Frame.l0 k ([] : List Int) l0 (l0.length : Int) 0) = some r := h
  clear h; have H' := Aside0.mk H; clear H
  go_enter Tryd.func58, Tryd.ntmps58
  go_wp2
  go_loopg [3, 9] k (fun kq v3 v9 w' => ∃ (x3_1 : List Int) (x9_1 : Int), v9 = .int .i64 x9_1 ∧ Aside0 (digest_Frame.l0 kq x3_1 l0 (l0.length : Int) x9_1 = some r) ∧ Aside0 (kq ≤ k) ∧ Aside0 (Kd.R (Kd.int .u8) 5 w' w.heap.size (fun _ => True) v3 x3_1) ∧ Aside0 (Below w.heap.size w w'))
  case atStart => exact ⟨(([] : List Int)), (0), (by first | rfl | (simp; done) | (simp [*]; done)), H', ⟨Nat.le_refl _⟩, ⟨by first | exact Kd.R_nil _ _ _ _ _ | exact Kd.N_nil _ _ _ _ _ | exact Kd.V_nil _ _ _ _ _ | exact Kd.Q_nil _ _ _ _ _ | exact Kd.S_nil _ _ _ _ _⟩, ⟨by repeat (first | (with_reducible first|exact HB.out|apply zE|apply zB|apply zC) | exact HB.out)⟩⟩
  case round =>
    clear H'
    obtain ⟨x3_1, x9_1, rfl, HA, HK1, HO_3, HB⟩ := hrel
    cases gk with
    | zero => exact absurd HA.out (by simp [digest_Frame.l0])
    | succ k1 =>
      have H := HA.out; clear HA
      simp only [digest_Frame.l0] at H
      by_cases c2 : x9_1 < (l0.length : Int)
      · rw [if_pos c2] at H
        have c2b0 : decide (x9_1 < (l0.length : Int)) = true := decide_eq_true c2
        clear c2
        by_cases c3 : 0 ≤ x9_1
        · rw [if_pos c3] at H
          have c3b0 : decide (0 ≤ x9_1) = true := decide_eq_true c3
          clear c3
          by_cases c4 : x9_1 < (l0.length : Int)
          · rw [if_pos c4] at H
            have c4b0 : decide (x9_1 < (l0.length : Int)) = true := decide_eq_true c4
            clear c4; have H' := Aside0.mk H; clear H
            have p108 : 0 ≤ (x9_1 : Int) := of_decide_eq_true (by first | (with_reducible assumption) | assumption)
            have q108 : x9_1 < (l0.length : Int) := of_decide_eq_true (by first | (with_reducible assumption) | assumption)
            obtain ⟨ad108, A108_0, c108_0, e108, hx108_0, hl108_0, hi108_0⟩ := at_L6 HR0.out x9_1 p108 q108
            cases e108
            replace hx108_0 := (HB.out.cell (World.block_lt_of_cell? w _ hx108_0)).trans hx108_0
            have HR108_0 := Aside0.mk hi108_0; have HC108_0 := Aside0.mk hl108_0; clear hi108_0 hl108_0
            replace p108 := eq_true p108
            replace q108 := eq_true q108
            go_wp2
            go_loopg [3, 6] k1 (fun kq v3 v6 w' => ∃ (x3_2 : List Int) (x6_2 : Int), v6 = .int .i64 x6_2 ∧ Aside0 (digest_Frame.l1 kq x3_2 (rd_L6 l0 x9_1) x6_2 l0 (l0.length : Int) x9_1 = some r) ∧ Aside0 (kq ≤ k1) ∧ Aside0 (Kd.R (Kd.int .u8) 5 w' w.heap.size (fun _ => True) v3 x3_2) ∧ Aside0 (Below w.heap.size w w'))
            case atStart => exact ⟨(x3_1), (7), (by first | rfl | (simp; done) | (simp [*]; done)), H', ⟨Nat.le_refl _⟩, ⟨by (with_reducible repeat (first | apply Kd.R_alloc | apply Kd.R_drewN | apply Kd.R_drew)); exact HO_3.out⟩, ⟨by repeat (first | (with_reducible first|exact HB.out|apply zE|apply zB|apply zC) | exact HB.out)⟩⟩
            case round =>
              clear H'; (try clear c1); (try clear p1); (try clear q1); (try clear hx1); (try clear c2); (try clear c2b0); (try clear p2); (try clear c3); (try clear c3b0); (try clear c4); (try clear c4b0); (try clear hx108_0); (try clear p108); (try clear q108)
              obtain ⟨x3_2, x6_2, rfl, HA, HK2, HO_3, HB⟩ := hrel
              cases gk with
              | zero => exact absurd HA.out (by simp [digest_Frame.l1])
              | succ k2 =>
                have H := HA.out; clear HA
                simp only [digest_Frame.l1] at H
                by_cases c5 : x6_2 ≥ 0
                · rw [if_pos c5] at H
                  have c5b0 : decide (0 ≤ x6_2) = true := decide_eq_true c5
                  clear c5
                  obtain ⟨ji6, hji6⟩ : ∃ j_ : Int, (wrap64 (8 * x6_2)) = j_ := ⟨_, rfl⟩
                  replace H : (if 0 ≤ (ji6) then (if x3_2.length < 140737488355328 then (digest_Frame.l1 k2 (x3_2 ++ [(shr .u64 (IntKind.u64.wrap (((rd_L6 l0 x9_1).length : Int))) (ji6)) % 256]) (rd_L6 l0 x9_1) (wrap64 (x6_2 - 1)) l0 (l0.length : Int) x9_1) else (none)) else (none)) = some r := by first | (rw [hji6] at H; exact H) | (simp only [hji6] at H ⊢; exact H)
                  have hji6w : (IntKind.i64.wrap (8 * x6_2)) = ji6 := (i64_w _).trans hji6
                  by_cases c7 : 0 ≤ (ji6)
                  · rw [if_pos c7] at H
                    have c7b0 := eq_true c7
                    have c7b1 : decide (0 ≤ (ji6)) = true := decide_eq_true c7
                    clear c7
                    obtain ⟨ji8, hji8⟩ : ∃ j_ : Int, (shr .u64 (IntKind.u64.wrap (((rd_L6 l0 x9_1).length : Int))) (ji6)) = j_ := ⟨_, rfl⟩
                    replace H : (if x3_2.length < 140737488355328 then (digest_Frame.l1 k2 (x3_2 ++ [(ji8) % 256]) (rd_L6 l0 x9_1) (wrap64 (x6_2 - 1)) l0 (l0.length : Int) x9_1) else (none)) = some r := by first | (rw [hji8] at H; exact H) | (simp only [hji8] at H ⊢; exact H)
                    have hji8_ : ((IntKind.u64.wrap (((rd_L6 l0 x9_1).length : Int))) / 2 ^ min (ji6).toNat 64) = ji8 := hji8
                    have hji8z : (ji6) ≤ 64 → ((IntKind.u64.wrap (((rd_L6 l0 x9_1).length : Int))) / 2 ^ (ji6).toNat) = ji8 := shr_small hji8
                    by_cases c9 : x3_2.length < 140737488355328
                    · rw [if_pos c9] at H
                      have LMc9 := Aside0.mk c9; clear c9
                      obtain ⟨y109, hy109⟩ : ∃ y_ : List Int, y_ = (x3_2 ++ [(ji8) % 256]) := ⟨_, rfl⟩
                      replace H : (digest_Frame.l1 k2 y109 (rd_L6 l0 x9_1) (wrap64 (x6_2 - 1)) l0 (l0.length : Int) x9_1) = some r := by first | (rw [hy109]; with_reducible exact H) | (have H2_ := (Option.bind_some _ _).symm.trans H; rw [hy109]; with_reducible exact H2_) | (have H2_ := (Option.bind_some _ _).symm.trans H; with_reducible exact H2_) | with_reducible exact H | (rw [hy109]; exact H) | exact H
                      have Ny109 := Aside0.mk hy109; clear hy109; have H' := Aside0.mk H; clear H
                      go_wp2_with (first | ((with_reducible refine gate_builtin (b := .append) (xs := #[.tmp 17, .tmp 25]) rfl ?_); at_builtin; refine Kd.R_append (Kd.int .u8) (w0 := w) w.heap.size rfl (.tmp 17) (.tmp 25) 24 5 (.int .u8 0) 1 rfl Tryd.underlying24 info5 rfl (by decide) (by omega) u3 x3_2 ((ji8) % 256) [.int .u8 ((ji8) % 256)] (fun _ => True) (fun _ => False) rfl rfl ?aP (fun _ hk => hk.elim) ?aF ?aO ?aB ?aS ?aL ?_; (case aP => exact rfl); (case aB => exact (by repeat (first | (with_reducible first|exact HB.out|apply zE|apply zB|apply zC) | exact HB.out))); (case aF => exact (fun _ _ => trivial)); (case aO => exact (by (with_reducible repeat (first | apply Kd.R_alloc | apply Kd.R_drewN | apply Kd.R_drew)); exact HO_3.out)); (case aS => exact (below_size (by repeat (first | (with_reducible first|exact HB.out|apply zE|apply zB|apply zC) | exact HB.out)))); (case aL => have := LMc9.out; omega); intro v110 w10 ho hb hg hat; rw [← Ny109.out] at ho; have n0_ := Aside0.mk (hb); have n1_ := Aside0.mk (ho); clear HB HO_3; have HB := n0_; have HO111 := n1_; clear n0_ n1_ ho hb hg hat))
                      go_roundg k2
                      case measure => have := HK1.out; have := HK2.out; omega
                      case rel => exact ⟨(y109), (wrap64 (x6_2 - 1)), (by first | rfl | (simp; done) | (simp [*]; done)), H', ⟨by have := HK1.out; have := HK2.out; omega⟩, ⟨by (with_reducible repeat (first | apply Kd.R_alloc | apply Kd.R_drewN | apply Kd.R_drew)); exact HO111.out⟩, ⟨by repeat (first | (with_reducible first|exact HB.out|apply zE|apply zB|apply zC) | exact HB.out)⟩⟩
                    · rw [if_neg c9] at H
                      exact absurd H (by simp)
                  · rw [if_neg c7] at H
                    exact absurd H (by simp)
                · rw [if_neg c5] at H
                  have c5b0 : decide (0 ≤ x6_2) = false := decide_eq_false c5
                  clear c5
                  by_cases c11 : x3_2.length + (rd_L6 l0 x9_1).length < 140737488355328
                  · rw [if_pos c11] at H
                    have LMc11 := Aside0.mk c11; clear c11
                    obtain ⟨y112, hy112⟩ : ∃ y_ : List Int, y_ = (x3_2 ++ (rd_L6 l0 x9_1)) := ⟨_, rfl⟩
                    replace H : (digest_Frame.l0 k2 y112 l0 (l0.length : Int) (wrap64 (x9_1 + 1))) = some r := by first | (rw [hy112]; with_reducible exact H) | (have H2_ := (Option.bind_some _ _).symm.trans H; rw [hy112]; with_reducible exact H2_) | (have H2_ := (Option.bind_some _ _).symm.trans H; with_reducible exact H2_) | with_reducible exact H | (rw [hy112]; exact H) | exact H
                    have Ny112 := Aside0.mk hy112; clear hy112; have H' := Aside0.mk H; clear H
                    go_wp2_with (first | ((with_reducible refine gate_builtin (b := .append) (xs := #[.tmp 27, .tmp 28]) rfl ?_); at_builtin; refine Kd.R_append_rows (Kd.int .u8) (w0 := w) w.heap.size rfl (.tmp 27) (.tmp 28) 24 5 (.int .u8 0) 1 rfl Tryd.underlying24 info5 rfl (by decide) (by omega) u3 x3_2 (rd_L6 l0 x9_1) _ _ _ (fun _ => True) (fun _ => False) rfl rfl ?aO ?aR (fun _ _ h => h) (fun _ h => h.elim) ?aF ?aB ?aS ?aL ?_; (case aR => repeat (first | exact (Kd.C_below HR108_0.out HB.out) | (with_reducible refine Kd.C_alloc ?_ _) | (with_reducible refine Kd.C_drewN ?_ _) | (with_reducible refine Kd.C_drew ?_))); (case aB => exact (by repeat (first | (with_reducible first|exact HB.out|apply zE|apply zB|apply zC) | exact HB.out))); (case aF => exact (fun _ _ => trivial)); (case aO => exact (by (with_reducible repeat (first | apply Kd.R_alloc | apply Kd.R_drewN | apply Kd.R_drew)); exact HO_3.out)); (case aS => exact (below_size (by repeat (first | (with_reducible first|exact HB.out|apply zE|apply zB|apply zC) | exact HB.out)))); (case aL => have := LMc11.out; omega); intro v113 w12 ho hb hg hat; rw [← Ny112.out] at ho; have n0_ := Aside0.mk (hb); have n1_ := Aside0.mk (ho); clear HB HO_3; have HB := n0_; have HO114 := n1_; clear n0_ n1_ ho hb hg hat))
                    go_roundg k2
                    case measure => have := HK1.out; have := HK2.out; omega
                    case rel => exact ⟨(y112), (wrap64 (x9_1 + 1)), (by first | rfl | (simp; done) | (simp [*]; done)), H', ⟨by have := HK1.out; have := HK2.out; omega⟩, ⟨by (with_reducible repeat (first | apply Kd.R_alloc | apply Kd.R_drewN | apply Kd.R_drew)); exact HO114.out⟩, ⟨by repeat (first | (with_reducible first|exact HB.out|apply zE|apply zB|apply zC) | exact HB.out)⟩⟩
                  · rw [if_neg c11] at H
                    exact absurd H (by simp)
          · rw [if_neg c4] at H
            exact absurd H (by simp)
        · rw [if_neg c3] at H
          exact absurd H (by simp)
      · rw [if_neg c2] at H
        have c2b0 : decide (x9_1 < (l0.length : Int)) = false := decide_eq_false c2
        clear c2
        obtain rfl := Option.some.inj H
        go_wp2
        go_ret
        exact ⟨_, by first | rfl | (simp [errW_none, errW_some] <;> rfl) | (simp [*, errW_none, errW_some] <;> rfl), by (with_reducible repeat (first | apply Kd.R_alloc | apply Kd.R_drewN | apply Kd.R_drew)); exact HO_3.out, by repeat (first | (with_reducible first|exact HB.out|apply zE|apply zB|apply zC) | exact HB.out)⟩

end Go.Proofs.YtefglphdiimhnaaDoor.Q
