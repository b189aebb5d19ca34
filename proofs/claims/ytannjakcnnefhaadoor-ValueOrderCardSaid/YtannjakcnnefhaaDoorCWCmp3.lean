import Derived.Test.YtannjakcnnefhaaDoorCWParts
set_option linter.unusedVariables false
set_option linter.unusedSimpArgs false
set_option linter.unusedVariables false
namespace Go.Proofs.YtannjakcnnefhaaDoor
open Go Go.RowKit Go.Proofs.YtannjakcnnefhaaDoorW.PrintWords Go.Proofs.YtannjakcnnefhaaDoorW.PrintLast Go.Proofs.YtannjakcnnefhaaDoorW.PrintMore
/-- How two rows of three numbers compare. -/
def cmp3 (x y : Int × Int × Int) : Int :=
  if x.1 ≠ y.1 then Lib.compareInt x.1 y.1 else if x.2.1 ≠ y.2.1 then Lib.compareInt x.2.1 y.2.1 else Lib.compareInt x.2.2 y.2.2
theorem compare_zero {x y : Int} : Lib.compareInt x y = 0 ↔ x = y := by
  unfold Lib.compareInt
  split
  · constructor <;> intro h <;> omega
  · split
    · constructor <;> intro h <;> omega
    · constructor <;> intro h <;> omega
set_option maxHeartbeats 4000000 in
set_option maxRecDepth 1000000 in
theorem slices_Compare3 (g g' : Nat) (x0 x1 x2 y0 y1 y2 : Int) (w : World)
    (hx : ∀ j, j < 3 → w.cell? ⟨g, j, none⟩ = some (.int .i64 (([x0, x1, x2] : List Int).getD j 0))) (hy : ∀ j, j < 3 → w.cell? ⟨g', j, none⟩ = some (.int .i64 (([y0, y1, y2] : List Int).getD j 0))) :
    Calls Tryd.prog 25 #[.slice (some ⟨g, 0, none⟩) 3 3, .slice (some ⟨g', 0, none⟩) 3 3] w fun e w' => e = .returned (.int .i64 (cmp3 (x0, x1, x2) (y0, y1, y2))) ∧ w' = w := by
  have HX := Aside0.mk hx
  have HY := Aside0.mk hy
  clear hx hy
  go_enter Tryd.func25, Tryd.ntmps25
  go_wp2_with fail
  go_loop [11] (fun v => ∃ k : Nat, v = .int .i64 (k : Int) ∧ k ≤ 3 ∧ Aside0 (∀ j, j < k → ([x0, x1, x2] : List Int).getD j 0 = ([y0, y1, y2] : List Int).getD j 0)) (fun v => 3 - (intOf v).toNat)
  case atStart => exact ⟨0, rfl, by omega, ⟨fun j h => absurd h (by omega)⟩⟩
  case round =>
    obtain ⟨k, rfl, hk, HE⟩ := hrel
    by_cases hlt : k < 3
    · have hcx := HX.out k hlt
      have hcy := HY.out k hlt
      obtain ⟨a, ha⟩ : ∃ a, a = ([x0, x1, x2] : List Int).getD k 0 := ⟨_, rfl⟩
      obtain ⟨b, hb⟩ : ∃ b, b = ([y0, y1, y2] : List Int).getD k 0 := ⟨_, rfl⟩
      rw [← ha] at hcx
      rw [← hb] at hcy
      have HA := Aside0.mk ha
      have HB := Aside0.mk hb
      clear ha hb
      have hl3 : ¬ 3 ≤ (k : Int) := by omega
      by_cases hab : a = b
      · have hz : (Lib.compareInt a b != 0) = false := by
          have := compare_zero.2 hab
          simp [this]
        have HAB := Aside0.mk hab
        clear hab
        go_wp2_with (first | (go_at_call 22; refine (Tryd.cmp_Compare_int _ _ _).mono ?_; rintro e w' ⟨rfl, rfl⟩))
        go_round
        case rel => exact ⟨k + 1, by go_num, by omega, ⟨fun j hj => by
          by_cases e : j = k
          · subst e
            rw [← HA.out, ← HB.out]
            exact HAB.out
          · exact HE.out j (by omega)⟩⟩
        case measure => simp [intOf]; omega
      · have hz : (Lib.compareInt a b != 0) = true := by
          have := fun h => hab (compare_zero.1 h)
          simpa using this
        have H := Aside0.mk (show cmp3 (x0, x1, x2) (y0, y1, y2) = Lib.compareInt a b by
          have h1 := HA.out
          have h2 := HB.out
          rcases (show k = 0 ∨ k = 1 ∨ k = 2 by omega) with rfl | rfl | rfl
          · obtain rfl : a = x0 := h1
            obtain rfl : b = y0 := h2
            rw [cmp3, if_pos hab]
          · obtain rfl : x0 = y0 := HE.out 0 (by omega)
            obtain rfl : a = x1 := h1
            obtain rfl : b = y1 := h2
            rw [cmp3, if_neg (fun h => h rfl), if_pos hab]
          · obtain rfl : x0 = y0 := HE.out 0 (by omega)
            obtain rfl : x1 = y1 := HE.out 1 (by omega)
            obtain rfl : a = x2 := h1
            obtain rfl : b = y2 := h2
            rw [cmp3, if_neg (fun h => h rfl), if_neg (fun h => h rfl)])
        clear hab
        go_wp2_with (first | (go_at_call 22; refine (Tryd.cmp_Compare_int _ _ _).mono ?_; rintro e w' ⟨rfl, rfl⟩))
        go_ret
        exact ⟨congrArg (fun z => Ending.returned (Value.int .i64 z)) H.out.symm, rfl⟩
    · obtain rfl : k = 3 := by omega
      have H := Aside0.mk (show cmp3 (x0, x1, x2) (y0, y1, y2) = 0 by
        have e0 : x0 = y0 := HE.out 0 (by omega)
        have e1 : x1 = y1 := HE.out 1 (by omega)
        have e2 : x2 = y2 := HE.out 2 (by omega)
        subst e0 e1 e2
        simp [cmp3, Lib.compareInt])
      go_wp2_with fail
      go_ret
      exact ⟨congrArg (fun z => Ending.returned (Value.int .i64 z)) H.out.symm, rfl⟩
end Go.Proofs.YtannjakcnnefhaaDoor
