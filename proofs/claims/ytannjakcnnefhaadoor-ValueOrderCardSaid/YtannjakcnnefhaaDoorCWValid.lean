import Derived.Test.YtannjakcnnefhaaDoorCWParse
import Derived.Test.YtannjakcnnefhaaDoorCUtf8At
set_option linter.unusedVariables false
set_option linter.unusedSimpArgs false
set_option linter.unusedVariables false
namespace Go.Proofs.YtannjakcnnefhaaDoor
open Go Go.RowKit Go.Proofs.YtannjakcnnefhaaDoorW.PrintWords Go.Proofs.YtannjakcnnefhaaDoorW.PrintLast Go.Proofs.YtannjakcnnefhaaDoorW.PrintMore
/-- A text is valid. -/
def validB (s : ByteArray) : Bool := decide (s.size ≤ 200) && (Lib.validD s.data.toList && runesOk s s.size 0)
theorem validB_size {s : ByteArray} (h : validB s = true) : s.size ≤ 200 := by
  simp only [validB, Bool.and_eq_true] at h
  exact of_decide_eq_true h.1
/-- unicode/utf8.ValidString. -/
theorem utf8_valid (s : ByteArray) (w : World) (hs : s.size ≤ 9223372036854775807) (hT : Lib.Utf8Tabs 4 5 w) :
    Calls Tryd.prog 52 #[.string s] w fun e w' => e = .returned (.bool (Lib.validD s.data.toList)) ∧ Below w.heap.size w w' := Any.utf8_ValidString Tryd.lays196 s w hs hT
set_option maxHeartbeats 16000000 in
set_option maxRecDepth 1000000 in
theorem text_Valid_any (s : ByteArray) (w : World) (hs : s.size ≤ 9223372036854775807) (hT : Lib.Utf8Tabs 4 5 w) :
    Calls Tryd.prog 36 #[.string s] w fun e w' => e = .returned (.bool (validB s)) ∧ Below w.heap.size w w' := by
  have HT := Aside0.mk hT
  clear hT
  by_cases c : s.size ≤ 200
  · have c1 : ¬ (200 < (s.size : Int)) := by omega
    go_enter Tryd.func36, Tryd.ntmps36
    go_wp2_with fail
    refine (utf8_valid s w hs HT.out).mono ?_
    rintro e wa ⟨rfl, hB⟩
    have HB := Aside0.mk hB
    clear hB
    cases hv : Lib.validD s.data.toList with
    | false =>
      go_wp2_with fail
      go_ret
      exact ⟨by simp [validB, hv], HB.out⟩
    | true =>
      go_wp2_with fail
      go_loopw [] (fun w' => ∃ (pos b : Nat), w' = wa.iter s pos ∧ runesOk s b pos = runesOk s s.size 0 ∧ s.size ≤ pos + b) (fun w' => s.size - w'.iterPos wa.heap.size)
      case atStart => exact ⟨0, s.size, rfl, rfl, by omega⟩
      case round =>
        obtain ⟨pos, b, rfl, hc, hb⟩ := hrel
        by_cases hp : pos < s.size
        · have hnx : ∀ ty, (Instr.next (.pointer (some ⟨wa.heap.size, 0, none⟩)) true ty).run Tryd.prog (wa.iter s pos) = _ := fun ty => run_next_any wa s pos ty hp
          have hwd := width_pos s pos hp
          have hstep : ∀ b, runesOk s (b + 1) pos = if (Utf8.decode s pos).1 < 32 ∨ (Utf8.decode s pos).1 = 127 then false else runesOk s b (pos + (Utf8.decode s pos).2) := fun b => by rw [runesOk, if_pos hp]
          obtain ⟨b, rfl⟩ : ∃ b', b = b' + 1 := ⟨b - 1, by omega⟩
          rw [hstep] at hc
          clear hstep
          obtain ⟨d, hd⟩ : ∃ d, d = Utf8.decode s pos := ⟨_, rfl⟩
          rw [← hd] at hnx hwd hc
          clear hd hs HT
          by_cases c3 : d.1 < 32
          · have c3' : ((d.1 : Nat) : Int) < 32 := by omega
            rw [if_pos (.inl c3)] at hc
            go_wp2_with fail
            go_ret
            exact ⟨by simp [validB, hv, ← hc], below_iter HB.out⟩
          · have c3' : ¬ ((d.1 : Nat) : Int) < 32 := by omega
            by_cases c4 : d.1 = 127
            · have c4' : ((d.1 : Nat) : Int) = 127 := by omega
              rw [if_pos (.inr c4)] at hc
              go_wp2_with fail
              go_ret
              exact ⟨by simp [validB, hv, ← hc], below_iter HB.out⟩
            · have c4' : ¬ ((d.1 : Nat) : Int) = 127 := by omega
              rw [if_neg (fun h => h.elim c3 c4)] at hc
              go_wp2_with fail
              go_roundw
              case rel => exact ⟨pos + d.2, b, rfl, hc, by omega⟩
              case measure =>
                simp
                omega
        · have hnx : ∀ ty, (Instr.next (.pointer (some ⟨wa.heap.size, 0, none⟩)) true ty).run Tryd.prog (wa.iter s pos) = _ := fun ty => run_next_end wa s pos ty hp
          go_wp2_with fail
          go_ret
          rw [runesOk_end s b pos hp] at hc
          exact ⟨by simp [validB, c, hv, ← hc], below_iter HB.out⟩
  · have c1 : (200 < (s.size : Int)) := by omega
    go_enter Tryd.func36, Tryd.ntmps36
    go_wp2_with fail
    go_ret
    exact ⟨by simp [validB, c], Below.refl _ _⟩
end Go.Proofs.YtannjakcnnefhaaDoor
