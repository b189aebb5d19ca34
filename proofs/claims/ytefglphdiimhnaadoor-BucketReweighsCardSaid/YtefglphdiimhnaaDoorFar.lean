import Derived.Test.YtefglphdiimhnaaDoorQ0
set_option linter.unusedVariables false
namespace Go.Proofs.YtefglphdiimhnaaDoor.Q
open Go Go.RowKit Go.Proofs.YtefglphdiimhnaaDoorW.PrintWords
/-- A row of the call's own that lies apart from block g. -/
def Far {α : Type} (d : Kd α) (e : Nat) (w : World) (g : Nat) (v : Value) (xs : List α) : Prop := Kd.R d e w 0 (fun k => k ≠ g ∧ k < w.heap.size) v xs
section
variable {α : Type} {d : Kd α} {e g base : Nat} {w w1 : World} {ok : Nat → Prop} {v : Value} {xs : List α}
theorem Far.of (h : Kd.R d e w base ok v xs) (hg : g < base) : Far d e w g v xs :=
  Kd.R_mono (Kd.R_lower (Kd.R_bound h) (Nat.zero_le _)) (fun k hk => ⟨by have := hk.2.1; omega, hk.2.2.1⟩)
theorem Far.keep (h : Far d e w g v xs) (hk : KeepBut w w1 g none) : Far d e w1 g v xs :=
  Kd.R_mono (Kd.R_move h (fun k hk2 => hk.2 k hk2.2 hk2.1 (by simp))) (fun k hk2 => ⟨hk2.1, by have := hk.1; omega⟩)
theorem Far.below (h : Far d e w g v xs) (hb : Below w.heap.size w w1) : Far d e w1 g v xs :=
  Kd.R_mono (Kd.R_move h (fun k hk2 => hb.block k hk2.2)) (fun k hk2 => ⟨hk2.1, by have := hb.size; omega⟩)
theorem Far.reads (h : Far d e w g v xs) : ∃ A c, v = .slice A xs.length c ∧ xs.length ≤ c ∧ d.C w A xs.length xs := Kd.R_reads h
end
end Go.Proofs.YtefglphdiimhnaaDoor.Q
