import Derived.Below
import Derived.WalkKit
import Derived.ProofKit
set_option linter.unusedVariables false
set_option linter.unusedSimpArgs false
set_option linter.unusedVariables false
namespace Go.Proofs.YtannjakcnnefhaaDoor
open Go Go.RowKit
/-- What a variable of the type error holds: something. -/
def AnErr (w : World) (g : Nat) : Prop := ∃ ev, w.cell? ⟨g, 0, none⟩ = some ev ∧ (ev = .nilIface ∨ ∃ te pe, ev = .iface te pe)
theorem AnErr.below {w w1 : World} {g : Nat} (h : AnErr w g) (hb : Below w.heap.size w w1) : AnErr w1 g := by
  obtain ⟨ev, h1, h2⟩ := h
  exact ⟨ev, (hb.cell (World.block_lt_of_cell? w _ h1)).trans h1, h2⟩
theorem err_of_trod {H : Type} {enc : TypeId × Value → H} {P : Program} {w : World} {base : Nat} {sp : Nat → Bool} {held : Bool} {t : TypeId} {m} (ht : P.underlying t = some (.interface m)) :
    ∀ {fuel : Nat} {cs : List Value} {x : DataW H × List MemPlace}, DataW.trod enc P w base sp held fuel t cs = some x → ∃ v, cs = [v] ∧ (v = .nilIface ∨ ∃ te pe, v = .iface te pe)
  | 0, cs, x, h => by simp [DataW.trod] at h
  | fuel + 1, cs, x, h => by
    simp only [DataW.trod, ht] at h
    split at h <;> first | exact ⟨_, rfl, .inl rfl⟩ | exact ⟨_, rfl, .inr ⟨_, _, rfl⟩⟩ | simp_all
end Go.Proofs.YtannjakcnnefhaaDoor
