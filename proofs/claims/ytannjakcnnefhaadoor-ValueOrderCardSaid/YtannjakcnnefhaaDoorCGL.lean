import Derived.Test.YtannjakcnnefhaaDoorProg
import Derived.Test.YtannjakcnnefhaaDoorCLaidAt
import Derived.WalkKit
import Derived.Below
import Derived.Test.YtannjakcnnefhaaDoorCUtf8At
import Derived.Test.YtannjakcnnefhaaDoorCErrAt
set_option linter.unusedVariables false
set_option linter.unusedSimpArgs false
set_option linter.unusedVariables false
namespace Go.Proofs.YtannjakcnnefhaaDoor
open Go Go.RowKit
def textsL : List ByteArray := [Laid.bsOf [115, 101], Laid.bsOf [100, 101], Laid.bsOf [117, 115], Laid.bsOf [112, 114, 111], Laid.bsOf [102, 114, 101, 101], Laid.bsOf [], Laid.bsOf [97, 34, 98], Laid.bsOf [99, 92], Laid.bsOf [195, 169], Laid.bsOf [112, 114, 111, 115, 101], Laid.bsOf [120, 32, 121]]
def versionsL : List ByteArray := [Laid.bsOf [49, 46, 48, 46, 48], Laid.bsOf [49, 46, 50, 46, 51], Laid.bsOf [49, 46, 49, 48, 46, 48], Laid.bsOf [50, 46, 48, 46, 49], Laid.bsOf [48, 46, 48, 46, 48], Laid.bsOf [57, 57, 57, 57, 57, 57, 46, 48, 46, 57, 57, 57, 57, 57, 57]]
def listsL : List (List ByteArray) := [[], [Laid.bsOf [112, 114, 111]], [Laid.bsOf [100, 101], Laid.bsOf [115, 101]], [Laid.bsOf [], Laid.bsOf [102, 114, 101, 101], Laid.bsOf [117, 115]], [Laid.bsOf [120, 32, 121]]]
/-- The library's table of the powers of ten. -/
def Pow10At (w : World) : Prop := w.var? Tryd.prog "internal/strconv.uint64pow10" = some (((List.range 20).map fun i => ((10 ^ i : Nat) : Int)).map fun z => Value.int .u64 z).toArray
theorem tabIs_below {w w1 : World} (h : Pow10At w) (hb : Below w.heap.size w w1) : Pow10At w1 := by
  unfold Pow10At at h ⊢
  have hg : Tryd.prog.globalNamed "internal/strconv.uint64pow10" = some 9 := by kernel_rfl
  refine (show w1.var? Tryd.prog _ = w.var? Tryd.prog _ from ?_).trans h
  unfold World.var? at h ⊢
  rw [hg] at h ⊢
  simp only [Option.bind_some] at h ⊢
  have hlt : 9 < w.heap.size := by
    apply Classical.byContradiction
    intro hn
    rw [Array.getElem?_eq_none (by omega)] at h
    cases h
  rw [hb.block _ hlt]
/-- What the package-level variables hold. -/
structure GL (w : World) : Prop where
  uint64pow10 : Pow10At w
  texts : Laid.StrsAt w 3 textsL
  versions : Laid.StrsAt w 0 versionsL
  lists : Laid.ListsAt w 1 listsL
  ErrRange : AnErr w 8
  ErrSyntax : AnErr w 7
  utf8 : Lib.Utf8Tabs 4 5 w
theorem GL.below {w w1 : World} (h : GL w) (hb : Below w.heap.size w w1) : GL w1 := ⟨tabIs_below h.uint64pow10 hb, h.texts.below hb, h.versions.below hb, h.lists.below hb, h.ErrRange.below hb, h.ErrSyntax.below hb, utf8_below h.utf8 hb⟩
open Go.Proofs.YtannjakcnnefhaaDoorW.PrintWords
theorem GL.C3 {w : World} (h : GL w) : Kd.C Kd.string w (some ⟨3, 0, none⟩) textsL.length textsL := h.texts.row (by decide)
theorem GL.N3 {w : World} {g : Nat} (h : GL w) (hg : w.heap.size ≤ g) : ∀ ad : Addr, (some (⟨3, 0, none⟩ : Addr)) = some ad → 0 < textsL.length → ad.block ≠ g := fun ad e hl => by
  obtain rfl := Option.some.inj e
  have := World.block_lt_of_cell? w _ (h.texts 0 hl)
  exact Nat.ne_of_lt (Nat.lt_of_lt_of_le this hg)
theorem GL.C0 {w : World} (h : GL w) : Kd.C Kd.string w (some ⟨0, 0, none⟩) versionsL.length versionsL := h.versions.row (by decide)
theorem GL.N0 {w : World} {g : Nat} (h : GL w) (hg : w.heap.size ≤ g) : ∀ ad : Addr, (some (⟨0, 0, none⟩ : Addr)) = some ad → 0 < versionsL.length → ad.block ≠ g := fun ad e hl => by
  obtain rfl := Option.some.inj e
  have := World.block_lt_of_cell? w _ (h.versions 0 hl)
  exact Nat.ne_of_lt (Nat.lt_of_lt_of_le this hg)
theorem GL.F1 {w0 w : World} {g : Nat} (h : GL w0) (hB : Below w0.heap.size w0 w) (hg : w0.heap.size ≤ g) : ∀ W_, KeepBut w W_ g none → Kd.C (Kd.slice 9 Kd.string) W_ (some ⟨1, 0, none⟩) listsL.length listsL := h.lists.foot _ (by decide) hB hg
end Go.Proofs.YtannjakcnnefhaaDoor
