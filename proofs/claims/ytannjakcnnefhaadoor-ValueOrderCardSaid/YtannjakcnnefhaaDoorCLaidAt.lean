import Derived.Test.YtannjakcnnefhaaDoorCW
set_option linter.unusedVariables false
set_option linter.unusedSimpArgs false
set_option linter.unusedVariables false
namespace Go.Proofs.YtannjakcnnefhaaDoor.Laid
open Go Go.RowKit Go.Proofs.YtannjakcnnefhaaDoorW.PrintWords
def bsOf (l : List UInt8) : ByteArray := ⟨l.toArray⟩
/-- An array of texts that stands from an address on. -/
def StrsAt (w : World) (g : Nat) (l : List ByteArray) : Prop := ∀ i, i < l.length → w.cell? ⟨g, i, none⟩ = some (.string (l.getD i ⟨#[]⟩))
theorem StrsAt.below {w w1 : World} {g : Nat} {l : List ByteArray} (h : StrsAt w g l) (hb : Below w.heap.size w w1) : StrsAt w1 g l := fun i hi =>
  (hb.cell (World.block_lt_of_cell? w _ (h i hi))).trans (h i hi)
/-- An array of lists of texts. -/
def ListsAt (w : World) (g : Nat) (l : List (List ByteArray)) : Prop := ∀ i, i < l.length → ∃ A c, w.cell? ⟨g, i, none⟩ = some (.slice A (l.getD i []).length c) ∧ (l.getD i []).length ≤ c ∧ Kd.C Kd.string w A (l.getD i []).length (l.getD i [])
theorem ListsAt.below {w w1 : World} {g : Nat} {l : List (List ByteArray)} (h : ListsAt w g l) (hb : Below w.heap.size w w1) : ListsAt w1 g l := fun i hi => by
  obtain ⟨A, c, h1, h2, h3⟩ := h i hi
  exact ⟨A, c, (hb.cell (World.block_lt_of_cell? w _ h1)).trans h1, h2, Kd.C_below h3 hb⟩
theorem StrsAt.row {w : World} {g : Nat} {l : List ByteArray} (h : StrsAt w g l) (hl : l.length ≤ 9223372036854775807) : Kd.C Kd.string w (some ⟨g, 0, none⟩) l.length l :=
  ⟨rfl, hl, fun _ => ⟨_, rfl, fun j p hj => by
    obtain ⟨hlt, rfl⟩ := List.getElem?_eq_some_iff.1 hj
    refine ⟨[.string l[j]], rfl, rfl, fun i u hu => ?_⟩
    rcases i with _ | i
    · obtain rfl := Option.some.inj hu
      have h1 := h j hlt
      rw [List.getD_eq_getElem?_getD, List.getElem?_eq_getElem hlt] at h1
      show w.cell? ((⟨g, 0, none⟩ : Addr).add (j * 1 + 0)) = _
      rw [Go.Proofs.YtannjakcnnefhaaDoorW.PrintWords.add_plain]
      simpa using h1
    · simp at hu⟩⟩
theorem ListsAt.row {w : World} {g : Nat} {l : List (List ByteArray)} (h : ListsAt w g l) (e : Nat) (hl : l.length ≤ 9223372036854775807) : Kd.C (Kd.slice e Kd.string) w (some ⟨g, 0, none⟩) l.length l :=
  ⟨rfl, hl, fun _ => ⟨_, rfl, fun j p hj => by
    obtain ⟨hlt, rfl⟩ := List.getElem?_eq_some_iff.1 hj
    obtain ⟨A, c, h1, h2, h3⟩ := h j hlt
    have hg : l.getD j [] = l[j] := by simp [hlt]
    rw [hg] at h1 h2 h3
    refine ⟨[.slice A l[j].length c], rfl, ⟨A, c, rfl, h2, h3⟩, fun i u hu => ?_⟩
    rcases i with _ | i
    · obtain rfl := Option.some.inj hu
      show w.cell? ((⟨g, 0, none⟩ : Addr).add (j * 1 + 0)) = _
      rw [Go.Proofs.YtannjakcnnefhaaDoorW.PrintWords.add_plain]
      simpa using h1
    · simp at hu⟩⟩
/-- .. and at each later world that keeps all but one younger block. -/
theorem ListsAt.foot {w0 w : World} {g gl : Nat} {l : List (List ByteArray)} (h : ListsAt w0 gl l) (e : Nat) (hl : l.length ≤ 9223372036854775807) (hB : Below w0.heap.size w0 w) (hg : w0.heap.size ≤ g) :
    ∀ W_, KeepBut w W_ g none → Kd.C (Kd.slice e Kd.string) W_ (some ⟨gl, 0, none⟩) l.length l := fun W_ hk => by
  have hb : Below w0.heap.size w0 { w0 with heap := W_.heap } := ⟨rfl, rfl, rfl, Nat.le_trans hB.size hk.1, fun i hi => (hk.2 i (Nat.lt_of_lt_of_le hi hB.size) (by omega) (by simp)).trans (hB.block i hi)⟩
  exact (h.below hb).row e hl
end Go.Proofs.YtannjakcnnefhaaDoor.Laid
