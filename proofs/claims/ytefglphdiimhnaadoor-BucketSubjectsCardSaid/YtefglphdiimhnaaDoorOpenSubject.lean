import Derived.Test.YtefglphdiimhnaaDoorPSubj
import Derived.Test.YtefglphdiimhnaaDoorOpens
import Derived.Test.YtefglphdiimhnaaDoorOpenValue
import Derived.SizedLaws
import Derived.WalkKit
import Derived.DataShut
import Derived.Below
set_option linter.unusedVariables false
namespace Go.Proofs.YtefglphdiimhnaaDoor.Q
open Go Go.RowKit Go.ChangeAt Go.ChangeShapes Go.WideShapes Go.Joins Go.Deep Go.Proofs.YtefglphdiimhnaaDoor.Plain Go.Proofs.YtefglphdiimhnaaDoor.Laid Go.Proofs.YtefglphdiimhnaaDoorW.PrintWords
section
variable {H : Type} {enc : TypeId × Value → H} {w : World} {base : Nat} {sp : Nat → Bool} {held : Bool}
theorem i64_of {n : Int} (h : (Lit.int .i64 n).wf = true) : I64 n := (Lit.wf_int_iff .i64 n).1 h
theorem opens49 : Opens enc Tryd.prog w base sp held 49 k49 (fun y => I64 y.f1 ∧ y.f2.size ≤ 140737488351232 ∧ y.f3.length ≤ 8796093022208) := by
  refine opens_mono (opens_iso _ (fun x => (⟨x.1, x.2.1, x.2.2.1, x.2.2.2⟩ : S49)) (fun _ => rfl) (opens_struct Tryd.underlying49 (by kernel_rfl)
    (opensF_cons rfl (by kernel_rfl) (opens_int Tryd.underlying3) (opensF_cons rfl (by kernel_rfl) (opens_int Tryd.underlying3) (opensF_cons rfl (by kernel_rfl) (opens_string Tryd.underlying9) (opensF_last rfl (by kernel_rfl) (opens_slice 9 Tryd.underlying47 (by kernel_rfl) (opens_string Tryd.underlying9)))))))) ?_
  rintro y ⟨h0, h1, h2, h3, h4⟩
  refine ⟨i64_of h1, h2, ?_⟩
  have hb : Tryd.prog.bytesOf 9 = 16 := by kernel_rfl
  rw [hb] at h3
  have : y.f3.length * 16 ≤ 140737488351232 := h3
  omega
theorem opens98 : Opens enc Tryd.prog w base sp held 98 k98 GA := by
  refine opens_mono (opens_iso _ (fun x => (⟨x.1, x.2⟩ : S98)) (fun _ => rfl) (opens_struct Tryd.underlying98 (by kernel_rfl)
    (opensF_cons rfl (by kernel_rfl) (opens_string Tryd.underlying9) (opensF_last rfl (by kernel_rfl) opens49)))) ?_
  rintro y ⟨h0, h1⟩
  exact h1
theorem opens85 : Opens enc Tryd.prog w base sp held 85 k85 GC := by
  refine opens_mono (opens_iso _ (fun x => (⟨x.1, x.2.1, x.2.2⟩ : S85)) (fun _ => rfl) (opens_struct Tryd.underlying85 (by kernel_rfl)
    (opensF_cons rfl (by kernel_rfl) (opens_string Tryd.underlying9) (opensF_cons rfl (by kernel_rfl) (opens_string Tryd.underlying9) (opensF_last rfl (by kernel_rfl) (opens_slice 98 (by kernel_rfl) (by kernel_rfl) opens98)))))) ?_
  rintro y ⟨h0, h1, h2, h3⟩
  refine ⟨h1, ?_, h3⟩
  have hb : Tryd.prog.bytesOf 98 = 72 := by kernel_rfl
  rw [hb] at h2
  have : y.f2.length * 72 ≤ 140737488351232 := h2
  omega
theorem opens58 : Opens enc Tryd.prog w base sp held 58 k58 (fun y => ∀ c ∈ y.f0, GC c) := by
  refine opens_mono (opens_iso _ (fun x => (⟨x⟩ : S58)) (fun _ => rfl) (opens_struct Tryd.underlying58 (by kernel_rfl)
    (opensF_last rfl (by kernel_rfl) (opens_slice 85 (by kernel_rfl) (by kernel_rfl) opens85)))) ?_
  rintro y ⟨h0, h1⟩
  exact h1
set_option maxRecDepth 100000 in
/-- A subject that came in by value. -/
theorem open_subject {r : Reach} {b0 : Nat} {v : Value} {d : DataW H} {p : List MemPlace} (hv : Value.okWide Tryd.prog w r b0 58 v) (h : DataW.Trod enc Tryd.prog w base sp held 58 v d p) (hz : ∀ n ∈ d.weights Tryd.prog 58, n ≤ reachBytes) :
    ∃ (A : Option Addr) (c : Nat) (l : List S85), v = .agg #[.slice A l.length c] ∧ l.length ≤ c ∧ Kd.C k85 w A l.length l ∧ ∀ x ∈ l, GC x := by
  obtain ⟨cs, rfl, hsz⟩ := okWide_struct Tryd.underlying58 hv
  obtain ⟨fuel, hf⟩ := h
  have hop := opens58 (enc := enc) (w := w) (base := base) (sp := sp) (held := held)
  unfold Opens at hop
  obtain ⟨y, hK, hG⟩ := hop fuel (Value.agg cs).cells.toList (d, p) hf hz
  obtain ⟨A, c, hc, hl, hC⟩ := hK
  refine ⟨A, c, y.f0, ?_, hl, hC, hG⟩
  have : cs.toList = [.slice A y.f0.length c] := hc
  have : cs = #[.slice A y.f0.length c] := by
    cases cs
    simpa using this
  rw [this]
end
theorem subjects_law (A0 : Option Addr) (c0 : Nat) (l0 : List Int) (A1 : Option Addr) (c1 : Nat) (l1 : List S85) (a2 a3 a4 : ByteArray) (w : World) (hr0 : Kd.C (Kd.int .u8) w A0 l0.length l0) (hc0 : l0.length ≤ c0) (hr1 : Kd.C k85 w A1 l1.length l1) (hc1 : l1.length ≤ c1)
    (hl0 : ∀ x ∈ l0, 0 ≤ x ∧ x < 256) (hl1 : ∀ x ∈ l1, GC x) (hGL : GL w) :
    Calls Tryd.prog 9 #[.slice A0 l0.length c0, .agg #[.slice A1 l1.length c1], .string a2, .string a3, .string a4] w fun e w' => e = .returned (.bool true) ∧ Below w.heap.size w w' := by
  obtain ⟨k, h⟩ := subjects_true l0 l1 a2 a3 a4 hl0 (fun _ => hl1)
  exact flagstonelaw13_BucketSubjects.calls k A0 c0 l0 (fun k => k < w.heap.size) A1 c1 l1 a2 a3 a4 true w hr0 hc0 (Laid.V_of_C k85_heap hr1 hc1) hGL h
end Go.Proofs.YtefglphdiimhnaaDoor.Q
