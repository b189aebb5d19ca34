import Derived.Test.YtannjakcnnefhaaGreatDoorCU
import Derived.Test.YtannjakcnnefhaaGreatDoorCOpens
import Derived.SizedLaws
import Derived.WalkKit
import Derived.DataShut
import Derived.Below
set_option linter.unusedVariables false
set_option linter.unusedSimpArgs false
set_option linter.unusedVariables false
namespace Go.Proofs.YtannjakcnnefhaaGreatDoor.Laid
open Go Go.ChangeShapes Go.WideShapes Go.RowKit Go.Joins Go.Deep Go.Proofs.YtannjakcnnefhaaGreatDoorW.PrintWords
/-- What was there, as what may be shared: its blocks are elder. -/
theorem V_of_C {α : Type} {d : Kd α} (hd : Kd.Heap d) {e base : Nat} {w : World} {A : Option Addr} {c : Nat} {xs : List α} (h : d.C w A xs.length xs) (hc : xs.length ≤ c) : Kd.V d e w base (fun k => k < w.heap.size) (.slice A xs.length c) xs :=
  Kd.V_mk hc (fun W' hW => hd.C (fun k hk => hW k hk hk) h)
end Go.Proofs.YtannjakcnnefhaaGreatDoor.Laid
namespace Go.Proofs.YtannjakcnnefhaaGreatDoor.U
open Go Go.RowKit Go.ChangeAt Go.ChangeShapes Go.WideShapes Go.Joins Go.Deep Go.Proofs.YtannjakcnnefhaaGreatDoor.Laid Go.Proofs.YtannjakcnnefhaaGreatDoorW.PrintWords
section
variable {H : Type} {enc : TypeId × Value → H} {w : World} {base : Nat} {sp : Nat → Bool} {held : Bool}
def I64 (n : Int) : Prop := -9223372036854775808 ≤ n ∧ n ≤ 9223372036854775807
theorem i64_of {n : Int} (h : (Lit.int .i64 n).wf = true) : I64 n := (Lit.wf_int_iff .i64 n).1 h
/-- What is known of a value that came in. -/
def GV (y : S24) : Prop := I64 y.f0 ∧ I64 y.f1 ∧ y.f2.size ≤ 140737488351232 ∧ y.f3.length ≤ 8796093022208 ∧ ∀ x ∈ y.f3, x.size ≤ 140737488351232
theorem opens_value : Opens enc Tryz.prog w base sp held 24 k24 GV := by
  refine opens_mono (opens_iso _ (fun x => (⟨x.1, x.2.1, x.2.2.1, x.2.2.2⟩ : S24)) (fun _ => rfl) (opens_struct Tryz.underlying24 (by kernel_rfl)
    (opensF_cons rfl (by kernel_rfl) (opens_int Tryz.underlying3) (opensF_cons rfl (by kernel_rfl) (opens_int Tryz.underlying3) (opensF_cons rfl (by kernel_rfl) (opens_string Tryz.underlying9) (opensF_last rfl (by kernel_rfl) (opens_slice 9 Tryz.underlying22 (by kernel_rfl) (opens_string Tryz.underlying9)))))))) ?_
  rintro y ⟨h0, h1, h2, h3, h4⟩
  refine ⟨i64_of h0, i64_of h1, h2, ?_, h4⟩
  have hb : Tryz.prog.bytesOf 9 = 16 := by kernel_rfl
  rw [hb] at h3
  have : y.f3.length * 16 ≤ 140737488351232 := h3
  omega
set_option maxRecDepth 100000 in
/-- A value that came in. -/
theorem open_val {r : Reach} {b0 : Nat} {v : Value} {d : DataW H} {p : List MemPlace} (hv : Value.okWide Tryz.prog w r b0 24 v) (h : DataW.Trod enc Tryz.prog w base sp held 24 v d p) (hz : ∀ n ∈ d.weights Tryz.prog 24, n ≤ reachBytes) :
    ∃ (a b : Int) (s : ByteArray) (A : Option Addr) (c : Nat) (l : List ByteArray), v = .agg #[.int .i64 a, .int .i64 b, .string s, .slice A l.length c] ∧ l.length ≤ c ∧ Kd.C Kd.string w A l.length l ∧ GV ⟨a, b, s, l⟩ := by
  obtain ⟨cs, rfl, hsz⟩ := okWide_struct Tryz.underlying24 hv
  obtain ⟨fuel, hf⟩ := h
  have hop := opens_value (enc := enc) (w := w) (base := base) (sp := sp) (held := held)
  unfold Opens at hop
  obtain ⟨y, hK, hG⟩ := hop fuel (Value.agg cs).cells.toList (d, p) hf hz
  obtain ⟨A, c, hcs, hl, hC⟩ := k24_open hK
  refine ⟨y.f0, y.f1, y.f2, A, c, y.f3, ?_, hl, hC, hG⟩
  have : cs.toList = [.int .i64 y.f0, .int .i64 y.f1, .string y.f2, .slice A y.f3.length c] := hcs
  have : cs = #[.int .i64 y.f0, .int .i64 y.f1, .string y.f2, .slice A y.f3.length c] := by
    cases cs
    simpa using this
  rw [this]
end
end Go.Proofs.YtannjakcnnefhaaGreatDoor.U
