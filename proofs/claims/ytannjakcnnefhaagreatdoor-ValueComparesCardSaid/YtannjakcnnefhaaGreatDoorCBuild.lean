import Derived.Test.YtannjakcnnefhaaGreatDoorCShelf
import Derived.Shelf.Strings.BuilderK
set_option linter.unusedVariables false
set_option linter.unusedSimpArgs false
set_option linter.unusedVariables false
namespace Go.Proofs
open Go Go.Shelf Go.RowKit Go.Lib
def Tryz.laysWB_ren : Go.Shelf.Ren := ⟨fun | 167 => 53 | n => Tryz.lays156_ren.f n, fun n => Tryz.lays156_ren.t n, fun n => Tryz.lays156_ren.g n⟩
theorem Tryz.laysWB : Lays.n167 Tryz.prog Tryz.laysWB_ren := { Tryz.lays156 with t5 := Tryz.Builder_Extra_156.t5, a5 := Tryz.Builder_Extra_156.a5, z5 := Tryz.Builder_Extra_156.z5, v5 := Tryz.Builder_Extra_156.v5, f167 := by kernel_rfl, f240 := by kernel_rfl, f276 := by kernel_rfl }
set_option maxRecDepth 100000 in
theorem Tryz.extraWB : Builder.Extra Tryz.prog Tryz.laysWB_ren := { sizeBuilder := Tryz.Builder_Extra_156.sizeBuilder, liesBuilder := Tryz.Builder_Extra_156.liesBuilder, t5 := Tryz.Builder_Extra_156.t5, a5 := Tryz.Builder_Extra_156.a5, z5 := Tryz.Builder_Extra_156.z5, v5 := Tryz.Builder_Extra_156.v5, infoByte := Tryz.Builder_Extra_156.infoByte, cellsByte := Tryz.Builder_Extra_156.cellsByte, sizeByte := Tryz.Builder_Extra_156.sizeByte, neB5 := Tryz.Builder_Extra_156.neB5 }
/-- (*strings.Builder).WriteByte. -/
theorem Tryz.WriteByte_k (B b : Nat) (bs : List Value) (c : Int) (w : World) (h : Lib.IsBuilderF 75 5 B b bs w) (hlen : bs.length + 1 ≤ 140737488355328) (hBw : B ≤ w.heap.size) :
    Calls Tryz.prog 53 #[.pointer (some ⟨b, 0, none⟩), .int .u8 c] w fun e w' => e = .returned .nilIface ∧ (Lib.BuilderAtF 75 5 B b (.pointer (some ⟨b, 0, none⟩)) (bs ++ [.int .u8 c]) w' ∧ Below B w w' ∧ Lib.OthersKept 5 (some b) w w') :=
  Any.Builder_WriteByte_k Tryz.laysWB Tryz.extraWB B b bs c w h hlen hBw
end Go.Proofs
