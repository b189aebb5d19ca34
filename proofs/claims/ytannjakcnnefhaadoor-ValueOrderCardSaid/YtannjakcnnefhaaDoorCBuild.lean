import Derived.Test.YtannjakcnnefhaaDoorCShelf
import Derived.Shelf.Strings.BuilderK
set_option linter.unusedVariables false
set_option linter.unusedSimpArgs false
set_option linter.unusedVariables false
namespace Go.Proofs
open Go Go.Shelf Go.RowKit Go.Lib
def Tryd.laysWB_ren : Go.Shelf.Ren := ⟨fun | 167 => 44 | n => Tryd.lays156_ren.f n, fun n => Tryd.lays156_ren.t n, fun n => Tryd.lays156_ren.g n⟩
theorem Tryd.laysWB : Lays.n167 Tryd.prog Tryd.laysWB_ren := { Tryd.lays156 with t5 := Tryd.Builder_Extra_156.t5, a5 := Tryd.Builder_Extra_156.a5, z5 := Tryd.Builder_Extra_156.z5, v5 := Tryd.Builder_Extra_156.v5, f167 := by kernel_rfl, f240 := by kernel_rfl, f276 := by kernel_rfl }
set_option maxRecDepth 100000 in
theorem Tryd.extraWB : Builder.Extra Tryd.prog Tryd.laysWB_ren := { sizeBuilder := Tryd.Builder_Extra_156.sizeBuilder, liesBuilder := Tryd.Builder_Extra_156.liesBuilder, t5 := Tryd.Builder_Extra_156.t5, a5 := Tryd.Builder_Extra_156.a5, z5 := Tryd.Builder_Extra_156.z5, v5 := Tryd.Builder_Extra_156.v5, infoByte := Tryd.Builder_Extra_156.infoByte, cellsByte := Tryd.Builder_Extra_156.cellsByte, sizeByte := Tryd.Builder_Extra_156.sizeByte, neB5 := Tryd.Builder_Extra_156.neB5 }
/-- (*strings.Builder).WriteByte. -/
theorem Tryd.WriteByte_k (B b : Nat) (bs : List Value) (c : Int) (w : World) (h : Lib.IsBuilderF 74 5 B b bs w) (hlen : bs.length + 1 ≤ 140737488355328) (hBw : B ≤ w.heap.size) :
    Calls Tryd.prog 44 #[.pointer (some ⟨b, 0, none⟩), .int .u8 c] w fun e w' => e = .returned .nilIface ∧ (Lib.BuilderAtF 74 5 B b (.pointer (some ⟨b, 0, none⟩)) (bs ++ [.int .u8 c]) w' ∧ Below B w w' ∧ Lib.OthersKept 5 (some b) w w') :=
  Any.Builder_WriteByte_k Tryd.laysWB Tryd.extraWB B b bs c w h hlen hBw
end Go.Proofs
