/- what strings.Builder.String's contract asks of the byte type. -/
import Derived.Shelf.Strings.Builder1
import Derived.Test.YtmonbhoeplmieaaDoorJshSl
namespace Go.Proofs
open Go.Shelf
theorem YtmonbhoeplmieaaDoor.Builder_Extra_169 : Builder.Extra Tryd.prog YtmonbhoeplmieaaDoor.lays169_ren := {
  sizeBuilder := by kernel_rfl
  liesBuilder := by kernel_rfl
  t5 := Tryd.underlying5
  a5 := Tryd.isAgg5
  z5 := Tryd.sizeOf5
  v5 := Tryd.zeroValue5
  infoByte := by kernel_rfl
  cellsByte := by kernel_rfl
  sizeByte := by kernel_rfl
  neB5 := by decide }
end Go.Proofs
