import Derived.Test.YtagmdkmgagfmhaaDoorProg
import Derived.Below
import Derived.Deep.Draws
import Derived.Deep.AppendLies
import Derived.Maps.AppendAt
import Derived.OwnWalk
import Derived.Laws.BytesArg
import Derived.Laws.MakeOwn
import Derived.Laws.OwnMore
import Derived.Deep.OwnRows
import Derived.Tactics
import Derived.Lib.ConvBytes
import Derived.Laws.Slices
import Derived.WalkKit
import Derived.KernelRfl
import Derived.RowKit3
import Derived.Deep.LoopGhost
import Derived.Deep.QuietTactic
import Derived.BigQuiet
import Derived.WideLaws
import Derived.Deep.DeepCutAuto
import Derived.Deep.CutBlock
import Derived.Deep.RegionHeld3
import Derived.Laws.Rows
import Derived.Lib.AppendStr
import Derived.ArgAppend
import Derived.Laws.IdiomCopy
import Derived.OrdersHeld
import Derived.Laws.BitsLemmas
import Derived.RowKit
import Derived.Test.YtagmdkmgagfmhaaDoorWWords
import Derived.Test.YtagmdkmgagfmhaaDoorWLast
import Derived.Test.YtagmdkmgagfmhaaDoorWTab
import Derived.Test.YtagmdkmgagfmhaaDoorWFour
import Derived.Test.YtagmdkmgagfmhaaDoorWQPut
import Derived.Test.YtagmdkmgagfmhaaDoorWApart
import Derived.Test.YtagmdkmgagfmhaaDoorWArr
import Derived.Test.YtagmdkmgagfmhaaDoorWZeros
import Derived.Test.YtagmdkmgagfmhaaDoorWFoot
import Derived.Test.YtagmdkmgagfmhaaDoorWKept
import Derived.Test.YtagmdkmgagfmhaaDoorWShare
import Derived.Test.YtagmdkmgagfmhaaDoorWN
import Derived.Test.YtagmdkmgagfmhaaDoorWFootNe
import Derived.Test.YtagmdkmgagfmhaaDoorWAt
import Derived.Test.YtagmdkmgagfmhaaDoorWEqStruct
import Derived.Test.YtagmdkmgagfmhaaDoorWRepsOne
import Derived.Test.YtagmdkmgagfmhaaDoorWInv
import Derived.Test.YtagmdkmgagfmhaaDoorWInvWords
import Derived.Test.YtagmdkmgagfmhaaDoorWGuard
import Derived.Test.YtagmdkmgagfmhaaDoorWNEv
import Derived.Test.YtagmdkmgagfmhaaDoorWMore
namespace Go.Proofs.YtagmdkmgagfmhaaDoor.Fr
open Go.RowKit Go.Proofs.YtagmdkmgagfmhaaDoorW.PrintWords Go.Proofs.YtagmdkmgagfmhaaDoorW.PrintLast Go.Proofs.YtagmdkmgagfmhaaDoorW.PrintMore
attribute [local go_sem] max2_int min2_int max_two min_two max_three min_three max_four min_four   -- for this text's walks alone
set_option linter.unusedVariables false
set_option linter.unusedSimpArgs false



def errW : Option Int → Value
  | none => .nilIface
  | some c => .iface 0 (.int .i64 c)
theorem errW_none : errW none = .nilIface := rfl
theorem errW_some (c : Int) : errW (some c) = .iface 0 (.int .i64 c) := rfl

-- the values' own types

theorem bne_nil_isEmpty {α : Type} [BEq α] (l : List α) : (l != []) = !l.isEmpty := by cases l <;> rfl
end Go.Proofs.YtagmdkmgagfmhaaDoor.Fr
