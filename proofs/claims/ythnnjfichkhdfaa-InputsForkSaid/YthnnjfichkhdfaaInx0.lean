import Derived.Test.YthnnjfichkhdfaaProg
import Derived.Below
import Derived.Deep.Draws
import Derived.Deep.AppendLies
import Derived.Maps.AppendAt
import Derived.OwnWalk
import Derived.Laws.BytesArg
import Derived.Laws.MakeOwn
import Derived.Laws.OwnMore
import Derived.Deep.OwnRows
import Derived.Tactics
import Derived.Lib.ConvBytes
import Derived.Laws.Slices
import Derived.WalkKit
import Derived.KernelRfl
import Derived.RowKit3
import Derived.Deep.LoopGhost
import Derived.Deep.QuietTactic
import Derived.BigQuiet
import Derived.WideLaws
import Derived.Deep.DeepCutAuto
import Derived.Deep.CutBlock
import Derived.Deep.RegionHeld3
import Derived.Laws.Rows
import Derived.Lib.AppendStr
import Derived.ArgAppend
import Derived.Laws.IdiomCopy
import Derived.OrdersHeld
import Derived.Laws.BitsLemmas
import Derived.RowKit
import Derived.Test.YthnnjfichkhdfaaWWords
import Derived.Test.YthnnjfichkhdfaaWLast
import Derived.Test.YthnnjfichkhdfaaWTab
import Derived.Test.YthnnjfichkhdfaaWFour
import Derived.Test.YthnnjfichkhdfaaWQPut
import Derived.Test.YthnnjfichkhdfaaWApart
import Derived.Test.YthnnjfichkhdfaaWArr
import Derived.Test.YthnnjfichkhdfaaWZeros
import Derived.Test.YthnnjfichkhdfaaWFoot
import Derived.Test.YthnnjfichkhdfaaWKept
import Derived.Test.YthnnjfichkhdfaaWShare
import Derived.Test.YthnnjfichkhdfaaWN
import Derived.Test.YthnnjfichkhdfaaWFootNe
import Derived.Test.YthnnjfichkhdfaaWAt
import Derived.Test.YthnnjfichkhdfaaWEqStruct
import Derived.Test.YthnnjfichkhdfaaWRepsOne
import Derived.Test.YthnnjfichkhdfaaWInv
import Derived.Test.YthnnjfichkhdfaaWInvWords
import Derived.Test.YthnnjfichkhdfaaWGuard
import Derived.Test.YthnnjfichkhdfaaWNEv
import Derived.Test.YthnnjfichkhdfaaWMore
namespace Go.Proofs.Ythnnjfichkhdfaa.In
open Go.RowKit Go.Proofs.YthnnjfichkhdfaaW.PrintWords Go.Proofs.YthnnjfichkhdfaaW.PrintLast Go.Proofs.YthnnjfichkhdfaaW.PrintMore
attribute [local go_sem] max2_int min2_int max_two min_two max_three min_three max_four min_four   -- for this text's walks alone
set_option linter.unusedVariables false
set_option linter.unusedSimpArgs false



def errW : Option Int → Value
  | none => .nilIface
  | some c => .iface 0 (.int .i64 c)
theorem errW_none : errW none = .nilIface := rfl
theorem errW_some (c : Int) : errW (some c) = .iface 0 (.int .i64 c) := rfl

theorem info3 : (Try.prog.info? 3).map (fun i => (i.zero, i.size, i.bytes)) = some (some (.int .i64 0), 1, 8) := by kernel_rfl
-- the values' own types

theorem bne_nil_isEmpty {α : Type} [BEq α] (l : List α) : (l != []) = !l.isEmpty := by cases l <;> rfl
end Go.Proofs.Ythnnjfichkhdfaa.In
