/- framing: what the library's variables hold, out of the row's list and the world's shape. -/
import Derived.Test.YtagmdkmgagfmhaaDoorFrhVs
import Derived.Test.YtagmdkmgagfmhaaDoorRows
import Derived.Lib.LaidU8
import Derived.Lib.LaidTab
import Derived.Shelf.Vars
import Derived.MakeChecks
namespace Go.Proofs.YtagmdkmgagfmhaaDoor.Fr
open Go.Lib Go.Proofs.YtagmdkmgagfmhaaDoor
theorem pow_data : (Rows.laid_internal_strconv_uint64pow10 : DataW Unit) = tabData .u64 pow10Tab := by kernel_rfl
theorem vs_of {laid : List (String × DataW Unit)} {W : World} (hp : (laid.all fun x => x.2.handleName?.isNone) = true) (hm : ("internal/strconv.uint64pow10", (Rows.laid_internal_strconv_uint64pow10 : DataW Unit)) ∈ laid) (hL : laidMetH Tryd.prog laid W) (hsh : W.ShapedOpen Tryd.prog) : Vs W := by
  rw [MakeChecks.laidMetH_plain _ _ _ hp] at hL
  refine ⟨cell_of_shapedOpen_int (g := 0) (t := 3) (zero := #[.int .i64 0]) (k := .i64) hsh (of_decide_eq_true (by kernel_rfl)) (by kernel_rfl) rfl (by kernel_rfl) (by kernel_rfl) Tryd.underlying3, ?_⟩
  obtain ⟨g', t', cs, fuel, p, hg', ht', hvar, hd⟩ := laidMet.reads hL hm
  obtain rfl := Option.some.inj (gPow.symm.trans hg')
  obtain rfl := Option.some.inj ((show (Tryd.prog.globals[4]?).map (·.type) = some 96 by kernel_rfl).symm.trans ht')
  rw [pow_data] at hd
  unfold TabIs
  rw [hvar, ← cells_of_tab (n := 20) (e := 74) Tryd.underlying96 Tryd.underlying74 (by kernel_rfl) (by kernel_rfl) hd]
end Go.Proofs.YtagmdkmgagfmhaaDoor.Fr
