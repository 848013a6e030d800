import Derived.Test.YtmpobijkbmljdaaVd
import Derived.Shelf.Strings.Search2
import Derived.Lib.CutLaws
import Derived.WalkKit
import Derived.Shelf.RegionOpenPlain
import Derived.Deep.Draws
import Derived.Laws.Strings3
import Derived.Test.YtmpobijkbmljdaaProg
import Derived.Test.YtmpobijkbmljdaaChecked
set_option maxRecDepth 100000
set_option maxHeartbeats 0
set_option linter.unusedVariables false
set_option linter.unusedSimpArgs false
namespace Go.Proofs.Ytmpobijkbmljdaa
open Go.Proofs.Ytmpobijkbmljdaa.Sh Go.Proofs.Ytmpobijkbmljdaa.Sh.V Go.RowKit Go.Shelf
/-! ### stringslite.Index: the kit's contract, laid at this program -/
def lays219_ren : Go.Shelf.Ren := ⟨fun | 219 => 63 | 217 => 66 | 225 => 67 | 224 => 68 | 267 => 69 | 266 => 71 | 314 => 72 | n => n, fun | 9 => 9 | 3 => 3 | 4 => 4 | 5 => 5 | 46 => 72 | 146 => 79 | 51 => 78 | n => n, fun | 1 => 1 | n => n⟩
theorem lays219 : Go.Proofs.Lays.n219 Try.prog lays219_ren := {
  mixed := by kernel_rfl
  f217 := Try.func66.trans (congrArg some (by kernel_rfl))
  f219 := Try.func63.trans (congrArg some (by kernel_rfl))
  f224 := Try.func68.trans (congrArg some (by kernel_rfl))
  f225 := Try.func67.trans (congrArg some (by kernel_rfl))
  f266 := Try.func71.trans (congrArg some (by kernel_rfl))
  f267 := Try.func69.trans (congrArg some (by kernel_rfl))
  f314 := Try.func72.trans (congrArg some (by kernel_rfl))
  t3 := Try.underlying3
  a3 := Try.isAgg3
  z3 := Try.sizeOf3
  v3 := Try.zeroValue3
  t4 := Try.underlying4
  a4 := Try.isAgg4
  z4 := Try.sizeOf4
  v4 := Try.zeroValue4
  t5 := Try.underlying5
  a5 := Try.isAgg5
  z5 := Try.sizeOf5
  v5 := Try.zeroValue5
  t9 := Try.underlying9
  a9 := Try.isAgg9
  z9 := Try.sizeOf9
  v9 := Try.zeroValue9
  t46 := Try.underlying72
  a46 := Try.isAgg72
  z46 := Try.sizeOf72
  v46 := Try.zeroValue72
  t51 := Try.underlying78
  a51 := Try.isAgg78
  z51 := Try.sizeOf78
  v51 := Try.zeroValue78
  t146 := Try.underlying79
  a146 := Try.isAgg79
  z146 := Try.sizeOf79
  v146 := Try.zeroValue79
  g1 := by kernel_rfl }
end Go.Proofs.Ytmpobijkbmljdaa
