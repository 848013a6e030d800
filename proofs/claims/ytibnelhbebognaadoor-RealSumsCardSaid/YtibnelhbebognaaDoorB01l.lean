import Derived.Test.YtibnelhbebognaaDoorB01c
import Derived.Test.YtibnelhbebognaaDoorBG
set_option maxRecDepth 100000
set_option linter.unusedVariables false
set_option linter.unusedSimpArgs false
namespace Go.Proofs.YtibnelhbebognaaDoor
open Go.Proofs.YtibnelhbebognaaDoor.Sh Go.Proofs.YtibnelhbebognaaDoor.Sh.V Go.RowKit
/-- What the package's variables hold. -/
def laidCells : List (Nat × Array Value) := [(2, (db32.map fun n => Value.int .u8 n).toArray), (3, (db64.map fun n => Value.int .u8 n).toArray), (1, (p10.map fun n => Value.int .u64 n).toArray)]
theorem gOK {W : World} (h : laidMetH Tryd.prog [("math/bits.deBruijn32tab", Lib.tabData .u8 db32), ("math/bits.deBruijn64tab", Lib.tabData .u8 db64), ("internal/strconv.uint64pow10", Lib.tabData .u64 p10)] W) : globIn globs W.heap.size W := by
  have h : laidMet Tryd.prog [("math/bits.deBruijn32tab", Lib.tabData .u8 db32), ("math/bits.deBruijn64tab", Lib.tabData .u8 db64), ("internal/strconv.uint64pow10", Lib.tabData .u64 p10)] W := h
  have g2 : Tryd.prog.globalNamed "math/bits.deBruijn32tab" = some 2 := by kernel_rfl
  have g3 : Tryd.prog.globalNamed "math/bits.deBruijn64tab" = some 3 := by kernel_rfl
  have g1 : Tryd.prog.globalNamed "internal/strconv.uint64pow10" = some 1 := by kernel_rfl
  have t2 := Lib.tabIs_of_head (W := W) g2 (t := 64) (e := 5) (n := 32) (by kernel_rfl) (by kernel_rfl) (by kernel_rfl) (by kernel_rfl) (by kernel_rfl) h
  have t3 := Lib.tabIs_of_head (W := W) g3 (t := 65) (e := 5) (n := 64) (by kernel_rfl) (by kernel_rfl) (by kernel_rfl) (by kernel_rfl) (by kernel_rfl) (laid_tail h)
  have t1 := Lib.tabIs_of_head (W := W) g1 (t := 58) (e := 22) (n := 20) (by kernel_rfl) (by kernel_rfl) (by kernel_rfl) (by kernel_rfl) (by kernel_rfl) (laid_tail (laid_tail h))
  intro x hx
  simp only [globs, List.mem_cons, List.not_mem_nil, or_false] at hx
  rcases hx with rfl | rfl | rfl
  · exact glob_ints t2 g2 (by decide)
  · exact glob_ints t3 g3 (by decide)
  · exact glob_ints t1 g1 (by decide)
end Go.Proofs.YtibnelhbebognaaDoor
