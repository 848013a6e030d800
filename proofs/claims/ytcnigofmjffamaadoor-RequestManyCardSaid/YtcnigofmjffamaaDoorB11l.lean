import Derived.Test.YtcnigofmjffamaaDoorB11a
import Derived.Test.YtcnigofmjffamaaDoorBG
set_option maxRecDepth 100000
set_option linter.unusedVariables false
set_option linter.unusedSimpArgs false
namespace Go.Proofs.YtcnigofmjffamaaDoor
open Go.Proofs.YtcnigofmjffamaaDoor.Sh Go.Proofs.YtcnigofmjffamaaDoor.Sh.V Go.RowKit
/-- What the package's variable holds. -/
def laidCells : List (Nat × Array Value) := [(0, (names13.map fun z => Value.string ⟨z.toArray⟩).toArray)]
theorem gOK {W : World} (h : laidMetH Tryd.prog [("godown/request.names", textData names13)] W) : G11 W.heap.size W := by
  have hg : Tryd.prog.globalNamed "godown/request.names" = some 0 := by kernel_rfl
  have hx := texts_of_head (W := W) hg (t := 83) (e := 9) (n := 13) (by kernel_rfl) (by kernel_rfl) (by kernel_rfl) (by kernel_rfl) (by kernel_rfl) h
  refine ⟨?_, hx⟩
  have h0 := hx 0 [] rfl
  rcases Nat.lt_or_ge 0 W.heap.size with h1 | h1
  · exact h1
  · have h2 : W.heap[0]? = none := Array.getElem?_eq_none h1
    simp [World.cell?, h2] at h0
end Go.Proofs.YtcnigofmjffamaaDoor
