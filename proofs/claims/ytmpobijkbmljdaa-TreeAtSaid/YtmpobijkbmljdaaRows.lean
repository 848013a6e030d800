/-
  NARROWER THAN 'FOR EVERY INPUT', by the rows' own cells (each row's printed sentence says how): TreeRight: loops.
  DERIVED. THE GIVEN ROWS OF THIS SEAT. 6 by the template 'for every input the law returns true; each argument reads behind the call as it read before'; 0 by the template 'total and deterministic' (their statements: YtmpobijkbmljdaaTotals.lean).
  GIVEN WITH THE SEED: the statements are not yours to turn. If you find one false, say at which input.
  Laid BY PROGRAM, IN A SANDBOX (cutbox-rows.mjs): the forced cells as the released guide's own fill.sh prints them over the translation 71a5c6a6c0116102… (all of the seat's roots in one cut). By AI agents, Wed Nov 11 2026. No macro, syntax, notation, axiom, sorry.
-/
import Derived.Test.YtmpobijkbmljdaaChecked
import GoSem.Claim
import GoSem.ClaimJoined
import GoSem.ClaimMapViews
import Derived.JoinedTies
import Derived.KernelRfl
namespace Go.Proofs.Ytmpobijkbmljdaa
/- THE CELL 'sum', in the pinned program and in every row, IS THE sha256 OF THE DUMP (.gsa) THAT YtmpobijkbmljdaaProg.lean LOADS. Nothing in Lean hashes anything: it is a label: what it is worth is what the hold of that sum in a sandbox is worth. -/
noncomputable def Try.pinned : Pinned := { name := "ytmpobijkbmljdaa", sum := "71a5c6a6c0116102177cfca7556486ab729b2c128aa90af28eee5e6cf158108a", checked := Try.checked }
namespace Rows
def none {H : Type} : Left H := { results := [], args := [] }

/-- 'godownlaw05.TreeRight': WHATEVER THE INPUT: true; the input reads as it did. -/
def treeRightSpec : ChangeSpec := { name := "treeRight", fn := fun _ => fun
  | [d] => { results := [.lit (.bool true)], args := [d] }
  | _ => none }
def treeRightRow : OpenClaim := { program := "ytmpobijkbmljdaa", sum := "71a5c6a6c0116102177cfca7556486ab729b2c128aa90af28eee5e6cf158108a", func := "godown/godownlaw05.TreeRight", spec := "treeRight", inPlace := ["math.Float64frombits", "math.Float64bits", "internal/bytealg.IndexByteString", "internal/bytealg.IndexString"], unfollowed := true, recurses := true, named := ["internal/bytealg.MaxLen"], loops := true, apart := false }
def TreeRightSaid : Prop := treeRightRow.holds Try.pinned (OpenSpec.ofChange treeRightSpec)

/-- ITS FALSE NEIGHBOUR: 'it returns false'. Refute it at one input. -/
def treeRightWrong : ChangeSpec := { name := "treeRight", fn := fun _ => fun
  | [d] => { results := [.lit (.bool false)], args := [d] }
  | _ => none }
def TreeRightWrongFalsely : Prop := treeRightRow.holds Try.pinned (OpenSpec.ofChange treeRightWrong)

/-- 'godownlaw05.TreeBounds': WHATEVER THE INPUT: true; the input reads as it did. -/
def treeBoundsSpec : ChangeSpec := { name := "treeBounds", fn := fun _ => fun
  | [d1, d2, d3] => { results := [.lit (.bool true)], args := [d1, d2, d3] }
  | _ => none }
def treeBoundsRow : OpenClaim := { program := "ytmpobijkbmljdaa", sum := "71a5c6a6c0116102177cfca7556486ab729b2c128aa90af28eee5e6cf158108a", func := "godown/godownlaw05.TreeBounds", spec := "treeBounds", inPlace := ["math.Float64frombits", "math.Float64bits", "internal/bytealg.IndexByteString", "internal/bytealg.IndexString"], unfollowed := true, recurses := true, named := ["internal/bytealg.MaxLen"], apart := false }
def TreeBoundsSaid : Prop := treeBoundsRow.holds Try.pinned (OpenSpec.ofChange treeBoundsSpec)

/-- ITS FALSE NEIGHBOUR: 'it returns false'. Refute it at one input. -/
def treeBoundsWrong : ChangeSpec := { name := "treeBounds", fn := fun _ => fun
  | [d1, d2, d3] => { results := [.lit (.bool false)], args := [d1, d2, d3] }
  | _ => none }
def TreeBoundsWrongFalsely : Prop := treeBoundsRow.holds Try.pinned (OpenSpec.ofChange treeBoundsWrong)

/-- 'godownlaw05.TreeMade': WHATEVER THE INPUT: true; the input reads as it did. -/
def treeMadeSpec : ChangeSpec := { name := "treeMade", fn := fun _ => fun
  | [d1, d2, d3, d4] => { results := [.lit (.bool true)], args := [d1, d2, d3, d4] }
  | _ => none }
def treeMadeRow : OpenClaim := { program := "ytmpobijkbmljdaa", sum := "71a5c6a6c0116102177cfca7556486ab729b2c128aa90af28eee5e6cf158108a", func := "godown/godownlaw05.TreeMade", spec := "treeMade", inPlace := ["math.Float64frombits", "math.Float64bits", "internal/bytealg.IndexByteString", "internal/bytealg.IndexString"], unfollowed := true, recurses := true, named := ["internal/bytealg.MaxLen"], apart := false }
def TreeMadeSaid : Prop := treeMadeRow.holds Try.pinned (OpenSpec.ofChange treeMadeSpec)

/-- ITS FALSE NEIGHBOUR: 'it returns false'. Refute it at one input. -/
def treeMadeWrong : ChangeSpec := { name := "treeMade", fn := fun _ => fun
  | [d1, d2, d3, d4] => { results := [.lit (.bool false)], args := [d1, d2, d3, d4] }
  | _ => none }
def TreeMadeWrongFalsely : Prop := treeMadeRow.holds Try.pinned (OpenSpec.ofChange treeMadeWrong)

/-- 'godownlaw05.TreeSame': WHATEVER THE INPUT: true; the input reads as it did. -/
def treeSameSpec : ChangeSpec := { name := "treeSame", fn := fun _ => fun
  | [d1, d2, d3, d4] => { results := [.lit (.bool true)], args := [d1, d2, d3, d4] }
  | _ => none }
def treeSameRow : OpenClaim := { program := "ytmpobijkbmljdaa", sum := "71a5c6a6c0116102177cfca7556486ab729b2c128aa90af28eee5e6cf158108a", func := "godown/godownlaw05.TreeSame", spec := "treeSame", inPlace := ["math.Float64frombits", "math.Float64bits", "internal/bytealg.IndexByteString", "internal/bytealg.IndexString"], unfollowed := true, recurses := true, named := ["internal/bytealg.MaxLen"], apart := false }
def TreeSameSaid : Prop := treeSameRow.holds Try.pinned (OpenSpec.ofChange treeSameSpec)

/-- ITS FALSE NEIGHBOUR: 'it returns false'. Refute it at one input. -/
def treeSameWrong : ChangeSpec := { name := "treeSame", fn := fun _ => fun
  | [d1, d2, d3, d4] => { results := [.lit (.bool false)], args := [d1, d2, d3, d4] }
  | _ => none }
def TreeSameWrongFalsely : Prop := treeSameRow.holds Try.pinned (OpenSpec.ofChange treeSameWrong)

/-- 'godownlaw05.TreeCanons': WHATEVER THE INPUT: true; the input reads as it did. -/
def treeCanonsSpec : ChangeSpec := { name := "treeCanons", fn := fun _ => fun
  | [d1, d2] => { results := [.lit (.bool true)], args := [d1, d2] }
  | _ => none }
def treeCanonsRow : OpenClaim := { program := "ytmpobijkbmljdaa", sum := "71a5c6a6c0116102177cfca7556486ab729b2c128aa90af28eee5e6cf158108a", func := "godown/godownlaw05.TreeCanons", spec := "treeCanons", inPlace := ["math.Float64frombits", "math.Float64bits", "internal/bytealg.IndexByteString", "internal/bytealg.IndexString"], unfollowed := true, recurses := true, named := ["internal/bytealg.MaxLen"], apart := false }
def TreeCanonsSaid : Prop := treeCanonsRow.holds Try.pinned (OpenSpec.ofChange treeCanonsSpec)

/-- ITS FALSE NEIGHBOUR: 'it returns false'. Refute it at one input. -/
def treeCanonsWrong : ChangeSpec := { name := "treeCanons", fn := fun _ => fun
  | [d1, d2] => { results := [.lit (.bool false)], args := [d1, d2] }
  | _ => none }
def TreeCanonsWrongFalsely : Prop := treeCanonsRow.holds Try.pinned (OpenSpec.ofChange treeCanonsWrong)

/-- 'godownlaw05.TreeAt': WHATEVER THE INPUT: true; the input reads as it did. -/
def treeAtSpec : ChangeSpec := { name := "treeAt", fn := fun _ => fun
  | [d1, d2] => { results := [.lit (.bool true)], args := [d1, d2] }
  | _ => none }
def treeAtRow : OpenClaim := { program := "ytmpobijkbmljdaa", sum := "71a5c6a6c0116102177cfca7556486ab729b2c128aa90af28eee5e6cf158108a", func := "godown/godownlaw05.TreeAt", spec := "treeAt", inPlace := ["math.Float64frombits", "math.Float64bits", "internal/bytealg.IndexByteString", "internal/bytealg.IndexString"], unfollowed := true, recurses := true, named := ["internal/bytealg.MaxLen"], apart := false }
def TreeAtSaid : Prop := treeAtRow.holds Try.pinned (OpenSpec.ofChange treeAtSpec)

/-- ITS FALSE NEIGHBOUR: 'it returns false'. Refute it at one input. -/
def treeAtWrong : ChangeSpec := { name := "treeAt", fn := fun _ => fun
  | [d1, d2] => { results := [.lit (.bool false)], args := [d1, d2] }
  | _ => none }
def TreeAtWrongFalsely : Prop := treeAtRow.holds Try.pinned (OpenSpec.ofChange treeAtWrong)

/- THE SECOND FORM. 'bulk': how many values and letters a reading holds, each counted each time it is reached (what is shared counts as often as it is met; a slice's spare places count too). A statement '..UptoSaid' is the law's where the arguments, and the package variables that the reading takes, are together of bulk at most 1048576: NARROWER than '..Said'. Prove '..Said' where nothing that the law and all that it calls make is longer than what came in: it says more and counts as full. Else prove '..UptoSaid'. A law counts once. -/
mutual
def uptoBulk {H : Type} : DataW H → Nat
  | .lit (.string bytes) => bytes.length + 1
  | .lit _ => 1
  | .nil => 1
  | .ptr d => uptoBulk d + 1
  | .slice elems spare => uptoBulkAll elems + uptoBulkAll spare + 1
  | .agg parts => uptoBulkAll parts + 1
  | .iface _ d => uptoBulk d + 1
  | .map entries => uptoBulkEntries entries + 1
  | .held _ => 1
def uptoBulkAll {H : Type} : List (DataW H) → Nat
  | [] => 0
  | d :: r => uptoBulk d + uptoBulkAll r
def uptoBulkEntries {H : Type} : List (Lit × DataW H) → Nat
  | [] => 0
  | x :: r => uptoBulkEntry x + uptoBulkEntries r
def uptoBulkEntry {H : Type} : Lit × DataW H → Nat
  | (.string bytes, d) => bytes.length + uptoBulk d + 1
  | (_, d) => uptoBulk d + 1
 end
def uptoSmall : (H : Type) → List (DataW H) → Bool := fun _ ds => decide (uptoBulkAll ds ≤ 1048576)
def OpenSpec.upto (s : _root_.Go.ChangeSpec) : _root_.Go.OpenSpec := { _root_.Go.OpenSpec.ofChange s with cond := some uptoSmall }

/-- 'godownlaw05.TreeRight', WHERE WHAT IT READS IS OF BULK AT MOST 1048576: true; the input reads as it did. -/
def treeRightUptoRow : OpenClaim := { program := "ytmpobijkbmljdaa", sum := "71a5c6a6c0116102177cfca7556486ab729b2c128aa90af28eee5e6cf158108a", func := "godown/godownlaw05.TreeRight", spec := "treeRight", inPlace := ["math.Float64frombits", "math.Float64bits", "internal/bytealg.IndexByteString", "internal/bytealg.IndexString"], unfollowed := true, recurses := true, named := ["internal/bytealg.MaxLen"], loops := true, apart := false, narrowed := true }
def TreeRightUptoSaid : Prop := treeRightUptoRow.holds Try.pinned (OpenSpec.upto treeRightSpec)

/-- 'godownlaw05.TreeBounds', WHERE WHAT IT READS IS OF BULK AT MOST 1048576: true; the input reads as it did. -/
def treeBoundsUptoRow : OpenClaim := { program := "ytmpobijkbmljdaa", sum := "71a5c6a6c0116102177cfca7556486ab729b2c128aa90af28eee5e6cf158108a", func := "godown/godownlaw05.TreeBounds", spec := "treeBounds", inPlace := ["math.Float64frombits", "math.Float64bits", "internal/bytealg.IndexByteString", "internal/bytealg.IndexString"], unfollowed := true, recurses := true, named := ["internal/bytealg.MaxLen"], apart := false, narrowed := true }
def TreeBoundsUptoSaid : Prop := treeBoundsUptoRow.holds Try.pinned (OpenSpec.upto treeBoundsSpec)

/-- 'godownlaw05.TreeMade', WHERE WHAT IT READS IS OF BULK AT MOST 1048576: true; the input reads as it did. -/
def treeMadeUptoRow : OpenClaim := { program := "ytmpobijkbmljdaa", sum := "71a5c6a6c0116102177cfca7556486ab729b2c128aa90af28eee5e6cf158108a", func := "godown/godownlaw05.TreeMade", spec := "treeMade", inPlace := ["math.Float64frombits", "math.Float64bits", "internal/bytealg.IndexByteString", "internal/bytealg.IndexString"], unfollowed := true, recurses := true, named := ["internal/bytealg.MaxLen"], apart := false, narrowed := true }
def TreeMadeUptoSaid : Prop := treeMadeUptoRow.holds Try.pinned (OpenSpec.upto treeMadeSpec)

/-- 'godownlaw05.TreeSame', WHERE WHAT IT READS IS OF BULK AT MOST 1048576: true; the input reads as it did. -/
def treeSameUptoRow : OpenClaim := { program := "ytmpobijkbmljdaa", sum := "71a5c6a6c0116102177cfca7556486ab729b2c128aa90af28eee5e6cf158108a", func := "godown/godownlaw05.TreeSame", spec := "treeSame", inPlace := ["math.Float64frombits", "math.Float64bits", "internal/bytealg.IndexByteString", "internal/bytealg.IndexString"], unfollowed := true, recurses := true, named := ["internal/bytealg.MaxLen"], apart := false, narrowed := true }
def TreeSameUptoSaid : Prop := treeSameUptoRow.holds Try.pinned (OpenSpec.upto treeSameSpec)

/-- 'godownlaw05.TreeCanons', WHERE WHAT IT READS IS OF BULK AT MOST 1048576: true; the input reads as it did. -/
def treeCanonsUptoRow : OpenClaim := { program := "ytmpobijkbmljdaa", sum := "71a5c6a6c0116102177cfca7556486ab729b2c128aa90af28eee5e6cf158108a", func := "godown/godownlaw05.TreeCanons", spec := "treeCanons", inPlace := ["math.Float64frombits", "math.Float64bits", "internal/bytealg.IndexByteString", "internal/bytealg.IndexString"], unfollowed := true, recurses := true, named := ["internal/bytealg.MaxLen"], apart := false, narrowed := true }
def TreeCanonsUptoSaid : Prop := treeCanonsUptoRow.holds Try.pinned (OpenSpec.upto treeCanonsSpec)

/-- 'godownlaw05.TreeAt', WHERE WHAT IT READS IS OF BULK AT MOST 1048576: true; the input reads as it did. -/
def treeAtUptoRow : OpenClaim := { program := "ytmpobijkbmljdaa", sum := "71a5c6a6c0116102177cfca7556486ab729b2c128aa90af28eee5e6cf158108a", func := "godown/godownlaw05.TreeAt", spec := "treeAt", inPlace := ["math.Float64frombits", "math.Float64bits", "internal/bytealg.IndexByteString", "internal/bytealg.IndexString"], unfollowed := true, recurses := true, named := ["internal/bytealg.MaxLen"], apart := false, narrowed := true }
def TreeAtUptoSaid : Prop := treeAtUptoRow.holds Try.pinned (OpenSpec.upto treeAtSpec)

end Rows
end Go.Proofs.Ytmpobijkbmljdaa
