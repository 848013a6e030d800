/-
  No cell of these rows narrows 'for every input' (looked for: loops, veiled, ifaces, maps, wideKeys, modest, calm, conditions, laid).
  DERIVED. THE GIVEN ROWS OF THIS SEAT. 6 by the template 'for every input the law returns true; each argument reads behind the call as it read before'; 0 by the template 'total and deterministic' (their statements: YtaifjlpgggimaaaTotals.lean).
  GIVEN WITH THE SEED: the statements are not yours to turn. If you find one false, say at which input.
  Laid BY PROGRAM, IN A SANDBOX (cutbox-rows.mjs): the forced cells as the released guide's own fill.sh prints them over the translation eb9b4ab36a1a03a8… (all of the seat's roots in one cut). By AI agents, Wed Nov 11 2026. No macro, syntax, notation, axiom, sorry.
-/
import Derived.Test.YtaifjlpgggimaaaChecked
import GoSem.Claim
import GoSem.ClaimJoined
import GoSem.ClaimMapViews
import Derived.JoinedTies
import Derived.KernelRfl
namespace Go.Proofs.Ytaifjlpgggimaaa
/- THE CELL 'sum', in the pinned program and in every row, IS THE sha256 OF THE DUMP (.gsa) THAT YtaifjlpgggimaaaProg.lean LOADS. Nothing in Lean hashes anything: it is a label: what it is worth is what the hold of that sum in a sandbox is worth. -/
noncomputable def Try.pinned : Pinned := { name := "ytaifjlpgggimaaa", sum := "eb9b4ab36a1a03a8357aca926b3ca95cd5eac085e31d3b3c976a34efd8f21dfb", checked := Try.checked }
namespace Rows
def none {H : Type} : Left H := { results := [], args := [] }

/-- 'godownlaw13.FrameThere': WHATEVER THE INPUT: true; the input reads as it did. -/
def frameThereSpec : ChangeSpec := { name := "frameThere", fn := fun _ => fun
  | [d] => { results := [.lit (.bool true)], args := [d] }
  | _ => none }
def frameThereRow : OpenClaim := { program := "ytaifjlpgggimaaa", sum := "eb9b4ab36a1a03a8357aca926b3ca95cd5eac085e31d3b3c976a34efd8f21dfb", func := "godown/godownlaw13.FrameThere", spec := "frameThere", apart := false }
def FrameThereSaid : Prop := frameThereRow.holds Try.pinned (OpenSpec.ofChange frameThereSpec)

/-- ITS FALSE NEIGHBOUR: 'it returns false'. Refute it at one input. -/
def frameThereWrong : ChangeSpec := { name := "frameThere", fn := fun _ => fun
  | [d] => { results := [.lit (.bool false)], args := [d] }
  | _ => none }
def FrameThereWrongFalsely : Prop := frameThereRow.holds Try.pinned (OpenSpec.ofChange frameThereWrong)

/-- 'godownlaw13.FramePieces': WHATEVER THE INPUT: true; the input reads as it did. -/
def framePiecesSpec : ChangeSpec := { name := "framePieces", fn := fun _ => fun
  | [d1, d2, d3] => { results := [.lit (.bool true)], args := [d1, d2, d3] }
  | _ => none }
def framePiecesRow : OpenClaim := { program := "ytaifjlpgggimaaa", sum := "eb9b4ab36a1a03a8357aca926b3ca95cd5eac085e31d3b3c976a34efd8f21dfb", func := "godown/godownlaw13.FramePieces", spec := "framePieces", apart := false }
def FramePiecesSaid : Prop := framePiecesRow.holds Try.pinned (OpenSpec.ofChange framePiecesSpec)

/-- ITS FALSE NEIGHBOUR: 'it returns false'. Refute it at one input. -/
def framePiecesWrong : ChangeSpec := { name := "framePieces", fn := fun _ => fun
  | [d1, d2, d3] => { results := [.lit (.bool false)], args := [d1, d2, d3] }
  | _ => none }
def FramePiecesWrongFalsely : Prop := framePiecesRow.holds Try.pinned (OpenSpec.ofChange framePiecesWrong)

/-- 'godownlaw13.FrameBreaks': WHATEVER THE INPUT: true; the input reads as it did. -/
def frameBreaksSpec : ChangeSpec := { name := "frameBreaks", fn := fun _ => fun
  | [d1, d2, d3] => { results := [.lit (.bool true)], args := [d1, d2, d3] }
  | _ => none }
def frameBreaksRow : OpenClaim := { program := "ytaifjlpgggimaaa", sum := "eb9b4ab36a1a03a8357aca926b3ca95cd5eac085e31d3b3c976a34efd8f21dfb", func := "godown/godownlaw13.FrameBreaks", spec := "frameBreaks", apart := false }
def FrameBreaksSaid : Prop := frameBreaksRow.holds Try.pinned (OpenSpec.ofChange frameBreaksSpec)

/-- ITS FALSE NEIGHBOUR: 'it returns false'. Refute it at one input. -/
def frameBreaksWrong : ChangeSpec := { name := "frameBreaks", fn := fun _ => fun
  | [d1, d2, d3] => { results := [.lit (.bool false)], args := [d1, d2, d3] }
  | _ => none }
def FrameBreaksWrongFalsely : Prop := frameBreaksRow.holds Try.pinned (OpenSpec.ofChange frameBreaksWrong)

/-- 'godownlaw13.FrameLong': WHATEVER THE INPUT: true; the input reads as it did. -/
def frameLongSpec : ChangeSpec := { name := "frameLong", fn := fun _ => fun
  | [d1, d2] => { results := [.lit (.bool true)], args := [d1, d2] }
  | _ => none }
def frameLongRow : OpenClaim := { program := "ytaifjlpgggimaaa", sum := "eb9b4ab36a1a03a8357aca926b3ca95cd5eac085e31d3b3c976a34efd8f21dfb", func := "godown/godownlaw13.FrameLong", spec := "frameLong", apart := false }
def FrameLongSaid : Prop := frameLongRow.holds Try.pinned (OpenSpec.ofChange frameLongSpec)

/-- ITS FALSE NEIGHBOUR: 'it returns false'. Refute it at one input. -/
def frameLongWrong : ChangeSpec := { name := "frameLong", fn := fun _ => fun
  | [d1, d2] => { results := [.lit (.bool false)], args := [d1, d2] }
  | _ => none }
def FrameLongWrongFalsely : Prop := frameLongRow.holds Try.pinned (OpenSpec.ofChange frameLongWrong)

/-- 'godownlaw13.FrameOwn': WHATEVER THE INPUT: true; the input reads as it did. -/
def frameOwnSpec : ChangeSpec := { name := "frameOwn", fn := fun _ => fun
  | [d1, d2] => { results := [.lit (.bool true)], args := [d1, d2] }
  | _ => none }
def frameOwnRow : OpenClaim := { program := "ytaifjlpgggimaaa", sum := "eb9b4ab36a1a03a8357aca926b3ca95cd5eac085e31d3b3c976a34efd8f21dfb", func := "godown/godownlaw13.FrameOwn", spec := "frameOwn", apart := false }
def FrameOwnSaid : Prop := frameOwnRow.holds Try.pinned (OpenSpec.ofChange frameOwnSpec)

/-- ITS FALSE NEIGHBOUR: 'it returns false'. Refute it at one input. -/
def frameOwnWrong : ChangeSpec := { name := "frameOwn", fn := fun _ => fun
  | [d1, d2] => { results := [.lit (.bool false)], args := [d1, d2] }
  | _ => none }
def FrameOwnWrongFalsely : Prop := frameOwnRow.holds Try.pinned (OpenSpec.ofChange frameOwnWrong)

/-- 'godownlaw13.FrameHeld': WHATEVER THE INPUT: true; the input reads as it did. -/
def frameHeldSpec : ChangeSpec := { name := "frameHeld", fn := fun _ => fun
  | [d1, d2] => { results := [.lit (.bool true)], args := [d1, d2] }
  | _ => none }
def frameHeldRow : OpenClaim := { program := "ytaifjlpgggimaaa", sum := "eb9b4ab36a1a03a8357aca926b3ca95cd5eac085e31d3b3c976a34efd8f21dfb", func := "godown/godownlaw13.FrameHeld", spec := "frameHeld", apart := false }
def FrameHeldSaid : Prop := frameHeldRow.holds Try.pinned (OpenSpec.ofChange frameHeldSpec)

/-- ITS FALSE NEIGHBOUR: 'it returns false'. Refute it at one input. -/
def frameHeldWrong : ChangeSpec := { name := "frameHeld", fn := fun _ => fun
  | [d1, d2] => { results := [.lit (.bool false)], args := [d1, d2] }
  | _ => none }
def FrameHeldWrongFalsely : Prop := frameHeldRow.holds Try.pinned (OpenSpec.ofChange frameHeldWrong)

/- THE SECOND FORM. 'bulk': how many values and letters a reading holds, each counted each time it is reached (what is shared counts as often as it is met; a slice's spare places count too). A statement '..UptoSaid' is the law's where the arguments, and the package variables that the reading takes, are together of bulk at most 1048576: NARROWER than '..Said'. Prove '..Said' where nothing that the law and all that it calls make is longer than what came in: it says more and counts as full. Else prove '..UptoSaid'. A law counts once. -/
mutual
def uptoBulk {H : Type} : DataW H → Nat
  | .lit (.string bytes) => bytes.length + 1
  | .lit _ => 1
  | .nil => 1
  | .ptr d => uptoBulk d + 1
  | .slice elems spare => uptoBulkAll elems + uptoBulkAll spare + 1
  | .agg parts => uptoBulkAll parts + 1
  | .iface _ d => uptoBulk d + 1
  | .map entries => uptoBulkEntries entries + 1
  | .held _ => 1
def uptoBulkAll {H : Type} : List (DataW H) → Nat
  | [] => 0
  | d :: r => uptoBulk d + uptoBulkAll r
def uptoBulkEntries {H : Type} : List (Lit × DataW H) → Nat
  | [] => 0
  | x :: r => uptoBulkEntry x + uptoBulkEntries r
def uptoBulkEntry {H : Type} : Lit × DataW H → Nat
  | (.string bytes, d) => bytes.length + uptoBulk d + 1
  | (_, d) => uptoBulk d + 1
 end
def uptoSmall : (H : Type) → List (DataW H) → Bool := fun _ ds => decide (uptoBulkAll ds ≤ 1048576)
def OpenSpec.upto (s : _root_.Go.ChangeSpec) : _root_.Go.OpenSpec := { _root_.Go.OpenSpec.ofChange s with cond := some uptoSmall }

/-- 'godownlaw13.FrameThere', WHERE WHAT IT READS IS OF BULK AT MOST 1048576: true; the input reads as it did. -/
def frameThereUptoRow : OpenClaim := { program := "ytaifjlpgggimaaa", sum := "eb9b4ab36a1a03a8357aca926b3ca95cd5eac085e31d3b3c976a34efd8f21dfb", func := "godown/godownlaw13.FrameThere", spec := "frameThere", apart := false, narrowed := true }
def FrameThereUptoSaid : Prop := frameThereUptoRow.holds Try.pinned (OpenSpec.upto frameThereSpec)

/-- 'godownlaw13.FramePieces', WHERE WHAT IT READS IS OF BULK AT MOST 1048576: true; the input reads as it did. -/
def framePiecesUptoRow : OpenClaim := { program := "ytaifjlpgggimaaa", sum := "eb9b4ab36a1a03a8357aca926b3ca95cd5eac085e31d3b3c976a34efd8f21dfb", func := "godown/godownlaw13.FramePieces", spec := "framePieces", apart := false, narrowed := true }
def FramePiecesUptoSaid : Prop := framePiecesUptoRow.holds Try.pinned (OpenSpec.upto framePiecesSpec)

/-- 'godownlaw13.FrameBreaks', WHERE WHAT IT READS IS OF BULK AT MOST 1048576: true; the input reads as it did. -/
def frameBreaksUptoRow : OpenClaim := { program := "ytaifjlpgggimaaa", sum := "eb9b4ab36a1a03a8357aca926b3ca95cd5eac085e31d3b3c976a34efd8f21dfb", func := "godown/godownlaw13.FrameBreaks", spec := "frameBreaks", apart := false, narrowed := true }
def FrameBreaksUptoSaid : Prop := frameBreaksUptoRow.holds Try.pinned (OpenSpec.upto frameBreaksSpec)

/-- 'godownlaw13.FrameLong', WHERE WHAT IT READS IS OF BULK AT MOST 1048576: true; the input reads as it did. -/
def frameLongUptoRow : OpenClaim := { program := "ytaifjlpgggimaaa", sum := "eb9b4ab36a1a03a8357aca926b3ca95cd5eac085e31d3b3c976a34efd8f21dfb", func := "godown/godownlaw13.FrameLong", spec := "frameLong", apart := false, narrowed := true }
def FrameLongUptoSaid : Prop := frameLongUptoRow.holds Try.pinned (OpenSpec.upto frameLongSpec)

/-- 'godownlaw13.FrameOwn', WHERE WHAT IT READS IS OF BULK AT MOST 1048576: true; the input reads as it did. -/
def frameOwnUptoRow : OpenClaim := { program := "ytaifjlpgggimaaa", sum := "eb9b4ab36a1a03a8357aca926b3ca95cd5eac085e31d3b3c976a34efd8f21dfb", func := "godown/godownlaw13.FrameOwn", spec := "frameOwn", apart := false, narrowed := true }
def FrameOwnUptoSaid : Prop := frameOwnUptoRow.holds Try.pinned (OpenSpec.upto frameOwnSpec)

/-- 'godownlaw13.FrameHeld', WHERE WHAT IT READS IS OF BULK AT MOST 1048576: true; the input reads as it did. -/
def frameHeldUptoRow : OpenClaim := { program := "ytaifjlpgggimaaa", sum := "eb9b4ab36a1a03a8357aca926b3ca95cd5eac085e31d3b3c976a34efd8f21dfb", func := "godown/godownlaw13.FrameHeld", spec := "frameHeld", apart := false, narrowed := true }
def FrameHeldUptoSaid : Prop := frameHeldUptoRow.holds Try.pinned (OpenSpec.upto frameHeldSpec)

end Rows
end Go.Proofs.Ytaifjlpgggimaaa
