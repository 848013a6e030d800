/-
  No cell of these rows narrows 'for every input' (looked for: loops, veiled, ifaces, maps, wideKeys, modest, calm, conditions, laid).
  DERIVED. THE GIVEN ROWS OF THIS SEAT. 6 by the template 'for every input the law returns true; each argument reads behind the call as it read before'; 0 by the template 'total and deterministic' (their statements: YthodknboobgfpaaTotals.lean).
  GIVEN WITH THE SEED: the statements are not yours to turn. If you find one false, say at which input.
  Laid BY PROGRAM, IN A SANDBOX (cutbox-rows.mjs): the forced cells as the released guide's own fill.sh prints them over the translation 1a386ce1e285aaa0… (all of the seat's roots in one cut). By AI agents, Wed Nov 11 2026. No macro, syntax, notation, axiom, sorry.
-/
import Derived.Test.YthodknboobgfpaaChecked
import GoSem.Claim
import GoSem.ClaimJoined
import GoSem.ClaimMapViews
import Derived.JoinedTies
import Derived.KernelRfl
namespace Go.Proofs.Ythodknboobgfpaa
/- THE CELL 'sum', in the pinned program and in every row, IS THE sha256 OF THE DUMP (.gsa) THAT YthodknboobgfpaaProg.lean LOADS. Nothing in Lean hashes anything: it is a label: what it is worth is what the hold of that sum in a sandbox is worth. -/
noncomputable def Try.pinned : Pinned := { name := "ythodknboobgfpaa", sum := "1a386ce1e285aaa03a72fd1c159f43794e78e95438b1fa10ad5919a387ac3b77", checked := Try.checked }
namespace Rows
def none {H : Type} : Left H := { results := [], args := [] }

/-- 'godownlaw04.WireOwn': WHATEVER THE INPUT: true; the input reads as it did. -/
def wireOwnSpec : ChangeSpec := { name := "wireOwn", fn := fun _ => fun
  | [d1, d2] => { results := [.lit (.bool true)], args := [d1, d2] }
  | _ => none }
def wireOwnRow : OpenClaim := { program := "ythodknboobgfpaa", sum := "1a386ce1e285aaa03a72fd1c159f43794e78e95438b1fa10ad5919a387ac3b77", func := "godown/godownlaw04.WireOwn", spec := "wireOwn", apart := false }
def WireOwnSaid : Prop := wireOwnRow.holds Try.pinned (OpenSpec.ofChange wireOwnSpec)

/-- ITS FALSE NEIGHBOUR: 'it returns false'. Refute it at one input. -/
def wireOwnWrong : ChangeSpec := { name := "wireOwn", fn := fun _ => fun
  | [d1, d2] => { results := [.lit (.bool false)], args := [d1, d2] }
  | _ => none }
def WireOwnWrongFalsely : Prop := wireOwnRow.holds Try.pinned (OpenSpec.ofChange wireOwnWrong)

/-- 'godownlaw04.WireReads': WHATEVER THE INPUT: true; the input reads as it did. -/
def wireReadsSpec : ChangeSpec := { name := "wireReads", fn := fun _ => fun
  | [d1, d2] => { results := [.lit (.bool true)], args := [d1, d2] }
  | _ => none }
def wireReadsRow : OpenClaim := { program := "ythodknboobgfpaa", sum := "1a386ce1e285aaa03a72fd1c159f43794e78e95438b1fa10ad5919a387ac3b77", func := "godown/godownlaw04.WireReads", spec := "wireReads", apart := false }
def WireReadsSaid : Prop := wireReadsRow.holds Try.pinned (OpenSpec.ofChange wireReadsSpec)

/-- ITS FALSE NEIGHBOUR: 'it returns false'. Refute it at one input. -/
def wireReadsWrong : ChangeSpec := { name := "wireReads", fn := fun _ => fun
  | [d1, d2] => { results := [.lit (.bool false)], args := [d1, d2] }
  | _ => none }
def WireReadsWrongFalsely : Prop := wireReadsRow.holds Try.pinned (OpenSpec.ofChange wireReadsWrong)

/-- 'godownlaw04.WireCut': WHATEVER THE INPUT: true; the input reads as it did. -/
def wireCutSpec : ChangeSpec := { name := "wireCut", fn := fun _ => fun
  | [d1, d2] => { results := [.lit (.bool true)], args := [d1, d2] }
  | _ => none }
def wireCutRow : OpenClaim := { program := "ythodknboobgfpaa", sum := "1a386ce1e285aaa03a72fd1c159f43794e78e95438b1fa10ad5919a387ac3b77", func := "godown/godownlaw04.WireCut", spec := "wireCut", apart := false }
def WireCutSaid : Prop := wireCutRow.holds Try.pinned (OpenSpec.ofChange wireCutSpec)

/-- ITS FALSE NEIGHBOUR: 'it returns false'. Refute it at one input. -/
def wireCutWrong : ChangeSpec := { name := "wireCut", fn := fun _ => fun
  | [d1, d2] => { results := [.lit (.bool false)], args := [d1, d2] }
  | _ => none }
def WireCutWrongFalsely : Prop := wireCutRow.holds Try.pinned (OpenSpec.ofChange wireCutWrong)

/-- 'godownlaw04.WireLong': WHATEVER THE INPUT: true; the input reads as it did. -/
def wireLongSpec : ChangeSpec := { name := "wireLong", fn := fun _ => fun
  | [d1, d2, d3] => { results := [.lit (.bool true)], args := [d1, d2, d3] }
  | _ => none }
def wireLongRow : OpenClaim := { program := "ythodknboobgfpaa", sum := "1a386ce1e285aaa03a72fd1c159f43794e78e95438b1fa10ad5919a387ac3b77", func := "godown/godownlaw04.WireLong", spec := "wireLong", apart := false }
def WireLongSaid : Prop := wireLongRow.holds Try.pinned (OpenSpec.ofChange wireLongSpec)

/-- ITS FALSE NEIGHBOUR: 'it returns false'. Refute it at one input. -/
def wireLongWrong : ChangeSpec := { name := "wireLong", fn := fun _ => fun
  | [d1, d2, d3] => { results := [.lit (.bool false)], args := [d1, d2, d3] }
  | _ => none }
def WireLongWrongFalsely : Prop := wireLongRow.holds Try.pinned (OpenSpec.ofChange wireLongWrong)

/-- 'godownlaw04.WireBack': WHATEVER THE INPUT: true; the input reads as it did. -/
def wireBackSpec : ChangeSpec := { name := "wireBack", fn := fun _ => fun
  | [d] => { results := [.lit (.bool true)], args := [d] }
  | _ => none }
def wireBackRow : OpenClaim := { program := "ythodknboobgfpaa", sum := "1a386ce1e285aaa03a72fd1c159f43794e78e95438b1fa10ad5919a387ac3b77", func := "godown/godownlaw04.WireBack", spec := "wireBack", apart := false }
def WireBackSaid : Prop := wireBackRow.holds Try.pinned (OpenSpec.ofChange wireBackSpec)

/-- ITS FALSE NEIGHBOUR: 'it returns false'. Refute it at one input. -/
def wireBackWrong : ChangeSpec := { name := "wireBack", fn := fun _ => fun
  | [d] => { results := [.lit (.bool false)], args := [d] }
  | _ => none }
def WireBackWrongFalsely : Prop := wireBackRow.holds Try.pinned (OpenSpec.ofChange wireBackWrong)

/-- 'godownlaw04.WireNil': WHATEVER THE INPUT: true; the input reads as it did. -/
def wireNilSpec : ChangeSpec := { name := "wireNil", fn := fun _ => fun
  | [d1, d2] => { results := [.lit (.bool true)], args := [d1, d2] }
  | _ => none }
def wireNilRow : OpenClaim := { program := "ythodknboobgfpaa", sum := "1a386ce1e285aaa03a72fd1c159f43794e78e95438b1fa10ad5919a387ac3b77", func := "godown/godownlaw04.WireNil", spec := "wireNil", apart := false }
def WireNilSaid : Prop := wireNilRow.holds Try.pinned (OpenSpec.ofChange wireNilSpec)

/-- ITS FALSE NEIGHBOUR: 'it returns false'. Refute it at one input. -/
def wireNilWrong : ChangeSpec := { name := "wireNil", fn := fun _ => fun
  | [d1, d2] => { results := [.lit (.bool false)], args := [d1, d2] }
  | _ => none }
def WireNilWrongFalsely : Prop := wireNilRow.holds Try.pinned (OpenSpec.ofChange wireNilWrong)

/- THE SECOND FORM. 'bulk': how many values and letters a reading holds, each counted each time it is reached (what is shared counts as often as it is met; a slice's spare places count too). A statement '..UptoSaid' is the law's where the arguments, and the package variables that the reading takes, are together of bulk at most 1048576: NARROWER than '..Said'. Prove '..Said' where nothing that the law and all that it calls make is longer than what came in: it says more and counts as full. Else prove '..UptoSaid'. A law counts once. -/
mutual
def uptoBulk {H : Type} : DataW H → Nat
  | .lit (.string bytes) => bytes.length + 1
  | .lit _ => 1
  | .nil => 1
  | .ptr d => uptoBulk d + 1
  | .slice elems spare => uptoBulkAll elems + uptoBulkAll spare + 1
  | .agg parts => uptoBulkAll parts + 1
  | .iface _ d => uptoBulk d + 1
  | .map entries => uptoBulkEntries entries + 1
  | .held _ => 1
def uptoBulkAll {H : Type} : List (DataW H) → Nat
  | [] => 0
  | d :: r => uptoBulk d + uptoBulkAll r
def uptoBulkEntries {H : Type} : List (Lit × DataW H) → Nat
  | [] => 0
  | x :: r => uptoBulkEntry x + uptoBulkEntries r
def uptoBulkEntry {H : Type} : Lit × DataW H → Nat
  | (.string bytes, d) => bytes.length + uptoBulk d + 1
  | (_, d) => uptoBulk d + 1
 end
def uptoSmall : (H : Type) → List (DataW H) → Bool := fun _ ds => decide (uptoBulkAll ds ≤ 1048576)
def OpenSpec.upto (s : _root_.Go.ChangeSpec) : _root_.Go.OpenSpec := { _root_.Go.OpenSpec.ofChange s with cond := some uptoSmall }

/-- 'godownlaw04.WireOwn', WHERE WHAT IT READS IS OF BULK AT MOST 1048576: true; the input reads as it did. -/
def wireOwnUptoRow : OpenClaim := { program := "ythodknboobgfpaa", sum := "1a386ce1e285aaa03a72fd1c159f43794e78e95438b1fa10ad5919a387ac3b77", func := "godown/godownlaw04.WireOwn", spec := "wireOwn", apart := false, narrowed := true }
def WireOwnUptoSaid : Prop := wireOwnUptoRow.holds Try.pinned (OpenSpec.upto wireOwnSpec)

/-- 'godownlaw04.WireReads', WHERE WHAT IT READS IS OF BULK AT MOST 1048576: true; the input reads as it did. -/
def wireReadsUptoRow : OpenClaim := { program := "ythodknboobgfpaa", sum := "1a386ce1e285aaa03a72fd1c159f43794e78e95438b1fa10ad5919a387ac3b77", func := "godown/godownlaw04.WireReads", spec := "wireReads", apart := false, narrowed := true }
def WireReadsUptoSaid : Prop := wireReadsUptoRow.holds Try.pinned (OpenSpec.upto wireReadsSpec)

/-- 'godownlaw04.WireCut', WHERE WHAT IT READS IS OF BULK AT MOST 1048576: true; the input reads as it did. -/
def wireCutUptoRow : OpenClaim := { program := "ythodknboobgfpaa", sum := "1a386ce1e285aaa03a72fd1c159f43794e78e95438b1fa10ad5919a387ac3b77", func := "godown/godownlaw04.WireCut", spec := "wireCut", apart := false, narrowed := true }
def WireCutUptoSaid : Prop := wireCutUptoRow.holds Try.pinned (OpenSpec.upto wireCutSpec)

/-- 'godownlaw04.WireLong', WHERE WHAT IT READS IS OF BULK AT MOST 1048576: true; the input reads as it did. -/
def wireLongUptoRow : OpenClaim := { program := "ythodknboobgfpaa", sum := "1a386ce1e285aaa03a72fd1c159f43794e78e95438b1fa10ad5919a387ac3b77", func := "godown/godownlaw04.WireLong", spec := "wireLong", apart := false, narrowed := true }
def WireLongUptoSaid : Prop := wireLongUptoRow.holds Try.pinned (OpenSpec.upto wireLongSpec)

/-- 'godownlaw04.WireBack', WHERE WHAT IT READS IS OF BULK AT MOST 1048576: true; the input reads as it did. -/
def wireBackUptoRow : OpenClaim := { program := "ythodknboobgfpaa", sum := "1a386ce1e285aaa03a72fd1c159f43794e78e95438b1fa10ad5919a387ac3b77", func := "godown/godownlaw04.WireBack", spec := "wireBack", apart := false, narrowed := true }
def WireBackUptoSaid : Prop := wireBackUptoRow.holds Try.pinned (OpenSpec.upto wireBackSpec)

/-- 'godownlaw04.WireNil', WHERE WHAT IT READS IS OF BULK AT MOST 1048576: true; the input reads as it did. -/
def wireNilUptoRow : OpenClaim := { program := "ythodknboobgfpaa", sum := "1a386ce1e285aaa03a72fd1c159f43794e78e95438b1fa10ad5919a387ac3b77", func := "godown/godownlaw04.WireNil", spec := "wireNil", apart := false, narrowed := true }
def WireNilUptoSaid : Prop := wireNilUptoRow.holds Try.pinned (OpenSpec.upto wireNilSpec)

end Rows
end Go.Proofs.Ythodknboobgfpaa
