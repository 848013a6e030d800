/-
  No cell of these rows narrows 'for every input' (looked for: loops, veiled, ifaces, maps, wideKeys, modest, calm, conditions, laid).
  DERIVED. THE GIVEN ROWS OF THIS SEAT. 6 by the template 'for every input the law returns true; each argument reads behind the call as it read before'; 0 by the template 'total and deterministic' (their statements: YtibdinelkpbhaaaTotals.lean).
  GIVEN WITH THE SEED: the statements are not yours to turn. If you find one false, say at which input.
  Laid BY PROGRAM, IN A SANDBOX (cutbox-rows.mjs): the forced cells as the released guide's own fill.sh prints them over the translation 626e413dd81921a2… (all of the seat's roots in one cut). By AI agents, Wed Nov 11 2026. No macro, syntax, notation, axiom, sorry.
-/
import Derived.Test.YtibdinelkpbhaaaChecked
import GoSem.Claim
import GoSem.ClaimJoined
import GoSem.ClaimMapViews
import Derived.JoinedTies
import Derived.KernelRfl
namespace Go.Proofs.Ytibdinelkpbhaaa
/- THE CELL 'sum', in the pinned program and in every row, IS THE sha256 OF THE DUMP (.gsa) THAT YtibdinelkpbhaaaProg.lean LOADS. Nothing in Lean hashes anything: it is a label: what it is worth is what the hold of that sum in a sandbox is worth. -/
noncomputable def Try.pinned : Pinned := { name := "ytibdinelkpbhaaa", sum := "626e413dd81921a27cea5f6840d9c040b127a9e9a5aa7065d4993d3ad4efb713", checked := Try.checked }
namespace Rows
def none {H : Type} : Left H := { results := [], args := [] }

/-- 'godownlaw15.WaitRings': WHATEVER THE INPUT: true; the input reads as it did. -/
def waitRingsSpec : ChangeSpec := { name := "waitRings", fn := fun _ => fun
  | [d1, d2] => { results := [.lit (.bool true)], args := [d1, d2] }
  | _ => none }
def waitRingsRow : OpenClaim := { program := "ytibdinelkpbhaaa", sum := "626e413dd81921a27cea5f6840d9c040b127a9e9a5aa7065d4993d3ad4efb713", func := "godown/godownlaw15.WaitRings", spec := "waitRings", inPlace := ["slices.overlaps[godown/lock.waiter]"], unfollowed := true, recurses := true, apart := false }
def WaitRingsSaid : Prop := waitRingsRow.holds Try.pinned (OpenSpec.ofChange waitRingsSpec)

/-- ITS FALSE NEIGHBOUR: 'it returns false'. Refute it at one input. -/
def waitRingsWrong : ChangeSpec := { name := "waitRings", fn := fun _ => fun
  | [d1, d2] => { results := [.lit (.bool false)], args := [d1, d2] }
  | _ => none }
def WaitRingsWrongFalsely : Prop := waitRingsRow.holds Try.pinned (OpenSpec.ofChange waitRingsWrong)

/-- 'godownlaw15.WaitNone': WHATEVER THE INPUT: true; the input reads as it did. -/
def waitNoneSpec : ChangeSpec := { name := "waitNone", fn := fun _ => fun
  | [d1, d2] => { results := [.lit (.bool true)], args := [d1, d2] }
  | _ => none }
def waitNoneRow : OpenClaim := { program := "ytibdinelkpbhaaa", sum := "626e413dd81921a27cea5f6840d9c040b127a9e9a5aa7065d4993d3ad4efb713", func := "godown/godownlaw15.WaitNone", spec := "waitNone", inPlace := ["slices.overlaps[godown/lock.waiter]"], unfollowed := true, recurses := true, apart := false }
def WaitNoneSaid : Prop := waitNoneRow.holds Try.pinned (OpenSpec.ofChange waitNoneSpec)

/-- ITS FALSE NEIGHBOUR: 'it returns false'. Refute it at one input. -/
def waitNoneWrong : ChangeSpec := { name := "waitNone", fn := fun _ => fun
  | [d1, d2] => { results := [.lit (.bool false)], args := [d1, d2] }
  | _ => none }
def WaitNoneWrongFalsely : Prop := waitNoneRow.holds Try.pinned (OpenSpec.ofChange waitNoneWrong)

/-- 'godownlaw15.WaitChain': WHATEVER THE INPUT: true; the input reads as it did. -/
def waitChainSpec : ChangeSpec := { name := "waitChain", fn := fun _ => fun
  | [d1, d2] => { results := [.lit (.bool true)], args := [d1, d2] }
  | _ => none }
def waitChainRow : OpenClaim := { program := "ytibdinelkpbhaaa", sum := "626e413dd81921a27cea5f6840d9c040b127a9e9a5aa7065d4993d3ad4efb713", func := "godown/godownlaw15.WaitChain", spec := "waitChain", inPlace := ["slices.overlaps[godown/lock.waiter]"], unfollowed := true, recurses := true, apart := false }
def WaitChainSaid : Prop := waitChainRow.holds Try.pinned (OpenSpec.ofChange waitChainSpec)

/-- ITS FALSE NEIGHBOUR: 'it returns false'. Refute it at one input. -/
def waitChainWrong : ChangeSpec := { name := "waitChain", fn := fun _ => fun
  | [d1, d2] => { results := [.lit (.bool false)], args := [d1, d2] }
  | _ => none }
def WaitChainWrongFalsely : Prop := waitChainRow.holds Try.pinned (OpenSpec.ofChange waitChainWrong)

/-- 'godownlaw15.WaitPlays': WHATEVER THE INPUT: true; the input reads as it did. -/
def waitPlaysSpec : ChangeSpec := { name := "waitPlays", fn := fun _ => fun
  | [d] => { results := [.lit (.bool true)], args := [d] }
  | _ => none }
def waitPlaysRow : OpenClaim := { program := "ytibdinelkpbhaaa", sum := "626e413dd81921a27cea5f6840d9c040b127a9e9a5aa7065d4993d3ad4efb713", func := "godown/godownlaw15.WaitPlays", spec := "waitPlays", inPlace := ["slices.overlaps[godown/lock.waiter]"], unfollowed := true, recurses := true, apart := false }
def WaitPlaysSaid : Prop := waitPlaysRow.holds Try.pinned (OpenSpec.ofChange waitPlaysSpec)

/-- ITS FALSE NEIGHBOUR: 'it returns false'. Refute it at one input. -/
def waitPlaysWrong : ChangeSpec := { name := "waitPlays", fn := fun _ => fun
  | [d] => { results := [.lit (.bool false)], args := [d] }
  | _ => none }
def WaitPlaysWrongFalsely : Prop := waitPlaysRow.holds Try.pinned (OpenSpec.ofChange waitPlaysWrong)

/-- 'godownlaw15.WaitBreaks': WHATEVER THE INPUT: true; the input reads as it did. -/
def waitBreaksSpec : ChangeSpec := { name := "waitBreaks", fn := fun _ => fun
  | [d] => { results := [.lit (.bool true)], args := [d] }
  | _ => none }
def waitBreaksRow : OpenClaim := { program := "ytibdinelkpbhaaa", sum := "626e413dd81921a27cea5f6840d9c040b127a9e9a5aa7065d4993d3ad4efb713", func := "godown/godownlaw15.WaitBreaks", spec := "waitBreaks", inPlace := ["slices.overlaps[godown/lock.waiter]"], unfollowed := true, recurses := true, apart := false }
def WaitBreaksSaid : Prop := waitBreaksRow.holds Try.pinned (OpenSpec.ofChange waitBreaksSpec)

/-- ITS FALSE NEIGHBOUR: 'it returns false'. Refute it at one input. -/
def waitBreaksWrong : ChangeSpec := { name := "waitBreaks", fn := fun _ => fun
  | [d] => { results := [.lit (.bool false)], args := [d] }
  | _ => none }
def WaitBreaksWrongFalsely : Prop := waitBreaksRow.holds Try.pinned (OpenSpec.ofChange waitBreaksWrong)

/-- 'godownlaw15.WaitUp': WHATEVER THE INPUT: true; the input reads as it did. -/
def waitUpSpec : ChangeSpec := { name := "waitUp", fn := fun _ => fun
  | [d1, d2, d3] => { results := [.lit (.bool true)], args := [d1, d2, d3] }
  | _ => none }
def waitUpRow : OpenClaim := { program := "ytibdinelkpbhaaa", sum := "626e413dd81921a27cea5f6840d9c040b127a9e9a5aa7065d4993d3ad4efb713", func := "godown/godownlaw15.WaitUp", spec := "waitUp", inPlace := ["slices.overlaps[godown/lock.waiter]"], unfollowed := true, recurses := true, apart := false }
def WaitUpSaid : Prop := waitUpRow.holds Try.pinned (OpenSpec.ofChange waitUpSpec)

/-- ITS FALSE NEIGHBOUR: 'it returns false'. Refute it at one input. -/
def waitUpWrong : ChangeSpec := { name := "waitUp", fn := fun _ => fun
  | [d1, d2, d3] => { results := [.lit (.bool false)], args := [d1, d2, d3] }
  | _ => none }
def WaitUpWrongFalsely : Prop := waitUpRow.holds Try.pinned (OpenSpec.ofChange waitUpWrong)

/- THE SECOND FORM. 'bulk': how many values and letters a reading holds, each counted each time it is reached (what is shared counts as often as it is met; a slice's spare places count too). A statement '..UptoSaid' is the law's where the arguments, and the package variables that the reading takes, are together of bulk at most 1048576: NARROWER than '..Said'. Prove '..Said' where nothing that the law and all that it calls make is longer than what came in: it says more and counts as full. Else prove '..UptoSaid'. A law counts once. -/
mutual
def uptoBulk {H : Type} : DataW H → Nat
  | .lit (.string bytes) => bytes.length + 1
  | .lit _ => 1
  | .nil => 1
  | .ptr d => uptoBulk d + 1
  | .slice elems spare => uptoBulkAll elems + uptoBulkAll spare + 1
  | .agg parts => uptoBulkAll parts + 1
  | .iface _ d => uptoBulk d + 1
  | .map entries => uptoBulkEntries entries + 1
  | .held _ => 1
def uptoBulkAll {H : Type} : List (DataW H) → Nat
  | [] => 0
  | d :: r => uptoBulk d + uptoBulkAll r
def uptoBulkEntries {H : Type} : List (Lit × DataW H) → Nat
  | [] => 0
  | x :: r => uptoBulkEntry x + uptoBulkEntries r
def uptoBulkEntry {H : Type} : Lit × DataW H → Nat
  | (.string bytes, d) => bytes.length + uptoBulk d + 1
  | (_, d) => uptoBulk d + 1
 end
def uptoSmall : (H : Type) → List (DataW H) → Bool := fun _ ds => decide (uptoBulkAll ds ≤ 1048576)
def OpenSpec.upto (s : _root_.Go.ChangeSpec) : _root_.Go.OpenSpec := { _root_.Go.OpenSpec.ofChange s with cond := some uptoSmall }

/-- 'godownlaw15.WaitRings', WHERE WHAT IT READS IS OF BULK AT MOST 1048576: true; the input reads as it did. -/
def waitRingsUptoRow : OpenClaim := { program := "ytibdinelkpbhaaa", sum := "626e413dd81921a27cea5f6840d9c040b127a9e9a5aa7065d4993d3ad4efb713", func := "godown/godownlaw15.WaitRings", spec := "waitRings", inPlace := ["slices.overlaps[godown/lock.waiter]"], unfollowed := true, recurses := true, apart := false, narrowed := true }
def WaitRingsUptoSaid : Prop := waitRingsUptoRow.holds Try.pinned (OpenSpec.upto waitRingsSpec)

/-- 'godownlaw15.WaitNone', WHERE WHAT IT READS IS OF BULK AT MOST 1048576: true; the input reads as it did. -/
def waitNoneUptoRow : OpenClaim := { program := "ytibdinelkpbhaaa", sum := "626e413dd81921a27cea5f6840d9c040b127a9e9a5aa7065d4993d3ad4efb713", func := "godown/godownlaw15.WaitNone", spec := "waitNone", inPlace := ["slices.overlaps[godown/lock.waiter]"], unfollowed := true, recurses := true, apart := false, narrowed := true }
def WaitNoneUptoSaid : Prop := waitNoneUptoRow.holds Try.pinned (OpenSpec.upto waitNoneSpec)

/-- 'godownlaw15.WaitChain', WHERE WHAT IT READS IS OF BULK AT MOST 1048576: true; the input reads as it did. -/
def waitChainUptoRow : OpenClaim := { program := "ytibdinelkpbhaaa", sum := "626e413dd81921a27cea5f6840d9c040b127a9e9a5aa7065d4993d3ad4efb713", func := "godown/godownlaw15.WaitChain", spec := "waitChain", inPlace := ["slices.overlaps[godown/lock.waiter]"], unfollowed := true, recurses := true, apart := false, narrowed := true }
def WaitChainUptoSaid : Prop := waitChainUptoRow.holds Try.pinned (OpenSpec.upto waitChainSpec)

/-- 'godownlaw15.WaitPlays', WHERE WHAT IT READS IS OF BULK AT MOST 1048576: true; the input reads as it did. -/
def waitPlaysUptoRow : OpenClaim := { program := "ytibdinelkpbhaaa", sum := "626e413dd81921a27cea5f6840d9c040b127a9e9a5aa7065d4993d3ad4efb713", func := "godown/godownlaw15.WaitPlays", spec := "waitPlays", inPlace := ["slices.overlaps[godown/lock.waiter]"], unfollowed := true, recurses := true, apart := false, narrowed := true }
def WaitPlaysUptoSaid : Prop := waitPlaysUptoRow.holds Try.pinned (OpenSpec.upto waitPlaysSpec)

/-- 'godownlaw15.WaitBreaks', WHERE WHAT IT READS IS OF BULK AT MOST 1048576: true; the input reads as it did. -/
def waitBreaksUptoRow : OpenClaim := { program := "ytibdinelkpbhaaa", sum := "626e413dd81921a27cea5f6840d9c040b127a9e9a5aa7065d4993d3ad4efb713", func := "godown/godownlaw15.WaitBreaks", spec := "waitBreaks", inPlace := ["slices.overlaps[godown/lock.waiter]"], unfollowed := true, recurses := true, apart := false, narrowed := true }
def WaitBreaksUptoSaid : Prop := waitBreaksUptoRow.holds Try.pinned (OpenSpec.upto waitBreaksSpec)

/-- 'godownlaw15.WaitUp', WHERE WHAT IT READS IS OF BULK AT MOST 1048576: true; the input reads as it did. -/
def waitUpUptoRow : OpenClaim := { program := "ytibdinelkpbhaaa", sum := "626e413dd81921a27cea5f6840d9c040b127a9e9a5aa7065d4993d3ad4efb713", func := "godown/godownlaw15.WaitUp", spec := "waitUp", inPlace := ["slices.overlaps[godown/lock.waiter]"], unfollowed := true, recurses := true, apart := false, narrowed := true }
def WaitUpUptoSaid : Prop := waitUpUptoRow.holds Try.pinned (OpenSpec.upto waitUpSpec)

end Rows
end Go.Proofs.Ytibdinelkpbhaaa
