/-
  No cell of these rows narrows 'for every input' (looked for: loops, veiled, ifaces, maps, wideKeys, modest, calm, conditions, laid).
  DERIVED. THE GIVEN ROWS OF THIS SEAT. 7 by the template 'for every input the law returns true; each argument reads behind the call as it read before'; 0 by the template 'total and deterministic' (their statements: YtgmgpandhaeniaaTotals.lean).
  GIVEN WITH THE SEED: the statements are not yours to turn. If you find one false, say at which input.
  Laid BY PROGRAM, IN A SANDBOX (cutbox-rows.mjs): the forced cells as the released guide's own fill.sh prints them over the translation 670c37b8391e1247… (all of the seat's roots in one cut). By AI agents, Wed Nov 11 2026. No macro, syntax, notation, axiom, sorry.
-/
import Derived.Test.YtgmgpandhaeniaaChecked
import GoSem.Claim
import GoSem.ClaimJoined
import GoSem.ClaimMapViews
import Derived.JoinedTies
import Derived.KernelRfl
namespace Go.Proofs.Ytgmgpandhaeniaa
/- THE CELL 'sum', in the pinned program and in every row, IS THE sha256 OF THE DUMP (.gsa) THAT YtgmgpandhaeniaaProg.lean LOADS. Nothing in Lean hashes anything: it is a label: what it is worth is what the hold of that sum in a sandbox is worth. -/
noncomputable def Try.pinned : Pinned := { name := "ytgmgpandhaeniaa", sum := "670c37b8391e12473294ac5846dcc36411730664618e2f31b2be50a27dbb26e9", checked := Try.checked }
namespace Rows
def none {H : Type} : Left H := { results := [], args := [] }

/-- 'godownlaw14.LockFifo': WHATEVER THE INPUT: true; the input reads as it did. -/
def lockFifoSpec : ChangeSpec := { name := "lockFifo", fn := fun _ => fun
  | [d] => { results := [.lit (.bool true)], args := [d] }
  | _ => none }
def lockFifoRow : OpenClaim := { program := "ytgmgpandhaeniaa", sum := "670c37b8391e12473294ac5846dcc36411730664618e2f31b2be50a27dbb26e9", func := "godown/godownlaw14.LockFifo", spec := "lockFifo", inPlace := ["slices.overlaps[godown/lock.waiter]"], unfollowed := true, recurses := true, apart := false }
def LockFifoSaid : Prop := lockFifoRow.holds Try.pinned (OpenSpec.ofChange lockFifoSpec)

/-- ITS FALSE NEIGHBOUR: 'it returns false'. Refute it at one input. -/
def lockFifoWrong : ChangeSpec := { name := "lockFifo", fn := fun _ => fun
  | [d] => { results := [.lit (.bool false)], args := [d] }
  | _ => none }
def LockFifoWrongFalsely : Prop := lockFifoRow.holds Try.pinned (OpenSpec.ofChange lockFifoWrong)

/-- 'godownlaw14.LockUp': WHATEVER THE INPUT: true; the input reads as it did. -/
def lockUpSpec : ChangeSpec := { name := "lockUp", fn := fun _ => fun
  | [d1, d2] => { results := [.lit (.bool true)], args := [d1, d2] }
  | _ => none }
def lockUpRow : OpenClaim := { program := "ytgmgpandhaeniaa", sum := "670c37b8391e12473294ac5846dcc36411730664618e2f31b2be50a27dbb26e9", func := "godown/godownlaw14.LockUp", spec := "lockUp", inPlace := ["slices.overlaps[godown/lock.waiter]"], unfollowed := true, recurses := true, apart := false }
def LockUpSaid : Prop := lockUpRow.holds Try.pinned (OpenSpec.ofChange lockUpSpec)

/-- ITS FALSE NEIGHBOUR: 'it returns false'. Refute it at one input. -/
def lockUpWrong : ChangeSpec := { name := "lockUp", fn := fun _ => fun
  | [d1, d2] => { results := [.lit (.bool false)], args := [d1, d2] }
  | _ => none }
def LockUpWrongFalsely : Prop := lockUpRow.holds Try.pinned (OpenSpec.ofChange lockUpWrong)

/-- 'godownlaw14.LockAlone': WHATEVER THE INPUT: true; the input reads as it did. -/
def lockAloneSpec : ChangeSpec := { name := "lockAlone", fn := fun _ => fun
  | [d] => { results := [.lit (.bool true)], args := [d] }
  | _ => none }
def lockAloneRow : OpenClaim := { program := "ytgmgpandhaeniaa", sum := "670c37b8391e12473294ac5846dcc36411730664618e2f31b2be50a27dbb26e9", func := "godown/godownlaw14.LockAlone", spec := "lockAlone", inPlace := ["slices.overlaps[godown/lock.waiter]"], unfollowed := true, recurses := true, apart := false }
def LockAloneSaid : Prop := lockAloneRow.holds Try.pinned (OpenSpec.ofChange lockAloneSpec)

/-- ITS FALSE NEIGHBOUR: 'it returns false'. Refute it at one input. -/
def lockAloneWrong : ChangeSpec := { name := "lockAlone", fn := fun _ => fun
  | [d] => { results := [.lit (.bool false)], args := [d] }
  | _ => none }
def LockAloneWrongFalsely : Prop := lockAloneRow.holds Try.pinned (OpenSpec.ofChange lockAloneWrong)

/-- 'godownlaw14.LockTwice': WHATEVER THE INPUT: true; the input reads as it did. -/
def lockTwiceSpec : ChangeSpec := { name := "lockTwice", fn := fun _ => fun
  | [d1, d2, d3] => { results := [.lit (.bool true)], args := [d1, d2, d3] }
  | _ => none }
def lockTwiceRow : OpenClaim := { program := "ytgmgpandhaeniaa", sum := "670c37b8391e12473294ac5846dcc36411730664618e2f31b2be50a27dbb26e9", func := "godown/godownlaw14.LockTwice", spec := "lockTwice", inPlace := ["slices.overlaps[godown/lock.waiter]"], unfollowed := true, recurses := true, apart := false }
def LockTwiceSaid : Prop := lockTwiceRow.holds Try.pinned (OpenSpec.ofChange lockTwiceSpec)

/-- ITS FALSE NEIGHBOUR: 'it returns false'. Refute it at one input. -/
def lockTwiceWrong : ChangeSpec := { name := "lockTwice", fn := fun _ => fun
  | [d1, d2, d3] => { results := [.lit (.bool false)], args := [d1, d2, d3] }
  | _ => none }
def LockTwiceWrongFalsely : Prop := lockTwiceRow.holds Try.pinned (OpenSpec.ofChange lockTwiceWrong)

/-- 'godownlaw14.LockShares': WHATEVER THE INPUT: true; the input reads as it did. -/
def lockSharesSpec : ChangeSpec := { name := "lockShares", fn := fun _ => fun
  | [d1, d2, d3] => { results := [.lit (.bool true)], args := [d1, d2, d3] }
  | _ => none }
def lockSharesRow : OpenClaim := { program := "ytgmgpandhaeniaa", sum := "670c37b8391e12473294ac5846dcc36411730664618e2f31b2be50a27dbb26e9", func := "godown/godownlaw14.LockShares", spec := "lockShares", inPlace := ["slices.overlaps[godown/lock.waiter]"], unfollowed := true, recurses := true, apart := false }
def LockSharesSaid : Prop := lockSharesRow.holds Try.pinned (OpenSpec.ofChange lockSharesSpec)

/-- ITS FALSE NEIGHBOUR: 'it returns false'. Refute it at one input. -/
def lockSharesWrong : ChangeSpec := { name := "lockShares", fn := fun _ => fun
  | [d1, d2, d3] => { results := [.lit (.bool false)], args := [d1, d2, d3] }
  | _ => none }
def LockSharesWrongFalsely : Prop := lockSharesRow.holds Try.pinned (OpenSpec.ofChange lockSharesWrong)

/-- 'godownlaw14.LockPlays': WHATEVER THE INPUT: true; the input reads as it did. -/
def lockPlaysSpec : ChangeSpec := { name := "lockPlays", fn := fun _ => fun
  | [d] => { results := [.lit (.bool true)], args := [d] }
  | _ => none }
def lockPlaysRow : OpenClaim := { program := "ytgmgpandhaeniaa", sum := "670c37b8391e12473294ac5846dcc36411730664618e2f31b2be50a27dbb26e9", func := "godown/godownlaw14.LockPlays", spec := "lockPlays", inPlace := ["slices.overlaps[godown/lock.waiter]"], unfollowed := true, recurses := true, apart := false }
def LockPlaysSaid : Prop := lockPlaysRow.holds Try.pinned (OpenSpec.ofChange lockPlaysSpec)

/-- ITS FALSE NEIGHBOUR: 'it returns false'. Refute it at one input. -/
def lockPlaysWrong : ChangeSpec := { name := "lockPlays", fn := fun _ => fun
  | [d] => { results := [.lit (.bool false)], args := [d] }
  | _ => none }
def LockPlaysWrongFalsely : Prop := lockPlaysRow.holds Try.pinned (OpenSpec.ofChange lockPlaysWrong)

/-- 'godownlaw14.LockNil': WHATEVER THE INPUT: true; the input reads as it did. -/
def lockNilSpec : ChangeSpec := { name := "lockNil", fn := fun _ => fun
  | [d1, d2, d3] => { results := [.lit (.bool true)], args := [d1, d2, d3] }
  | _ => none }
def lockNilRow : OpenClaim := { program := "ytgmgpandhaeniaa", sum := "670c37b8391e12473294ac5846dcc36411730664618e2f31b2be50a27dbb26e9", func := "godown/godownlaw14.LockNil", spec := "lockNil", inPlace := ["slices.overlaps[godown/lock.waiter]"], unfollowed := true, recurses := true, apart := false }
def LockNilSaid : Prop := lockNilRow.holds Try.pinned (OpenSpec.ofChange lockNilSpec)

/-- ITS FALSE NEIGHBOUR: 'it returns false'. Refute it at one input. -/
def lockNilWrong : ChangeSpec := { name := "lockNil", fn := fun _ => fun
  | [d1, d2, d3] => { results := [.lit (.bool false)], args := [d1, d2, d3] }
  | _ => none }
def LockNilWrongFalsely : Prop := lockNilRow.holds Try.pinned (OpenSpec.ofChange lockNilWrong)

/- THE SECOND FORM. 'bulk': how many values and letters a reading holds, each counted each time it is reached (what is shared counts as often as it is met; a slice's spare places count too). A statement '..UptoSaid' is the law's where the arguments, and the package variables that the reading takes, are together of bulk at most 1048576: NARROWER than '..Said'. Prove '..Said' where nothing that the law and all that it calls make is longer than what came in: it says more and counts as full. Else prove '..UptoSaid'. A law counts once. -/
mutual
def uptoBulk {H : Type} : DataW H → Nat
  | .lit (.string bytes) => bytes.length + 1
  | .lit _ => 1
  | .nil => 1
  | .ptr d => uptoBulk d + 1
  | .slice elems spare => uptoBulkAll elems + uptoBulkAll spare + 1
  | .agg parts => uptoBulkAll parts + 1
  | .iface _ d => uptoBulk d + 1
  | .map entries => uptoBulkEntries entries + 1
  | .held _ => 1
def uptoBulkAll {H : Type} : List (DataW H) → Nat
  | [] => 0
  | d :: r => uptoBulk d + uptoBulkAll r
def uptoBulkEntries {H : Type} : List (Lit × DataW H) → Nat
  | [] => 0
  | x :: r => uptoBulkEntry x + uptoBulkEntries r
def uptoBulkEntry {H : Type} : Lit × DataW H → Nat
  | (.string bytes, d) => bytes.length + uptoBulk d + 1
  | (_, d) => uptoBulk d + 1
 end
def uptoSmall : (H : Type) → List (DataW H) → Bool := fun _ ds => decide (uptoBulkAll ds ≤ 1048576)
def OpenSpec.upto (s : _root_.Go.ChangeSpec) : _root_.Go.OpenSpec := { _root_.Go.OpenSpec.ofChange s with cond := some uptoSmall }

/-- 'godownlaw14.LockFifo', WHERE WHAT IT READS IS OF BULK AT MOST 1048576: true; the input reads as it did. -/
def lockFifoUptoRow : OpenClaim := { program := "ytgmgpandhaeniaa", sum := "670c37b8391e12473294ac5846dcc36411730664618e2f31b2be50a27dbb26e9", func := "godown/godownlaw14.LockFifo", spec := "lockFifo", inPlace := ["slices.overlaps[godown/lock.waiter]"], unfollowed := true, recurses := true, apart := false, narrowed := true }
def LockFifoUptoSaid : Prop := lockFifoUptoRow.holds Try.pinned (OpenSpec.upto lockFifoSpec)

/-- 'godownlaw14.LockUp', WHERE WHAT IT READS IS OF BULK AT MOST 1048576: true; the input reads as it did. -/
def lockUpUptoRow : OpenClaim := { program := "ytgmgpandhaeniaa", sum := "670c37b8391e12473294ac5846dcc36411730664618e2f31b2be50a27dbb26e9", func := "godown/godownlaw14.LockUp", spec := "lockUp", inPlace := ["slices.overlaps[godown/lock.waiter]"], unfollowed := true, recurses := true, apart := false, narrowed := true }
def LockUpUptoSaid : Prop := lockUpUptoRow.holds Try.pinned (OpenSpec.upto lockUpSpec)

/-- 'godownlaw14.LockAlone', WHERE WHAT IT READS IS OF BULK AT MOST 1048576: true; the input reads as it did. -/
def lockAloneUptoRow : OpenClaim := { program := "ytgmgpandhaeniaa", sum := "670c37b8391e12473294ac5846dcc36411730664618e2f31b2be50a27dbb26e9", func := "godown/godownlaw14.LockAlone", spec := "lockAlone", inPlace := ["slices.overlaps[godown/lock.waiter]"], unfollowed := true, recurses := true, apart := false, narrowed := true }
def LockAloneUptoSaid : Prop := lockAloneUptoRow.holds Try.pinned (OpenSpec.upto lockAloneSpec)

/-- 'godownlaw14.LockTwice', WHERE WHAT IT READS IS OF BULK AT MOST 1048576: true; the input reads as it did. -/
def lockTwiceUptoRow : OpenClaim := { program := "ytgmgpandhaeniaa", sum := "670c37b8391e12473294ac5846dcc36411730664618e2f31b2be50a27dbb26e9", func := "godown/godownlaw14.LockTwice", spec := "lockTwice", inPlace := ["slices.overlaps[godown/lock.waiter]"], unfollowed := true, recurses := true, apart := false, narrowed := true }
def LockTwiceUptoSaid : Prop := lockTwiceUptoRow.holds Try.pinned (OpenSpec.upto lockTwiceSpec)

/-- 'godownlaw14.LockShares', WHERE WHAT IT READS IS OF BULK AT MOST 1048576: true; the input reads as it did. -/
def lockSharesUptoRow : OpenClaim := { program := "ytgmgpandhaeniaa", sum := "670c37b8391e12473294ac5846dcc36411730664618e2f31b2be50a27dbb26e9", func := "godown/godownlaw14.LockShares", spec := "lockShares", inPlace := ["slices.overlaps[godown/lock.waiter]"], unfollowed := true, recurses := true, apart := false, narrowed := true }
def LockSharesUptoSaid : Prop := lockSharesUptoRow.holds Try.pinned (OpenSpec.upto lockSharesSpec)

/-- 'godownlaw14.LockPlays', WHERE WHAT IT READS IS OF BULK AT MOST 1048576: true; the input reads as it did. -/
def lockPlaysUptoRow : OpenClaim := { program := "ytgmgpandhaeniaa", sum := "670c37b8391e12473294ac5846dcc36411730664618e2f31b2be50a27dbb26e9", func := "godown/godownlaw14.LockPlays", spec := "lockPlays", inPlace := ["slices.overlaps[godown/lock.waiter]"], unfollowed := true, recurses := true, apart := false, narrowed := true }
def LockPlaysUptoSaid : Prop := lockPlaysUptoRow.holds Try.pinned (OpenSpec.upto lockPlaysSpec)

/-- 'godownlaw14.LockNil', WHERE WHAT IT READS IS OF BULK AT MOST 1048576: true; the input reads as it did. -/
def lockNilUptoRow : OpenClaim := { program := "ytgmgpandhaeniaa", sum := "670c37b8391e12473294ac5846dcc36411730664618e2f31b2be50a27dbb26e9", func := "godown/godownlaw14.LockNil", spec := "lockNil", inPlace := ["slices.overlaps[godown/lock.waiter]"], unfollowed := true, recurses := true, apart := false, narrowed := true }
def LockNilUptoSaid : Prop := lockNilUptoRow.holds Try.pinned (OpenSpec.upto lockNilSpec)

end Rows
end Go.Proofs.Ytgmgpandhaeniaa
