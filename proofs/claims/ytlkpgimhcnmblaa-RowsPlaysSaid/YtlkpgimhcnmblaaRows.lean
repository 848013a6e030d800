/-
  No cell of these rows narrows 'for every input' (looked for: loops, veiled, ifaces, maps, wideKeys, modest, calm, conditions, laid).
  DERIVED. THE GIVEN ROWS OF THIS SEAT. 6 by the template 'for every input the law returns true; each argument reads behind the call as it read before'; 0 by the template 'total and deterministic' (their statements: YtlkpgimhcnmblaaTotals.lean).
  GIVEN WITH THE SEED: the statements are not yours to turn. If you find one false, say at which input.
  Laid BY PROGRAM, IN A SANDBOX (cutbox-rows.mjs): the forced cells as the released guide's own fill.sh prints them over the translation 9caaf78b3e82bbce… (all of the seat's roots in one cut). By AI agents, Wed Nov 11 2026. No macro, syntax, notation, axiom, sorry.
-/
import Derived.Test.YtlkpgimhcnmblaaChecked
import GoSem.Claim
import GoSem.ClaimJoined
import GoSem.ClaimMapViews
import Derived.JoinedTies
import Derived.KernelRfl
namespace Go.Proofs.Ytlkpgimhcnmblaa
/- THE CELL 'sum', in the pinned program and in every row, IS THE sha256 OF THE DUMP (.gsa) THAT YtlkpgimhcnmblaaProg.lean LOADS. Nothing in Lean hashes anything: it is a label: what it is worth is what the hold of that sum in a sandbox is worth. -/
noncomputable def Try.pinned : Pinned := { name := "ytlkpgimhcnmblaa", sum := "9caaf78b3e82bbcea5f3da6a6a5d1fbe48be8ee932d615446ed303c15d3b40f9", checked := Try.checked }
namespace Rows
def none {H : Type} : Left H := { results := [], args := [] }

/-- 'godownlaw09.RowsUndone': WHATEVER THE INPUT: true; the input reads as it did. -/
def rowsUndoneSpec : ChangeSpec := { name := "rowsUndone", fn := fun _ => fun
  | [d1, d2] => { results := [.lit (.bool true)], args := [d1, d2] }
  | _ => none }
def rowsUndoneRow : OpenClaim := { program := "ytlkpgimhcnmblaa", sum := "9caaf78b3e82bbcea5f3da6a6a5d1fbe48be8ee932d615446ed303c15d3b40f9", func := "godown/godownlaw09.RowsUndone", spec := "rowsUndone", unfollowed := true, recurses := true, apart := false }
def RowsUndoneSaid : Prop := rowsUndoneRow.holds Try.pinned (OpenSpec.ofChange rowsUndoneSpec)

/-- ITS FALSE NEIGHBOUR: 'it returns false'. Refute it at one input. -/
def rowsUndoneWrong : ChangeSpec := { name := "rowsUndone", fn := fun _ => fun
  | [d1, d2] => { results := [.lit (.bool false)], args := [d1, d2] }
  | _ => none }
def RowsUndoneWrongFalsely : Prop := rowsUndoneRow.holds Try.pinned (OpenSpec.ofChange rowsUndoneWrong)

/-- 'godownlaw09.RowsKeys': WHATEVER THE INPUT: true; the input reads as it did. -/
def rowsKeysSpec : ChangeSpec := { name := "rowsKeys", fn := fun _ => fun
  | [d] => { results := [.lit (.bool true)], args := [d] }
  | _ => none }
def rowsKeysRow : OpenClaim := { program := "ytlkpgimhcnmblaa", sum := "9caaf78b3e82bbcea5f3da6a6a5d1fbe48be8ee932d615446ed303c15d3b40f9", func := "godown/godownlaw09.RowsKeys", spec := "rowsKeys", unfollowed := true, recurses := true, apart := false }
def RowsKeysSaid : Prop := rowsKeysRow.holds Try.pinned (OpenSpec.ofChange rowsKeysSpec)

/-- ITS FALSE NEIGHBOUR: 'it returns false'. Refute it at one input. -/
def rowsKeysWrong : ChangeSpec := { name := "rowsKeys", fn := fun _ => fun
  | [d] => { results := [.lit (.bool false)], args := [d] }
  | _ => none }
def RowsKeysWrongFalsely : Prop := rowsKeysRow.holds Try.pinned (OpenSpec.ofChange rowsKeysWrong)

/-- 'godownlaw09.RowsNested': WHATEVER THE INPUT: true; the input reads as it did. -/
def rowsNestedSpec : ChangeSpec := { name := "rowsNested", fn := fun _ => fun
  | [d] => { results := [.lit (.bool true)], args := [d] }
  | _ => none }
def rowsNestedRow : OpenClaim := { program := "ytlkpgimhcnmblaa", sum := "9caaf78b3e82bbcea5f3da6a6a5d1fbe48be8ee932d615446ed303c15d3b40f9", func := "godown/godownlaw09.RowsNested", spec := "rowsNested", unfollowed := true, recurses := true, apart := false }
def RowsNestedSaid : Prop := rowsNestedRow.holds Try.pinned (OpenSpec.ofChange rowsNestedSpec)

/-- ITS FALSE NEIGHBOUR: 'it returns false'. Refute it at one input. -/
def rowsNestedWrong : ChangeSpec := { name := "rowsNested", fn := fun _ => fun
  | [d] => { results := [.lit (.bool false)], args := [d] }
  | _ => none }
def RowsNestedWrongFalsely : Prop := rowsNestedRow.holds Try.pinned (OpenSpec.ofChange rowsNestedWrong)

/-- 'godownlaw09.RowsPlays': WHATEVER THE INPUT: true; the input reads as it did. -/
def rowsPlaysSpec : ChangeSpec := { name := "rowsPlays", fn := fun _ => fun
  | [d1, d2] => { results := [.lit (.bool true)], args := [d1, d2] }
  | _ => none }
def rowsPlaysRow : OpenClaim := { program := "ytlkpgimhcnmblaa", sum := "9caaf78b3e82bbcea5f3da6a6a5d1fbe48be8ee932d615446ed303c15d3b40f9", func := "godown/godownlaw09.RowsPlays", spec := "rowsPlays", unfollowed := true, recurses := true, apart := false }
def RowsPlaysSaid : Prop := rowsPlaysRow.holds Try.pinned (OpenSpec.ofChange rowsPlaysSpec)

/-- ITS FALSE NEIGHBOUR: 'it returns false'. Refute it at one input. -/
def rowsPlaysWrong : ChangeSpec := { name := "rowsPlays", fn := fun _ => fun
  | [d1, d2] => { results := [.lit (.bool false)], args := [d1, d2] }
  | _ => none }
def RowsPlaysWrongFalsely : Prop := rowsPlaysRow.holds Try.pinned (OpenSpec.ofChange rowsPlaysWrong)

/-- 'godownlaw09.RowsDone': WHATEVER THE INPUT: true; the input reads as it did. -/
def rowsDoneSpec : ChangeSpec := { name := "rowsDone", fn := fun _ => fun
  | [d1, d2] => { results := [.lit (.bool true)], args := [d1, d2] }
  | _ => none }
def rowsDoneRow : OpenClaim := { program := "ytlkpgimhcnmblaa", sum := "9caaf78b3e82bbcea5f3da6a6a5d1fbe48be8ee932d615446ed303c15d3b40f9", func := "godown/godownlaw09.RowsDone", spec := "rowsDone", unfollowed := true, recurses := true, apart := false }
def RowsDoneSaid : Prop := rowsDoneRow.holds Try.pinned (OpenSpec.ofChange rowsDoneSpec)

/-- ITS FALSE NEIGHBOUR: 'it returns false'. Refute it at one input. -/
def rowsDoneWrong : ChangeSpec := { name := "rowsDone", fn := fun _ => fun
  | [d1, d2] => { results := [.lit (.bool false)], args := [d1, d2] }
  | _ => none }
def RowsDoneWrongFalsely : Prop := rowsDoneRow.holds Try.pinned (OpenSpec.ofChange rowsDoneWrong)

/-- 'godownlaw09.RowsNil': WHATEVER THE INPUT: true; the input reads as it did. -/
def rowsNilSpec : ChangeSpec := { name := "rowsNil", fn := fun _ => fun
  | [d1, d2] => { results := [.lit (.bool true)], args := [d1, d2] }
  | _ => none }
def rowsNilRow : OpenClaim := { program := "ytlkpgimhcnmblaa", sum := "9caaf78b3e82bbcea5f3da6a6a5d1fbe48be8ee932d615446ed303c15d3b40f9", func := "godown/godownlaw09.RowsNil", spec := "rowsNil", unfollowed := true, recurses := true, apart := false }
def RowsNilSaid : Prop := rowsNilRow.holds Try.pinned (OpenSpec.ofChange rowsNilSpec)

/-- ITS FALSE NEIGHBOUR: 'it returns false'. Refute it at one input. -/
def rowsNilWrong : ChangeSpec := { name := "rowsNil", fn := fun _ => fun
  | [d1, d2] => { results := [.lit (.bool false)], args := [d1, d2] }
  | _ => none }
def RowsNilWrongFalsely : Prop := rowsNilRow.holds Try.pinned (OpenSpec.ofChange rowsNilWrong)

/- THE SECOND FORM. 'bulk': how many values and letters a reading holds, each counted each time it is reached (what is shared counts as often as it is met; a slice's spare places count too). A statement '..UptoSaid' is the law's where the arguments, and the package variables that the reading takes, are together of bulk at most 1048576: NARROWER than '..Said'. Prove '..Said' where nothing that the law and all that it calls make is longer than what came in: it says more and counts as full. Else prove '..UptoSaid'. A law counts once. -/
mutual
def uptoBulk {H : Type} : DataW H → Nat
  | .lit (.string bytes) => bytes.length + 1
  | .lit _ => 1
  | .nil => 1
  | .ptr d => uptoBulk d + 1
  | .slice elems spare => uptoBulkAll elems + uptoBulkAll spare + 1
  | .agg parts => uptoBulkAll parts + 1
  | .iface _ d => uptoBulk d + 1
  | .map entries => uptoBulkEntries entries + 1
  | .held _ => 1
def uptoBulkAll {H : Type} : List (DataW H) → Nat
  | [] => 0
  | d :: r => uptoBulk d + uptoBulkAll r
def uptoBulkEntries {H : Type} : List (Lit × DataW H) → Nat
  | [] => 0
  | x :: r => uptoBulkEntry x + uptoBulkEntries r
def uptoBulkEntry {H : Type} : Lit × DataW H → Nat
  | (.string bytes, d) => bytes.length + uptoBulk d + 1
  | (_, d) => uptoBulk d + 1
 end
def uptoSmall : (H : Type) → List (DataW H) → Bool := fun _ ds => decide (uptoBulkAll ds ≤ 1048576)
def OpenSpec.upto (s : _root_.Go.ChangeSpec) : _root_.Go.OpenSpec := { _root_.Go.OpenSpec.ofChange s with cond := some uptoSmall }

/-- 'godownlaw09.RowsUndone', WHERE WHAT IT READS IS OF BULK AT MOST 1048576: true; the input reads as it did. -/
def rowsUndoneUptoRow : OpenClaim := { program := "ytlkpgimhcnmblaa", sum := "9caaf78b3e82bbcea5f3da6a6a5d1fbe48be8ee932d615446ed303c15d3b40f9", func := "godown/godownlaw09.RowsUndone", spec := "rowsUndone", unfollowed := true, recurses := true, apart := false, narrowed := true }
def RowsUndoneUptoSaid : Prop := rowsUndoneUptoRow.holds Try.pinned (OpenSpec.upto rowsUndoneSpec)

/-- 'godownlaw09.RowsKeys', WHERE WHAT IT READS IS OF BULK AT MOST 1048576: true; the input reads as it did. -/
def rowsKeysUptoRow : OpenClaim := { program := "ytlkpgimhcnmblaa", sum := "9caaf78b3e82bbcea5f3da6a6a5d1fbe48be8ee932d615446ed303c15d3b40f9", func := "godown/godownlaw09.RowsKeys", spec := "rowsKeys", unfollowed := true, recurses := true, apart := false, narrowed := true }
def RowsKeysUptoSaid : Prop := rowsKeysUptoRow.holds Try.pinned (OpenSpec.upto rowsKeysSpec)

/-- 'godownlaw09.RowsNested', WHERE WHAT IT READS IS OF BULK AT MOST 1048576: true; the input reads as it did. -/
def rowsNestedUptoRow : OpenClaim := { program := "ytlkpgimhcnmblaa", sum := "9caaf78b3e82bbcea5f3da6a6a5d1fbe48be8ee932d615446ed303c15d3b40f9", func := "godown/godownlaw09.RowsNested", spec := "rowsNested", unfollowed := true, recurses := true, apart := false, narrowed := true }
def RowsNestedUptoSaid : Prop := rowsNestedUptoRow.holds Try.pinned (OpenSpec.upto rowsNestedSpec)

/-- 'godownlaw09.RowsPlays', WHERE WHAT IT READS IS OF BULK AT MOST 1048576: true; the input reads as it did. -/
def rowsPlaysUptoRow : OpenClaim := { program := "ytlkpgimhcnmblaa", sum := "9caaf78b3e82bbcea5f3da6a6a5d1fbe48be8ee932d615446ed303c15d3b40f9", func := "godown/godownlaw09.RowsPlays", spec := "rowsPlays", unfollowed := true, recurses := true, apart := false, narrowed := true }
def RowsPlaysUptoSaid : Prop := rowsPlaysUptoRow.holds Try.pinned (OpenSpec.upto rowsPlaysSpec)

/-- 'godownlaw09.RowsDone', WHERE WHAT IT READS IS OF BULK AT MOST 1048576: true; the input reads as it did. -/
def rowsDoneUptoRow : OpenClaim := { program := "ytlkpgimhcnmblaa", sum := "9caaf78b3e82bbcea5f3da6a6a5d1fbe48be8ee932d615446ed303c15d3b40f9", func := "godown/godownlaw09.RowsDone", spec := "rowsDone", unfollowed := true, recurses := true, apart := false, narrowed := true }
def RowsDoneUptoSaid : Prop := rowsDoneUptoRow.holds Try.pinned (OpenSpec.upto rowsDoneSpec)

/-- 'godownlaw09.RowsNil', WHERE WHAT IT READS IS OF BULK AT MOST 1048576: true; the input reads as it did. -/
def rowsNilUptoRow : OpenClaim := { program := "ytlkpgimhcnmblaa", sum := "9caaf78b3e82bbcea5f3da6a6a5d1fbe48be8ee932d615446ed303c15d3b40f9", func := "godown/godownlaw09.RowsNil", spec := "rowsNil", unfollowed := true, recurses := true, apart := false, narrowed := true }
def RowsNilUptoSaid : Prop := rowsNilUptoRow.holds Try.pinned (OpenSpec.upto rowsNilSpec)

end Rows
end Go.Proofs.Ytlkpgimhcnmblaa
