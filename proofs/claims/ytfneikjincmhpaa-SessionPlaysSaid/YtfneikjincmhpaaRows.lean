/-
  No cell of these rows narrows 'for every input' (looked for: loops, veiled, ifaces, maps, wideKeys, modest, calm, conditions, laid).
  DERIVED. THE GIVEN ROWS OF THIS SEAT. 6 by the template 'for every input the law returns true; each argument reads behind the call as it read before'; 0 by the template 'total and deterministic' (their statements: YtfneikjincmhpaaTotals.lean).
  GIVEN WITH THE SEED: the statements are not yours to turn. If you find one false, say at which input.
  Laid BY PROGRAM, IN A SANDBOX (cutbox-rows.mjs): the forced cells as the released guide's own fill.sh prints them over the translation 31f36421190b625f… (all of the seat's roots in one cut). By AI agents, Wed Nov 11 2026. No macro, syntax, notation, axiom, sorry.
-/
import Derived.Test.YtfneikjincmhpaaChecked
import GoSem.Claim
import GoSem.ClaimJoined
import GoSem.ClaimMapViews
import Derived.JoinedTies
import Derived.KernelRfl
namespace Go.Proofs.Ytfneikjincmhpaa
/- THE CELL 'sum', in the pinned program and in every row, IS THE sha256 OF THE DUMP (.gsa) THAT YtfneikjincmhpaaProg.lean LOADS. Nothing in Lean hashes anything: it is a label: what it is worth is what the hold of that sum in a sandbox is worth. -/
noncomputable def Try.pinned : Pinned := { name := "ytfneikjincmhpaa", sum := "31f36421190b625fe00867709a1e2773c529ed33e7e59374db360f141ed0919b", checked := Try.checked }
namespace Rows
def none {H : Type} : Left H := { results := [], args := [] }

/-- 'godownlaw18.SessionGreets': WHATEVER THE INPUT: true; the input reads as it did. -/
def sessionGreetsSpec : ChangeSpec := { name := "sessionGreets", fn := fun _ => fun
  | [d1, d2] => { results := [.lit (.bool true)], args := [d1, d2] }
  | _ => none }
def sessionGreetsRow : OpenClaim := { program := "ytfneikjincmhpaa", sum := "31f36421190b625fe00867709a1e2773c529ed33e7e59374db360f141ed0919b", func := "godown/godownlaw18.SessionGreets", spec := "sessionGreets", inPlace := ["math.Float64frombits", "math.Float64bits"], apart := false }
def SessionGreetsSaid : Prop := sessionGreetsRow.holds Try.pinned (OpenSpec.ofChange sessionGreetsSpec)

/-- ITS FALSE NEIGHBOUR: 'it returns false'. Refute it at one input. -/
def sessionGreetsWrong : ChangeSpec := { name := "sessionGreets", fn := fun _ => fun
  | [d1, d2] => { results := [.lit (.bool false)], args := [d1, d2] }
  | _ => none }
def SessionGreetsWrongFalsely : Prop := sessionGreetsRow.holds Try.pinned (OpenSpec.ofChange sessionGreetsWrong)

/-- 'godownlaw18.SessionOrder': WHATEVER THE INPUT: true; the input reads as it did. -/
def sessionOrderSpec : ChangeSpec := { name := "sessionOrder", fn := fun _ => fun
  | [d1, d2] => { results := [.lit (.bool true)], args := [d1, d2] }
  | _ => none }
def sessionOrderRow : OpenClaim := { program := "ytfneikjincmhpaa", sum := "31f36421190b625fe00867709a1e2773c529ed33e7e59374db360f141ed0919b", func := "godown/godownlaw18.SessionOrder", spec := "sessionOrder", inPlace := ["math.Float64frombits", "math.Float64bits"], apart := false }
def SessionOrderSaid : Prop := sessionOrderRow.holds Try.pinned (OpenSpec.ofChange sessionOrderSpec)

/-- ITS FALSE NEIGHBOUR: 'it returns false'. Refute it at one input. -/
def sessionOrderWrong : ChangeSpec := { name := "sessionOrder", fn := fun _ => fun
  | [d1, d2] => { results := [.lit (.bool false)], args := [d1, d2] }
  | _ => none }
def SessionOrderWrongFalsely : Prop := sessionOrderRow.holds Try.pinned (OpenSpec.ofChange sessionOrderWrong)

/-- 'godownlaw18.SessionBusy': WHATEVER THE INPUT: true; the input reads as it did. -/
def sessionBusySpec : ChangeSpec := { name := "sessionBusy", fn := fun _ => fun
  | [d1, d2] => { results := [.lit (.bool true)], args := [d1, d2] }
  | _ => none }
def sessionBusyRow : OpenClaim := { program := "ytfneikjincmhpaa", sum := "31f36421190b625fe00867709a1e2773c529ed33e7e59374db360f141ed0919b", func := "godown/godownlaw18.SessionBusy", spec := "sessionBusy", inPlace := ["math.Float64frombits", "math.Float64bits"], apart := false }
def SessionBusySaid : Prop := sessionBusyRow.holds Try.pinned (OpenSpec.ofChange sessionBusySpec)

/-- ITS FALSE NEIGHBOUR: 'it returns false'. Refute it at one input. -/
def sessionBusyWrong : ChangeSpec := { name := "sessionBusy", fn := fun _ => fun
  | [d1, d2] => { results := [.lit (.bool false)], args := [d1, d2] }
  | _ => none }
def SessionBusyWrongFalsely : Prop := sessionBusyRow.holds Try.pinned (OpenSpec.ofChange sessionBusyWrong)

/-- 'godownlaw18.SessionPlays': WHATEVER THE INPUT: true; the input reads as it did. -/
def sessionPlaysSpec : ChangeSpec := { name := "sessionPlays", fn := fun _ => fun
  | [d1, d2] => { results := [.lit (.bool true)], args := [d1, d2] }
  | _ => none }
def sessionPlaysRow : OpenClaim := { program := "ytfneikjincmhpaa", sum := "31f36421190b625fe00867709a1e2773c529ed33e7e59374db360f141ed0919b", func := "godown/godownlaw18.SessionPlays", spec := "sessionPlays", inPlace := ["math.Float64frombits", "math.Float64bits"], apart := false }
def SessionPlaysSaid : Prop := sessionPlaysRow.holds Try.pinned (OpenSpec.ofChange sessionPlaysSpec)

/-- ITS FALSE NEIGHBOUR: 'it returns false'. Refute it at one input. -/
def sessionPlaysWrong : ChangeSpec := { name := "sessionPlays", fn := fun _ => fun
  | [d1, d2] => { results := [.lit (.bool false)], args := [d1, d2] }
  | _ => none }
def SessionPlaysWrongFalsely : Prop := sessionPlaysRow.holds Try.pinned (OpenSpec.ofChange sessionPlaysWrong)

/-- 'godownlaw18.SessionBreaks': WHATEVER THE INPUT: true; the input reads as it did. -/
def sessionBreaksSpec : ChangeSpec := { name := "sessionBreaks", fn := fun _ => fun
  | [d1, d2, d3] => { results := [.lit (.bool true)], args := [d1, d2, d3] }
  | _ => none }
def sessionBreaksRow : OpenClaim := { program := "ytfneikjincmhpaa", sum := "31f36421190b625fe00867709a1e2773c529ed33e7e59374db360f141ed0919b", func := "godown/godownlaw18.SessionBreaks", spec := "sessionBreaks", inPlace := ["math.Float64frombits", "math.Float64bits"], apart := false }
def SessionBreaksSaid : Prop := sessionBreaksRow.holds Try.pinned (OpenSpec.ofChange sessionBreaksSpec)

/-- ITS FALSE NEIGHBOUR: 'it returns false'. Refute it at one input. -/
def sessionBreaksWrong : ChangeSpec := { name := "sessionBreaks", fn := fun _ => fun
  | [d1, d2, d3] => { results := [.lit (.bool false)], args := [d1, d2, d3] }
  | _ => none }
def SessionBreaksWrongFalsely : Prop := sessionBreaksRow.holds Try.pinned (OpenSpec.ofChange sessionBreaksWrong)

/-- 'godownlaw18.SessionNil': WHATEVER THE INPUT: true; the input reads as it did. -/
def sessionNilSpec : ChangeSpec := { name := "sessionNil", fn := fun _ => fun
  | [d1, d2] => { results := [.lit (.bool true)], args := [d1, d2] }
  | _ => none }
def sessionNilRow : OpenClaim := { program := "ytfneikjincmhpaa", sum := "31f36421190b625fe00867709a1e2773c529ed33e7e59374db360f141ed0919b", func := "godown/godownlaw18.SessionNil", spec := "sessionNil", inPlace := ["math.Float64frombits", "math.Float64bits"], apart := false }
def SessionNilSaid : Prop := sessionNilRow.holds Try.pinned (OpenSpec.ofChange sessionNilSpec)

/-- ITS FALSE NEIGHBOUR: 'it returns false'. Refute it at one input. -/
def sessionNilWrong : ChangeSpec := { name := "sessionNil", fn := fun _ => fun
  | [d1, d2] => { results := [.lit (.bool false)], args := [d1, d2] }
  | _ => none }
def SessionNilWrongFalsely : Prop := sessionNilRow.holds Try.pinned (OpenSpec.ofChange sessionNilWrong)

/- THE SECOND FORM. 'bulk': how many values and letters a reading holds, each counted each time it is reached (what is shared counts as often as it is met; a slice's spare places count too). A statement '..UptoSaid' is the law's where the arguments, and the package variables that the reading takes, are together of bulk at most 1048576: NARROWER than '..Said'. Prove '..Said' where nothing that the law and all that it calls make is longer than what came in: it says more and counts as full. Else prove '..UptoSaid'. A law counts once. -/
mutual
def uptoBulk {H : Type} : DataW H → Nat
  | .lit (.string bytes) => bytes.length + 1
  | .lit _ => 1
  | .nil => 1
  | .ptr d => uptoBulk d + 1
  | .slice elems spare => uptoBulkAll elems + uptoBulkAll spare + 1
  | .agg parts => uptoBulkAll parts + 1
  | .iface _ d => uptoBulk d + 1
  | .map entries => uptoBulkEntries entries + 1
  | .held _ => 1
def uptoBulkAll {H : Type} : List (DataW H) → Nat
  | [] => 0
  | d :: r => uptoBulk d + uptoBulkAll r
def uptoBulkEntries {H : Type} : List (Lit × DataW H) → Nat
  | [] => 0
  | x :: r => uptoBulkEntry x + uptoBulkEntries r
def uptoBulkEntry {H : Type} : Lit × DataW H → Nat
  | (.string bytes, d) => bytes.length + uptoBulk d + 1
  | (_, d) => uptoBulk d + 1
 end
def uptoSmall : (H : Type) → List (DataW H) → Bool := fun _ ds => decide (uptoBulkAll ds ≤ 1048576)
def OpenSpec.upto (s : _root_.Go.ChangeSpec) : _root_.Go.OpenSpec := { _root_.Go.OpenSpec.ofChange s with cond := some uptoSmall }

/-- 'godownlaw18.SessionGreets', WHERE WHAT IT READS IS OF BULK AT MOST 1048576: true; the input reads as it did. -/
def sessionGreetsUptoRow : OpenClaim := { program := "ytfneikjincmhpaa", sum := "31f36421190b625fe00867709a1e2773c529ed33e7e59374db360f141ed0919b", func := "godown/godownlaw18.SessionGreets", spec := "sessionGreets", inPlace := ["math.Float64frombits", "math.Float64bits"], apart := false, narrowed := true }
def SessionGreetsUptoSaid : Prop := sessionGreetsUptoRow.holds Try.pinned (OpenSpec.upto sessionGreetsSpec)

/-- 'godownlaw18.SessionOrder', WHERE WHAT IT READS IS OF BULK AT MOST 1048576: true; the input reads as it did. -/
def sessionOrderUptoRow : OpenClaim := { program := "ytfneikjincmhpaa", sum := "31f36421190b625fe00867709a1e2773c529ed33e7e59374db360f141ed0919b", func := "godown/godownlaw18.SessionOrder", spec := "sessionOrder", inPlace := ["math.Float64frombits", "math.Float64bits"], apart := false, narrowed := true }
def SessionOrderUptoSaid : Prop := sessionOrderUptoRow.holds Try.pinned (OpenSpec.upto sessionOrderSpec)

/-- 'godownlaw18.SessionBusy', WHERE WHAT IT READS IS OF BULK AT MOST 1048576: true; the input reads as it did. -/
def sessionBusyUptoRow : OpenClaim := { program := "ytfneikjincmhpaa", sum := "31f36421190b625fe00867709a1e2773c529ed33e7e59374db360f141ed0919b", func := "godown/godownlaw18.SessionBusy", spec := "sessionBusy", inPlace := ["math.Float64frombits", "math.Float64bits"], apart := false, narrowed := true }
def SessionBusyUptoSaid : Prop := sessionBusyUptoRow.holds Try.pinned (OpenSpec.upto sessionBusySpec)

/-- 'godownlaw18.SessionPlays', WHERE WHAT IT READS IS OF BULK AT MOST 1048576: true; the input reads as it did. -/
def sessionPlaysUptoRow : OpenClaim := { program := "ytfneikjincmhpaa", sum := "31f36421190b625fe00867709a1e2773c529ed33e7e59374db360f141ed0919b", func := "godown/godownlaw18.SessionPlays", spec := "sessionPlays", inPlace := ["math.Float64frombits", "math.Float64bits"], apart := false, narrowed := true }
def SessionPlaysUptoSaid : Prop := sessionPlaysUptoRow.holds Try.pinned (OpenSpec.upto sessionPlaysSpec)

/-- 'godownlaw18.SessionBreaks', WHERE WHAT IT READS IS OF BULK AT MOST 1048576: true; the input reads as it did. -/
def sessionBreaksUptoRow : OpenClaim := { program := "ytfneikjincmhpaa", sum := "31f36421190b625fe00867709a1e2773c529ed33e7e59374db360f141ed0919b", func := "godown/godownlaw18.SessionBreaks", spec := "sessionBreaks", inPlace := ["math.Float64frombits", "math.Float64bits"], apart := false, narrowed := true }
def SessionBreaksUptoSaid : Prop := sessionBreaksUptoRow.holds Try.pinned (OpenSpec.upto sessionBreaksSpec)

/-- 'godownlaw18.SessionNil', WHERE WHAT IT READS IS OF BULK AT MOST 1048576: true; the input reads as it did. -/
def sessionNilUptoRow : OpenClaim := { program := "ytfneikjincmhpaa", sum := "31f36421190b625fe00867709a1e2773c529ed33e7e59374db360f141ed0919b", func := "godown/godownlaw18.SessionNil", spec := "sessionNil", inPlace := ["math.Float64frombits", "math.Float64bits"], apart := false, narrowed := true }
def SessionNilUptoSaid : Prop := sessionNilUptoRow.holds Try.pinned (OpenSpec.upto sessionNilSpec)

end Rows
end Go.Proofs.Ytfneikjincmhpaa
