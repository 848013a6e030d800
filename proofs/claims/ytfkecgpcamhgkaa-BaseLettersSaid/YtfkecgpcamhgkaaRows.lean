/-
  No cell of these rows narrows 'for every input' (looked for: loops, veiled, ifaces, maps, wideKeys, modest, calm, conditions, laid).
  DERIVED. THE GIVEN ROWS OF THIS SEAT. 6 by the template 'for every input the law returns true; each argument reads behind the call as it read before'; 0 by the template 'total and deterministic' (their statements: YtfkecgpcamhgkaaTotals.lean).
  GIVEN WITH THE SEED: the statements are not yours to turn. If you find one false, say at which input.
  Laid BY PROGRAM, IN A SANDBOX (cutbox-rows.mjs): the forced cells as the released guide's own fill.sh prints them over the translation 9d5fe0c7ff085378… (all of the seat's roots in one cut). By AI agents, Wed Nov 11 2026. No macro, syntax, notation, axiom, sorry.
-/
import Derived.Test.YtfkecgpcamhgkaaChecked
import GoSem.Claim
import GoSem.ClaimJoined
import GoSem.ClaimMapViews
import Derived.JoinedTies
import Derived.KernelRfl
namespace Go.Proofs.Ytfkecgpcamhgkaa
/- THE CELL 'sum', in the pinned program and in every row, IS THE sha256 OF THE DUMP (.gsa) THAT YtfkecgpcamhgkaaProg.lean LOADS. Nothing in Lean hashes anything: it is a label: what it is worth is what the hold of that sum in a sandbox is worth. -/
noncomputable def Try.pinned : Pinned := { name := "ytfkecgpcamhgkaa", sum := "9d5fe0c7ff085378e54c3bc0739571ef727e10fb37dea38af374cda71dfb7f4c", checked := Try.checked }
namespace Rows
def none {H : Type} : Left H := { results := [], args := [] }

/-- 'godownlaw03.BaseBack': WHATEVER THE INPUT: true; the input reads as it did. -/
def baseBackSpec : ChangeSpec := { name := "baseBack", fn := fun _ => fun
  | [d] => { results := [.lit (.bool true)], args := [d] }
  | _ => none }
def baseBackRow : OpenClaim := { program := "ytfkecgpcamhgkaa", sum := "9d5fe0c7ff085378e54c3bc0739571ef727e10fb37dea38af374cda71dfb7f4c", func := "godown/godownlaw03.BaseBack", spec := "baseBack", inPlace := ["internal/bytealg.IndexByteString", "internal/abi.NoEscape"], apart := false }
def BaseBackSaid : Prop := baseBackRow.holds Try.pinned (OpenSpec.ofChange baseBackSpec)

/-- ITS FALSE NEIGHBOUR: 'it returns false'. Refute it at one input. -/
def baseBackWrong : ChangeSpec := { name := "baseBack", fn := fun _ => fun
  | [d] => { results := [.lit (.bool false)], args := [d] }
  | _ => none }
def BaseBackWrongFalsely : Prop := baseBackRow.holds Try.pinned (OpenSpec.ofChange baseBackWrong)

/-- 'godownlaw03.BaseReads': WHATEVER THE INPUT: true; the input reads as it did. -/
def baseReadsSpec : ChangeSpec := { name := "baseReads", fn := fun _ => fun
  | [d] => { results := [.lit (.bool true)], args := [d] }
  | _ => none }
def baseReadsRow : OpenClaim := { program := "ytfkecgpcamhgkaa", sum := "9d5fe0c7ff085378e54c3bc0739571ef727e10fb37dea38af374cda71dfb7f4c", func := "godown/godownlaw03.BaseReads", spec := "baseReads", inPlace := ["internal/bytealg.IndexByteString", "internal/abi.NoEscape"], apart := false }
def BaseReadsSaid : Prop := baseReadsRow.holds Try.pinned (OpenSpec.ofChange baseReadsSpec)

/-- ITS FALSE NEIGHBOUR: 'it returns false'. Refute it at one input. -/
def baseReadsWrong : ChangeSpec := { name := "baseReads", fn := fun _ => fun
  | [d] => { results := [.lit (.bool false)], args := [d] }
  | _ => none }
def BaseReadsWrongFalsely : Prop := baseReadsRow.holds Try.pinned (OpenSpec.ofChange baseReadsWrong)

/-- 'godownlaw03.BaseLetters': WHATEVER THE INPUT: true; the input reads as it did. -/
def baseLettersSpec : ChangeSpec := { name := "baseLetters", fn := fun _ => fun
  | [d1, d2] => { results := [.lit (.bool true)], args := [d1, d2] }
  | _ => none }
def baseLettersRow : OpenClaim := { program := "ytfkecgpcamhgkaa", sum := "9d5fe0c7ff085378e54c3bc0739571ef727e10fb37dea38af374cda71dfb7f4c", func := "godown/godownlaw03.BaseLetters", spec := "baseLetters", inPlace := ["internal/bytealg.IndexByteString", "internal/abi.NoEscape"], apart := false }
def BaseLettersSaid : Prop := baseLettersRow.holds Try.pinned (OpenSpec.ofChange baseLettersSpec)

/-- ITS FALSE NEIGHBOUR: 'it returns false'. Refute it at one input. -/
def baseLettersWrong : ChangeSpec := { name := "baseLetters", fn := fun _ => fun
  | [d1, d2] => { results := [.lit (.bool false)], args := [d1, d2] }
  | _ => none }
def BaseLettersWrongFalsely : Prop := baseLettersRow.holds Try.pinned (OpenSpec.ofChange baseLettersWrong)

/-- 'godownlaw03.BaseTurned': WHATEVER THE INPUT: true; the input reads as it did. -/
def baseTurnedSpec : ChangeSpec := { name := "baseTurned", fn := fun _ => fun
  | [d1, d2, d3] => { results := [.lit (.bool true)], args := [d1, d2, d3] }
  | _ => none }
def baseTurnedRow : OpenClaim := { program := "ytfkecgpcamhgkaa", sum := "9d5fe0c7ff085378e54c3bc0739571ef727e10fb37dea38af374cda71dfb7f4c", func := "godown/godownlaw03.BaseTurned", spec := "baseTurned", inPlace := ["internal/bytealg.IndexByteString", "internal/abi.NoEscape"], apart := false }
def BaseTurnedSaid : Prop := baseTurnedRow.holds Try.pinned (OpenSpec.ofChange baseTurnedSpec)

/-- ITS FALSE NEIGHBOUR: 'it returns false'. Refute it at one input. -/
def baseTurnedWrong : ChangeSpec := { name := "baseTurned", fn := fun _ => fun
  | [d1, d2, d3] => { results := [.lit (.bool false)], args := [d1, d2, d3] }
  | _ => none }
def BaseTurnedWrongFalsely : Prop := baseTurnedRow.holds Try.pinned (OpenSpec.ofChange baseTurnedWrong)

/-- 'godownlaw03.BaseLens': WHATEVER THE INPUT: true; the input reads as it did. -/
def baseLensSpec : ChangeSpec := { name := "baseLens", fn := fun _ => fun
  | [d] => { results := [.lit (.bool true)], args := [d] }
  | _ => none }
def baseLensRow : OpenClaim := { program := "ytfkecgpcamhgkaa", sum := "9d5fe0c7ff085378e54c3bc0739571ef727e10fb37dea38af374cda71dfb7f4c", func := "godown/godownlaw03.BaseLens", spec := "baseLens", inPlace := ["internal/bytealg.IndexByteString", "internal/abi.NoEscape"], apart := false }
def BaseLensSaid : Prop := baseLensRow.holds Try.pinned (OpenSpec.ofChange baseLensSpec)

/-- ITS FALSE NEIGHBOUR: 'it returns false'. Refute it at one input. -/
def baseLensWrong : ChangeSpec := { name := "baseLens", fn := fun _ => fun
  | [d] => { results := [.lit (.bool false)], args := [d] }
  | _ => none }
def BaseLensWrongFalsely : Prop := baseLensRow.holds Try.pinned (OpenSpec.ofChange baseLensWrong)

/-- 'godownlaw03.BaseJoins': WHATEVER THE INPUT: true; the input reads as it did. -/
def baseJoinsSpec : ChangeSpec := { name := "baseJoins", fn := fun _ => fun
  | [d1, d2] => { results := [.lit (.bool true)], args := [d1, d2] }
  | _ => none }
def baseJoinsRow : OpenClaim := { program := "ytfkecgpcamhgkaa", sum := "9d5fe0c7ff085378e54c3bc0739571ef727e10fb37dea38af374cda71dfb7f4c", func := "godown/godownlaw03.BaseJoins", spec := "baseJoins", inPlace := ["internal/bytealg.IndexByteString", "internal/abi.NoEscape"], apart := false }
def BaseJoinsSaid : Prop := baseJoinsRow.holds Try.pinned (OpenSpec.ofChange baseJoinsSpec)

/-- ITS FALSE NEIGHBOUR: 'it returns false'. Refute it at one input. -/
def baseJoinsWrong : ChangeSpec := { name := "baseJoins", fn := fun _ => fun
  | [d1, d2] => { results := [.lit (.bool false)], args := [d1, d2] }
  | _ => none }
def BaseJoinsWrongFalsely : Prop := baseJoinsRow.holds Try.pinned (OpenSpec.ofChange baseJoinsWrong)

/- THE SECOND FORM. 'bulk': how many values and letters a reading holds, each counted each time it is reached (what is shared counts as often as it is met; a slice's spare places count too). A statement '..UptoSaid' is the law's where the arguments, and the package variables that the reading takes, are together of bulk at most 1048576: NARROWER than '..Said'. Prove '..Said' where nothing that the law and all that it calls make is longer than what came in: it says more and counts as full. Else prove '..UptoSaid'. A law counts once. -/
mutual
def uptoBulk {H : Type} : DataW H → Nat
  | .lit (.string bytes) => bytes.length + 1
  | .lit _ => 1
  | .nil => 1
  | .ptr d => uptoBulk d + 1
  | .slice elems spare => uptoBulkAll elems + uptoBulkAll spare + 1
  | .agg parts => uptoBulkAll parts + 1
  | .iface _ d => uptoBulk d + 1
  | .map entries => uptoBulkEntries entries + 1
  | .held _ => 1
def uptoBulkAll {H : Type} : List (DataW H) → Nat
  | [] => 0
  | d :: r => uptoBulk d + uptoBulkAll r
def uptoBulkEntries {H : Type} : List (Lit × DataW H) → Nat
  | [] => 0
  | x :: r => uptoBulkEntry x + uptoBulkEntries r
def uptoBulkEntry {H : Type} : Lit × DataW H → Nat
  | (.string bytes, d) => bytes.length + uptoBulk d + 1
  | (_, d) => uptoBulk d + 1
 end
def uptoSmall : (H : Type) → List (DataW H) → Bool := fun _ ds => decide (uptoBulkAll ds ≤ 1048576)
def OpenSpec.upto (s : _root_.Go.ChangeSpec) : _root_.Go.OpenSpec := { _root_.Go.OpenSpec.ofChange s with cond := some uptoSmall }

/-- 'godownlaw03.BaseBack', WHERE WHAT IT READS IS OF BULK AT MOST 1048576: true; the input reads as it did. -/
def baseBackUptoRow : OpenClaim := { program := "ytfkecgpcamhgkaa", sum := "9d5fe0c7ff085378e54c3bc0739571ef727e10fb37dea38af374cda71dfb7f4c", func := "godown/godownlaw03.BaseBack", spec := "baseBack", inPlace := ["internal/bytealg.IndexByteString", "internal/abi.NoEscape"], apart := false, narrowed := true }
def BaseBackUptoSaid : Prop := baseBackUptoRow.holds Try.pinned (OpenSpec.upto baseBackSpec)

/-- 'godownlaw03.BaseReads', WHERE WHAT IT READS IS OF BULK AT MOST 1048576: true; the input reads as it did. -/
def baseReadsUptoRow : OpenClaim := { program := "ytfkecgpcamhgkaa", sum := "9d5fe0c7ff085378e54c3bc0739571ef727e10fb37dea38af374cda71dfb7f4c", func := "godown/godownlaw03.BaseReads", spec := "baseReads", inPlace := ["internal/bytealg.IndexByteString", "internal/abi.NoEscape"], apart := false, narrowed := true }
def BaseReadsUptoSaid : Prop := baseReadsUptoRow.holds Try.pinned (OpenSpec.upto baseReadsSpec)

/-- 'godownlaw03.BaseLetters', WHERE WHAT IT READS IS OF BULK AT MOST 1048576: true; the input reads as it did. -/
def baseLettersUptoRow : OpenClaim := { program := "ytfkecgpcamhgkaa", sum := "9d5fe0c7ff085378e54c3bc0739571ef727e10fb37dea38af374cda71dfb7f4c", func := "godown/godownlaw03.BaseLetters", spec := "baseLetters", inPlace := ["internal/bytealg.IndexByteString", "internal/abi.NoEscape"], apart := false, narrowed := true }
def BaseLettersUptoSaid : Prop := baseLettersUptoRow.holds Try.pinned (OpenSpec.upto baseLettersSpec)

/-- 'godownlaw03.BaseTurned', WHERE WHAT IT READS IS OF BULK AT MOST 1048576: true; the input reads as it did. -/
def baseTurnedUptoRow : OpenClaim := { program := "ytfkecgpcamhgkaa", sum := "9d5fe0c7ff085378e54c3bc0739571ef727e10fb37dea38af374cda71dfb7f4c", func := "godown/godownlaw03.BaseTurned", spec := "baseTurned", inPlace := ["internal/bytealg.IndexByteString", "internal/abi.NoEscape"], apart := false, narrowed := true }
def BaseTurnedUptoSaid : Prop := baseTurnedUptoRow.holds Try.pinned (OpenSpec.upto baseTurnedSpec)

/-- 'godownlaw03.BaseLens', WHERE WHAT IT READS IS OF BULK AT MOST 1048576: true; the input reads as it did. -/
def baseLensUptoRow : OpenClaim := { program := "ytfkecgpcamhgkaa", sum := "9d5fe0c7ff085378e54c3bc0739571ef727e10fb37dea38af374cda71dfb7f4c", func := "godown/godownlaw03.BaseLens", spec := "baseLens", inPlace := ["internal/bytealg.IndexByteString", "internal/abi.NoEscape"], apart := false, narrowed := true }
def BaseLensUptoSaid : Prop := baseLensUptoRow.holds Try.pinned (OpenSpec.upto baseLensSpec)

/-- 'godownlaw03.BaseJoins', WHERE WHAT IT READS IS OF BULK AT MOST 1048576: true; the input reads as it did. -/
def baseJoinsUptoRow : OpenClaim := { program := "ytfkecgpcamhgkaa", sum := "9d5fe0c7ff085378e54c3bc0739571ef727e10fb37dea38af374cda71dfb7f4c", func := "godown/godownlaw03.BaseJoins", spec := "baseJoins", inPlace := ["internal/bytealg.IndexByteString", "internal/abi.NoEscape"], apart := false, narrowed := true }
def BaseJoinsUptoSaid : Prop := baseJoinsUptoRow.holds Try.pinned (OpenSpec.upto baseJoinsSpec)

end Rows
end Go.Proofs.Ytfkecgpcamhgkaa
