/-
  NARROWER THAN 'FOR EVERY INPUT', by the rows' own cells (each row's printed sentence says how): RealCanons: laid · RealSums: laid · RealTexts: laid · RealOrder: laid · RealSigns: laid · RealOf: laid · RealMost: laid.
  DERIVED. THE GIVEN ROWS OF THIS SEAT. 7 by the template 'for every input the law returns true; each argument reads behind the call as it read before'; 0 by the template 'total and deterministic' (their statements: YtibnelhbebognaaDoorTotals.lean).
  GIVEN WITH THE SEED: the statements are not yours to turn. If you find one false, say at which input.
  Laid BY PROGRAM, IN A SANDBOX (cutbox-rows.mjs): the forced cells as the released guide's own fill.sh prints them over the translation 598d5ac0eb2b83c9… (all of the seat's roots in one cut). By AI agents, Wed Nov 11 2026. No macro, syntax, notation, axiom, sorry.
-/
import Derived.Test.YtibnelhbebognaaDoorChecked
import GoSem.Claim
import GoSem.ClaimJoined
import GoSem.ClaimMapViews
import Derived.JoinedTies
import Derived.KernelRfl
namespace Go.Proofs.YtibnelhbebognaaDoor
/- THE CELL 'sum', in the pinned program and in every row, IS THE sha256 OF THE DUMP (.gsa) THAT YtibnelhbebognaaDoorProg.lean LOADS. Nothing in Lean hashes anything: it is a label: what it is worth is what the hold of that sum in a sandbox is worth. -/
noncomputable def Tryd.pinned : Pinned := { name := "ytibnelhbebognaadoor", sum := "598d5ac0eb2b83c93f1bdb355fc202da221a9bf52d8465bf39cdc227bfd8dd39", checked := Tryd.checked }
namespace Rows
def none {H : Type} : Left H := { results := [], args := [] }

/- WHAT THE LISTED PACKAGE-LEVEL VARIABLES READ AS WHEN THE CALL BEGINS. Each datum BY PROGRAM (the guide's laid-datum.mjs) off the statement by which the dump's own 'gosem.cut.vars' lays the variable. In a bare row this is a premise. The card (YtibnelhbebognaaDoorCards.lean) ties it to the program's text. -/
def laid_math_bits_deBruijn32tab {H : Type} : DataW H := .agg [.lit (.int .u8 0), .lit (.int .u8 1), .lit (.int .u8 28), .lit (.int .u8 2), .lit (.int .u8 29), .lit (.int .u8 14), .lit (.int .u8 24), .lit (.int .u8 3), .lit (.int .u8 30), .lit (.int .u8 22), .lit (.int .u8 20), .lit (.int .u8 15), .lit (.int .u8 25), .lit (.int .u8 17), .lit (.int .u8 4), .lit (.int .u8 8), .lit (.int .u8 31), .lit (.int .u8 27), .lit (.int .u8 13), .lit (.int .u8 23), .lit (.int .u8 21), .lit (.int .u8 19), .lit (.int .u8 16), .lit (.int .u8 7), .lit (.int .u8 26), .lit (.int .u8 12), .lit (.int .u8 18), .lit (.int .u8 6), .lit (.int .u8 11), .lit (.int .u8 5), .lit (.int .u8 10), .lit (.int .u8 9)]
def laid_math_bits_deBruijn64tab {H : Type} : DataW H := .agg [.lit (.int .u8 0), .lit (.int .u8 1), .lit (.int .u8 56), .lit (.int .u8 2), .lit (.int .u8 57), .lit (.int .u8 49), .lit (.int .u8 28), .lit (.int .u8 3), .lit (.int .u8 61), .lit (.int .u8 58), .lit (.int .u8 42), .lit (.int .u8 50), .lit (.int .u8 38), .lit (.int .u8 29), .lit (.int .u8 17), .lit (.int .u8 4), .lit (.int .u8 62), .lit (.int .u8 47), .lit (.int .u8 59), .lit (.int .u8 36), .lit (.int .u8 45), .lit (.int .u8 43), .lit (.int .u8 51), .lit (.int .u8 22), .lit (.int .u8 53), .lit (.int .u8 39), .lit (.int .u8 33), .lit (.int .u8 30), .lit (.int .u8 24), .lit (.int .u8 18), .lit (.int .u8 12), .lit (.int .u8 5), .lit (.int .u8 63), .lit (.int .u8 55), .lit (.int .u8 48), .lit (.int .u8 27), .lit (.int .u8 60), .lit (.int .u8 41), .lit (.int .u8 37), .lit (.int .u8 16), .lit (.int .u8 46), .lit (.int .u8 35), .lit (.int .u8 44), .lit (.int .u8 21), .lit (.int .u8 52), .lit (.int .u8 32), .lit (.int .u8 23), .lit (.int .u8 11), .lit (.int .u8 54), .lit (.int .u8 26), .lit (.int .u8 40), .lit (.int .u8 15), .lit (.int .u8 34), .lit (.int .u8 20), .lit (.int .u8 31), .lit (.int .u8 10), .lit (.int .u8 25), .lit (.int .u8 14), .lit (.int .u8 19), .lit (.int .u8 9), .lit (.int .u8 13), .lit (.int .u8 8), .lit (.int .u8 7), .lit (.int .u8 6)]
def laid_internal_strconv_uint64pow10 {H : Type} : DataW H := .agg [.lit (.int .u64 1), .lit (.int .u64 10), .lit (.int .u64 100), .lit (.int .u64 1000), .lit (.int .u64 10000), .lit (.int .u64 100000), .lit (.int .u64 1000000), .lit (.int .u64 10000000), .lit (.int .u64 100000000), .lit (.int .u64 1000000000), .lit (.int .u64 10000000000), .lit (.int .u64 100000000000), .lit (.int .u64 1000000000000), .lit (.int .u64 10000000000000), .lit (.int .u64 100000000000000), .lit (.int .u64 1000000000000000), .lit (.int .u64 10000000000000000), .lit (.int .u64 100000000000000000), .lit (.int .u64 1000000000000000000), .lit (.int .u64 10000000000000000000)]

/-- 'godownlaw01.RealCanons': WHATEVER THE INPUT: true; the input reads as it did. -/
def realCanonsSpec : ChangeSpec := { name := "realCanons", fn := fun _ => fun
  | [d] => { results := [.lit (.bool true)], args := [d] }
  | _ => none }
def realCanonsRow : OpenClaim := { program := "ytibnelhbebognaadoor", sum := "598d5ac0eb2b83c93f1bdb355fc202da221a9bf52d8465bf39cdc227bfd8dd39", func := "godown/godownlaw01.RealCanons", spec := "realCanons", inPlace := ["math.Float64frombits", "math.Float64bits", "math.archTrunc"], named := ["internal/strconv.uint64pow10", "math/bits.deBruijn32tab", "math/bits.deBruijn64tab"], apart := false, laid := [("math/bits.deBruijn32tab", laid_math_bits_deBruijn32tab), ("math/bits.deBruijn64tab", laid_math_bits_deBruijn64tab), ("internal/strconv.uint64pow10", laid_internal_strconv_uint64pow10)] }
def RealCanonsSaid : Prop := realCanonsRow.holds Tryd.pinned (OpenSpec.ofChange realCanonsSpec)

/-- ITS FALSE NEIGHBOUR: 'it returns false'. Refute it at one input. -/
def realCanonsWrong : ChangeSpec := { name := "realCanons", fn := fun _ => fun
  | [d] => { results := [.lit (.bool false)], args := [d] }
  | _ => none }
def RealCanonsWrongFalsely : Prop := realCanonsRow.holds Tryd.pinned (OpenSpec.ofChange realCanonsWrong)

/-- 'godownlaw01.RealSums': WHATEVER THE INPUT: true; the input reads as it did. -/
def realSumsSpec : ChangeSpec := { name := "realSums", fn := fun _ => fun
  | [d] => { results := [.lit (.bool true)], args := [d] }
  | _ => none }
def realSumsRow : OpenClaim := { program := "ytibnelhbebognaadoor", sum := "598d5ac0eb2b83c93f1bdb355fc202da221a9bf52d8465bf39cdc227bfd8dd39", func := "godown/godownlaw01.RealSums", spec := "realSums", inPlace := ["math.Float64frombits", "math.Float64bits", "math.archTrunc"], named := ["internal/strconv.uint64pow10", "math/bits.deBruijn32tab", "math/bits.deBruijn64tab"], apart := false, laid := [("math/bits.deBruijn32tab", laid_math_bits_deBruijn32tab), ("math/bits.deBruijn64tab", laid_math_bits_deBruijn64tab), ("internal/strconv.uint64pow10", laid_internal_strconv_uint64pow10)] }
def RealSumsSaid : Prop := realSumsRow.holds Tryd.pinned (OpenSpec.ofChange realSumsSpec)

/-- ITS FALSE NEIGHBOUR: 'it returns false'. Refute it at one input. -/
def realSumsWrong : ChangeSpec := { name := "realSums", fn := fun _ => fun
  | [d] => { results := [.lit (.bool false)], args := [d] }
  | _ => none }
def RealSumsWrongFalsely : Prop := realSumsRow.holds Tryd.pinned (OpenSpec.ofChange realSumsWrong)

/-- 'godownlaw01.RealTexts': WHATEVER THE INPUT: true; the input reads as it did. -/
def realTextsSpec : ChangeSpec := { name := "realTexts", fn := fun _ => fun
  | [d1, d2] => { results := [.lit (.bool true)], args := [d1, d2] }
  | _ => none }
def realTextsRow : OpenClaim := { program := "ytibnelhbebognaadoor", sum := "598d5ac0eb2b83c93f1bdb355fc202da221a9bf52d8465bf39cdc227bfd8dd39", func := "godown/godownlaw01.RealTexts", spec := "realTexts", inPlace := ["math.Float64frombits", "math.Float64bits", "math.archTrunc"], recurses := true, named := ["internal/strconv.uint64pow10", "math/bits.deBruijn32tab", "math/bits.deBruijn64tab"], apart := false, laid := [("math/bits.deBruijn32tab", laid_math_bits_deBruijn32tab), ("math/bits.deBruijn64tab", laid_math_bits_deBruijn64tab), ("internal/strconv.uint64pow10", laid_internal_strconv_uint64pow10)] }
def RealTextsSaid : Prop := realTextsRow.holds Tryd.pinned (OpenSpec.ofChange realTextsSpec)

/-- ITS FALSE NEIGHBOUR: 'it returns false'. Refute it at one input. -/
def realTextsWrong : ChangeSpec := { name := "realTexts", fn := fun _ => fun
  | [d1, d2] => { results := [.lit (.bool false)], args := [d1, d2] }
  | _ => none }
def RealTextsWrongFalsely : Prop := realTextsRow.holds Tryd.pinned (OpenSpec.ofChange realTextsWrong)

/-- 'godownlaw01.RealOrder': WHATEVER THE INPUT: true; the input reads as it did. -/
def realOrderSpec : ChangeSpec := { name := "realOrder", fn := fun _ => fun
  | [d1, d2, d3] => { results := [.lit (.bool true)], args := [d1, d2, d3] }
  | _ => none }
def realOrderRow : OpenClaim := { program := "ytibnelhbebognaadoor", sum := "598d5ac0eb2b83c93f1bdb355fc202da221a9bf52d8465bf39cdc227bfd8dd39", func := "godown/godownlaw01.RealOrder", spec := "realOrder", inPlace := ["math.Float64frombits", "math.Float64bits", "math.archTrunc"], named := ["internal/strconv.uint64pow10", "math/bits.deBruijn32tab", "math/bits.deBruijn64tab"], apart := false, laid := [("math/bits.deBruijn32tab", laid_math_bits_deBruijn32tab), ("math/bits.deBruijn64tab", laid_math_bits_deBruijn64tab), ("internal/strconv.uint64pow10", laid_internal_strconv_uint64pow10)] }
def RealOrderSaid : Prop := realOrderRow.holds Tryd.pinned (OpenSpec.ofChange realOrderSpec)

/-- ITS FALSE NEIGHBOUR: 'it returns false'. Refute it at one input. -/
def realOrderWrong : ChangeSpec := { name := "realOrder", fn := fun _ => fun
  | [d1, d2, d3] => { results := [.lit (.bool false)], args := [d1, d2, d3] }
  | _ => none }
def RealOrderWrongFalsely : Prop := realOrderRow.holds Tryd.pinned (OpenSpec.ofChange realOrderWrong)

/-- 'godownlaw01.RealSigns': WHATEVER THE INPUT: true; the input reads as it did. -/
def realSignsSpec : ChangeSpec := { name := "realSigns", fn := fun _ => fun
  | [d1, d2] => { results := [.lit (.bool true)], args := [d1, d2] }
  | _ => none }
def realSignsRow : OpenClaim := { program := "ytibnelhbebognaadoor", sum := "598d5ac0eb2b83c93f1bdb355fc202da221a9bf52d8465bf39cdc227bfd8dd39", func := "godown/godownlaw01.RealSigns", spec := "realSigns", inPlace := ["math.Float64frombits", "math.Float64bits", "math.archTrunc"], named := ["internal/strconv.uint64pow10", "math/bits.deBruijn32tab", "math/bits.deBruijn64tab"], apart := false, laid := [("math/bits.deBruijn32tab", laid_math_bits_deBruijn32tab), ("math/bits.deBruijn64tab", laid_math_bits_deBruijn64tab), ("internal/strconv.uint64pow10", laid_internal_strconv_uint64pow10)] }
def RealSignsSaid : Prop := realSignsRow.holds Tryd.pinned (OpenSpec.ofChange realSignsSpec)

/-- ITS FALSE NEIGHBOUR: 'it returns false'. Refute it at one input. -/
def realSignsWrong : ChangeSpec := { name := "realSigns", fn := fun _ => fun
  | [d1, d2] => { results := [.lit (.bool false)], args := [d1, d2] }
  | _ => none }
def RealSignsWrongFalsely : Prop := realSignsRow.holds Tryd.pinned (OpenSpec.ofChange realSignsWrong)

/-- 'godownlaw01.RealOf': WHATEVER THE INPUT: true; the input reads as it did. -/
def realOfSpec : ChangeSpec := { name := "realOf", fn := fun _ => fun
  | [d] => { results := [.lit (.bool true)], args := [d] }
  | _ => none }
def realOfRow : OpenClaim := { program := "ytibnelhbebognaadoor", sum := "598d5ac0eb2b83c93f1bdb355fc202da221a9bf52d8465bf39cdc227bfd8dd39", func := "godown/godownlaw01.RealOf", spec := "realOf", inPlace := ["math.Float64frombits", "math.Float64bits", "math.archTrunc"], named := ["internal/strconv.uint64pow10", "math/bits.deBruijn32tab", "math/bits.deBruijn64tab"], apart := false, laid := [("math/bits.deBruijn32tab", laid_math_bits_deBruijn32tab), ("math/bits.deBruijn64tab", laid_math_bits_deBruijn64tab), ("internal/strconv.uint64pow10", laid_internal_strconv_uint64pow10)] }
def RealOfSaid : Prop := realOfRow.holds Tryd.pinned (OpenSpec.ofChange realOfSpec)

/-- ITS FALSE NEIGHBOUR: 'it returns false'. Refute it at one input. -/
def realOfWrong : ChangeSpec := { name := "realOf", fn := fun _ => fun
  | [d] => { results := [.lit (.bool false)], args := [d] }
  | _ => none }
def RealOfWrongFalsely : Prop := realOfRow.holds Tryd.pinned (OpenSpec.ofChange realOfWrong)

/-- 'godownlaw01.RealMost': WHATEVER THE INPUT: true; the input reads as it did. -/
def realMostSpec : ChangeSpec := { name := "realMost", fn := fun _ => fun
  | [d] => { results := [.lit (.bool true)], args := [d] }
  | _ => none }
def realMostRow : OpenClaim := { program := "ytibnelhbebognaadoor", sum := "598d5ac0eb2b83c93f1bdb355fc202da221a9bf52d8465bf39cdc227bfd8dd39", func := "godown/godownlaw01.RealMost", spec := "realMost", inPlace := ["math.Float64frombits", "math.Float64bits", "math.archTrunc"], named := ["internal/strconv.uint64pow10", "math/bits.deBruijn32tab", "math/bits.deBruijn64tab"], apart := false, laid := [("math/bits.deBruijn32tab", laid_math_bits_deBruijn32tab), ("math/bits.deBruijn64tab", laid_math_bits_deBruijn64tab), ("internal/strconv.uint64pow10", laid_internal_strconv_uint64pow10)] }
def RealMostSaid : Prop := realMostRow.holds Tryd.pinned (OpenSpec.ofChange realMostSpec)

/-- ITS FALSE NEIGHBOUR: 'it returns false'. Refute it at one input. -/
def realMostWrong : ChangeSpec := { name := "realMost", fn := fun _ => fun
  | [d] => { results := [.lit (.bool false)], args := [d] }
  | _ => none }
def RealMostWrongFalsely : Prop := realMostRow.holds Tryd.pinned (OpenSpec.ofChange realMostWrong)

/- THE SECOND FORM. 'bulk': how many values and letters a reading holds, each counted each time it is reached (what is shared counts as often as it is met; a slice's spare places count too). A statement '..UptoSaid' is the law's where the arguments, and the package variables that the reading takes, are together of bulk at most 1048576: NARROWER than '..Said'. Prove '..Said' where nothing that the law and all that it calls make is longer than what came in: it says more and counts as full. Else prove '..UptoSaid'. A law counts once. -/
mutual
def uptoBulk {H : Type} : DataW H → Nat
  | .lit (.string bytes) => bytes.length + 1
  | .lit _ => 1
  | .nil => 1
  | .ptr d => uptoBulk d + 1
  | .slice elems spare => uptoBulkAll elems + uptoBulkAll spare + 1
  | .agg parts => uptoBulkAll parts + 1
  | .iface _ d => uptoBulk d + 1
  | .map entries => uptoBulkEntries entries + 1
  | .held _ => 1
def uptoBulkAll {H : Type} : List (DataW H) → Nat
  | [] => 0
  | d :: r => uptoBulk d + uptoBulkAll r
def uptoBulkEntries {H : Type} : List (Lit × DataW H) → Nat
  | [] => 0
  | x :: r => uptoBulkEntry x + uptoBulkEntries r
def uptoBulkEntry {H : Type} : Lit × DataW H → Nat
  | (.string bytes, d) => bytes.length + uptoBulk d + 1
  | (_, d) => uptoBulk d + 1
 end
def uptoSmall : (H : Type) → List (DataW H) → Bool := fun _ ds => decide (uptoBulkAll ds ≤ 1048576)
def OpenSpec.upto (s : _root_.Go.ChangeSpec) : _root_.Go.OpenSpec := { _root_.Go.OpenSpec.ofChange s with cond := some uptoSmall }

/-- 'godownlaw01.RealCanons', WHERE WHAT IT READS IS OF BULK AT MOST 1048576: true; the input reads as it did. -/
def realCanonsUptoRow : OpenClaim := { program := "ytibnelhbebognaadoor", sum := "598d5ac0eb2b83c93f1bdb355fc202da221a9bf52d8465bf39cdc227bfd8dd39", func := "godown/godownlaw01.RealCanons", spec := "realCanons", inPlace := ["math.Float64frombits", "math.Float64bits", "math.archTrunc"], named := ["internal/strconv.uint64pow10", "math/bits.deBruijn32tab", "math/bits.deBruijn64tab"], apart := false, laid := [("math/bits.deBruijn32tab", laid_math_bits_deBruijn32tab), ("math/bits.deBruijn64tab", laid_math_bits_deBruijn64tab), ("internal/strconv.uint64pow10", laid_internal_strconv_uint64pow10)], narrowed := true }
def RealCanonsUptoSaid : Prop := realCanonsUptoRow.holds Tryd.pinned (OpenSpec.upto realCanonsSpec)

/-- 'godownlaw01.RealSums', WHERE WHAT IT READS IS OF BULK AT MOST 1048576: true; the input reads as it did. -/
def realSumsUptoRow : OpenClaim := { program := "ytibnelhbebognaadoor", sum := "598d5ac0eb2b83c93f1bdb355fc202da221a9bf52d8465bf39cdc227bfd8dd39", func := "godown/godownlaw01.RealSums", spec := "realSums", inPlace := ["math.Float64frombits", "math.Float64bits", "math.archTrunc"], named := ["internal/strconv.uint64pow10", "math/bits.deBruijn32tab", "math/bits.deBruijn64tab"], apart := false, laid := [("math/bits.deBruijn32tab", laid_math_bits_deBruijn32tab), ("math/bits.deBruijn64tab", laid_math_bits_deBruijn64tab), ("internal/strconv.uint64pow10", laid_internal_strconv_uint64pow10)], narrowed := true }
def RealSumsUptoSaid : Prop := realSumsUptoRow.holds Tryd.pinned (OpenSpec.upto realSumsSpec)

/-- 'godownlaw01.RealTexts', WHERE WHAT IT READS IS OF BULK AT MOST 1048576: true; the input reads as it did. -/
def realTextsUptoRow : OpenClaim := { program := "ytibnelhbebognaadoor", sum := "598d5ac0eb2b83c93f1bdb355fc202da221a9bf52d8465bf39cdc227bfd8dd39", func := "godown/godownlaw01.RealTexts", spec := "realTexts", inPlace := ["math.Float64frombits", "math.Float64bits", "math.archTrunc"], recurses := true, named := ["internal/strconv.uint64pow10", "math/bits.deBruijn32tab", "math/bits.deBruijn64tab"], apart := false, laid := [("math/bits.deBruijn32tab", laid_math_bits_deBruijn32tab), ("math/bits.deBruijn64tab", laid_math_bits_deBruijn64tab), ("internal/strconv.uint64pow10", laid_internal_strconv_uint64pow10)], narrowed := true }
def RealTextsUptoSaid : Prop := realTextsUptoRow.holds Tryd.pinned (OpenSpec.upto realTextsSpec)

/-- 'godownlaw01.RealOrder', WHERE WHAT IT READS IS OF BULK AT MOST 1048576: true; the input reads as it did. -/
def realOrderUptoRow : OpenClaim := { program := "ytibnelhbebognaadoor", sum := "598d5ac0eb2b83c93f1bdb355fc202da221a9bf52d8465bf39cdc227bfd8dd39", func := "godown/godownlaw01.RealOrder", spec := "realOrder", inPlace := ["math.Float64frombits", "math.Float64bits", "math.archTrunc"], named := ["internal/strconv.uint64pow10", "math/bits.deBruijn32tab", "math/bits.deBruijn64tab"], apart := false, laid := [("math/bits.deBruijn32tab", laid_math_bits_deBruijn32tab), ("math/bits.deBruijn64tab", laid_math_bits_deBruijn64tab), ("internal/strconv.uint64pow10", laid_internal_strconv_uint64pow10)], narrowed := true }
def RealOrderUptoSaid : Prop := realOrderUptoRow.holds Tryd.pinned (OpenSpec.upto realOrderSpec)

/-- 'godownlaw01.RealSigns', WHERE WHAT IT READS IS OF BULK AT MOST 1048576: true; the input reads as it did. -/
def realSignsUptoRow : OpenClaim := { program := "ytibnelhbebognaadoor", sum := "598d5ac0eb2b83c93f1bdb355fc202da221a9bf52d8465bf39cdc227bfd8dd39", func := "godown/godownlaw01.RealSigns", spec := "realSigns", inPlace := ["math.Float64frombits", "math.Float64bits", "math.archTrunc"], named := ["internal/strconv.uint64pow10", "math/bits.deBruijn32tab", "math/bits.deBruijn64tab"], apart := false, laid := [("math/bits.deBruijn32tab", laid_math_bits_deBruijn32tab), ("math/bits.deBruijn64tab", laid_math_bits_deBruijn64tab), ("internal/strconv.uint64pow10", laid_internal_strconv_uint64pow10)], narrowed := true }
def RealSignsUptoSaid : Prop := realSignsUptoRow.holds Tryd.pinned (OpenSpec.upto realSignsSpec)

/-- 'godownlaw01.RealOf', WHERE WHAT IT READS IS OF BULK AT MOST 1048576: true; the input reads as it did. -/
def realOfUptoRow : OpenClaim := { program := "ytibnelhbebognaadoor", sum := "598d5ac0eb2b83c93f1bdb355fc202da221a9bf52d8465bf39cdc227bfd8dd39", func := "godown/godownlaw01.RealOf", spec := "realOf", inPlace := ["math.Float64frombits", "math.Float64bits", "math.archTrunc"], named := ["internal/strconv.uint64pow10", "math/bits.deBruijn32tab", "math/bits.deBruijn64tab"], apart := false, laid := [("math/bits.deBruijn32tab", laid_math_bits_deBruijn32tab), ("math/bits.deBruijn64tab", laid_math_bits_deBruijn64tab), ("internal/strconv.uint64pow10", laid_internal_strconv_uint64pow10)], narrowed := true }
def RealOfUptoSaid : Prop := realOfUptoRow.holds Tryd.pinned (OpenSpec.upto realOfSpec)

/-- 'godownlaw01.RealMost', WHERE WHAT IT READS IS OF BULK AT MOST 1048576: true; the input reads as it did. -/
def realMostUptoRow : OpenClaim := { program := "ytibnelhbebognaadoor", sum := "598d5ac0eb2b83c93f1bdb355fc202da221a9bf52d8465bf39cdc227bfd8dd39", func := "godown/godownlaw01.RealMost", spec := "realMost", inPlace := ["math.Float64frombits", "math.Float64bits", "math.archTrunc"], named := ["internal/strconv.uint64pow10", "math/bits.deBruijn32tab", "math/bits.deBruijn64tab"], apart := false, laid := [("math/bits.deBruijn32tab", laid_math_bits_deBruijn32tab), ("math/bits.deBruijn64tab", laid_math_bits_deBruijn64tab), ("internal/strconv.uint64pow10", laid_internal_strconv_uint64pow10)], narrowed := true }
def RealMostUptoSaid : Prop := realMostUptoRow.holds Tryd.pinned (OpenSpec.upto realMostSpec)

end Rows
end Go.Proofs.YtibnelhbebognaaDoor
