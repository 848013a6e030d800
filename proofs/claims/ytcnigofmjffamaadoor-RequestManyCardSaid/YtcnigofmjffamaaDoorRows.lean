/-
  NARROWER THAN 'FOR EVERY INPUT', by the rows' own cells (each row's printed sentence says how): RequestReads: laid · RequestMany: laid · RequestKinds: laid · RequestFields: laid · RequestBack: laid · RequestTurned: laid · RequestReplies: laid.
  DERIVED. THE GIVEN ROWS OF THIS SEAT. 7 by the template 'for every input the law returns true; each argument reads behind the call as it read before'; 0 by the template 'total and deterministic' (their statements: YtcnigofmjffamaaDoorTotals.lean).
  GIVEN WITH THE SEED: the statements are not yours to turn. If you find one false, say at which input.
  Laid BY PROGRAM, IN A SANDBOX (cutbox-rows.mjs): the forced cells as the released guide's own fill.sh prints them over the translation b39b285547455304… (all of the seat's roots in one cut). By AI agents, Wed Nov 11 2026. No macro, syntax, notation, axiom, sorry.
-/
import Derived.Test.YtcnigofmjffamaaDoorChecked
import GoSem.Claim
import GoSem.ClaimJoined
import GoSem.ClaimMapViews
import Derived.JoinedTies
import Derived.KernelRfl
namespace Go.Proofs.YtcnigofmjffamaaDoor
/- THE CELL 'sum', in the pinned program and in every row, IS THE sha256 OF THE DUMP (.gsa) THAT YtcnigofmjffamaaDoorProg.lean LOADS. Nothing in Lean hashes anything: it is a label: what it is worth is what the hold of that sum in a sandbox is worth. -/
noncomputable def Tryd.pinned : Pinned := { name := "ytcnigofmjffamaadoor", sum := "b39b2855474553043adde9626f07541a5c38813029f971f1e8743ad2cf4b4e9b", checked := Tryd.checked }
namespace Rows
def none {H : Type} : Left H := { results := [], args := [] }

/- WHAT THE LISTED PACKAGE-LEVEL VARIABLES READ AS WHEN THE CALL BEGINS. Each datum BY PROGRAM (the guide's laid-datum.mjs) off the statement by which the dump's own 'gosem.cut.vars' lays the variable. In a bare row this is a premise. The card (YtcnigofmjffamaaDoorCards.lean) ties it to the program's text. -/
def laid_godown_request_names {H : Type} : DataW H := .agg [.lit (.string []), .lit (.string [97, 100, 100]), .lit (.string [118, 97, 108, 105, 100]), .lit (.string [105, 110, 102, 111]), .lit (.string [114, 101, 102, 115]), .lit (.string [114, 101, 102, 101, 114, 114, 101, 114, 115]), .lit (.string [99, 108, 111, 115, 117, 114, 101]), .lit (.string [114, 101, 103, 105, 115, 116, 101, 114]), .lit (.string [114, 111, 111, 116]), .lit (.string [117, 110, 114, 111, 111, 116]), .lit (.string [100, 101, 108, 101, 116, 101]), .lit (.string [99, 111, 108, 108, 101, 99, 116]), .lit (.string [118, 101, 114, 105, 102, 121])]

/-- 'godownlaw11.RequestReads': WHATEVER THE INPUT: true; the input reads as it did. -/
def requestReadsSpec : ChangeSpec := { name := "requestReads", fn := fun _ => fun
  | [d1, d2] => { results := [.lit (.bool true)], args := [d1, d2] }
  | _ => none }
def requestReadsRow : OpenClaim := { program := "ytcnigofmjffamaadoor", sum := "b39b2855474553043adde9626f07541a5c38813029f971f1e8743ad2cf4b4e9b", func := "godown/godownlaw11.RequestReads", spec := "requestReads", unfollowed := true, recurses := true, named := ["godown/request.names"], apart := false, laid := [("godown/request.names", laid_godown_request_names)] }
def RequestReadsSaid : Prop := requestReadsRow.holds Tryd.pinned (OpenSpec.ofChange requestReadsSpec)

/-- ITS FALSE NEIGHBOUR: 'it returns false'. Refute it at one input. -/
def requestReadsWrong : ChangeSpec := { name := "requestReads", fn := fun _ => fun
  | [d1, d2] => { results := [.lit (.bool false)], args := [d1, d2] }
  | _ => none }
def RequestReadsWrongFalsely : Prop := requestReadsRow.holds Tryd.pinned (OpenSpec.ofChange requestReadsWrong)

/-- 'godownlaw11.RequestMany': WHATEVER THE INPUT: true; the input reads as it did. -/
def requestManySpec : ChangeSpec := { name := "requestMany", fn := fun _ => fun
  | [d1, d2, d3, d4] => { results := [.lit (.bool true)], args := [d1, d2, d3, d4] }
  | _ => none }
def requestManyRow : OpenClaim := { program := "ytcnigofmjffamaadoor", sum := "b39b2855474553043adde9626f07541a5c38813029f971f1e8743ad2cf4b4e9b", func := "godown/godownlaw11.RequestMany", spec := "requestMany", unfollowed := true, recurses := true, named := ["godown/request.names"], apart := false, laid := [("godown/request.names", laid_godown_request_names)] }
def RequestManySaid : Prop := requestManyRow.holds Tryd.pinned (OpenSpec.ofChange requestManySpec)

/-- ITS FALSE NEIGHBOUR: 'it returns false'. Refute it at one input. -/
def requestManyWrong : ChangeSpec := { name := "requestMany", fn := fun _ => fun
  | [d1, d2, d3, d4] => { results := [.lit (.bool false)], args := [d1, d2, d3, d4] }
  | _ => none }
def RequestManyWrongFalsely : Prop := requestManyRow.holds Tryd.pinned (OpenSpec.ofChange requestManyWrong)

/-- 'godownlaw11.RequestKinds': WHATEVER THE INPUT: true; the input reads as it did. -/
def requestKindsSpec : ChangeSpec := { name := "requestKinds", fn := fun _ => fun
  | [d] => { results := [.lit (.bool true)], args := [d] }
  | _ => none }
def requestKindsRow : OpenClaim := { program := "ytcnigofmjffamaadoor", sum := "b39b2855474553043adde9626f07541a5c38813029f971f1e8743ad2cf4b4e9b", func := "godown/godownlaw11.RequestKinds", spec := "requestKinds", unfollowed := true, recurses := true, named := ["godown/request.names"], apart := false, laid := [("godown/request.names", laid_godown_request_names)] }
def RequestKindsSaid : Prop := requestKindsRow.holds Tryd.pinned (OpenSpec.ofChange requestKindsSpec)

/-- ITS FALSE NEIGHBOUR: 'it returns false'. Refute it at one input. -/
def requestKindsWrong : ChangeSpec := { name := "requestKinds", fn := fun _ => fun
  | [d] => { results := [.lit (.bool false)], args := [d] }
  | _ => none }
def RequestKindsWrongFalsely : Prop := requestKindsRow.holds Tryd.pinned (OpenSpec.ofChange requestKindsWrong)

/-- 'godownlaw11.RequestFields': WHATEVER THE INPUT: true; the input reads as it did. -/
def requestFieldsSpec : ChangeSpec := { name := "requestFields", fn := fun _ => fun
  | [d1, d2, d3, d4] => { results := [.lit (.bool true)], args := [d1, d2, d3, d4] }
  | _ => none }
def requestFieldsRow : OpenClaim := { program := "ytcnigofmjffamaadoor", sum := "b39b2855474553043adde9626f07541a5c38813029f971f1e8743ad2cf4b4e9b", func := "godown/godownlaw11.RequestFields", spec := "requestFields", unfollowed := true, recurses := true, named := ["godown/request.names"], apart := false, laid := [("godown/request.names", laid_godown_request_names)] }
def RequestFieldsSaid : Prop := requestFieldsRow.holds Tryd.pinned (OpenSpec.ofChange requestFieldsSpec)

/-- ITS FALSE NEIGHBOUR: 'it returns false'. Refute it at one input. -/
def requestFieldsWrong : ChangeSpec := { name := "requestFields", fn := fun _ => fun
  | [d1, d2, d3, d4] => { results := [.lit (.bool false)], args := [d1, d2, d3, d4] }
  | _ => none }
def RequestFieldsWrongFalsely : Prop := requestFieldsRow.holds Tryd.pinned (OpenSpec.ofChange requestFieldsWrong)

/-- 'godownlaw11.RequestBack': WHATEVER THE INPUT: true; the input reads as it did. -/
def requestBackSpec : ChangeSpec := { name := "requestBack", fn := fun _ => fun
  | [d1, d2, d3] => { results := [.lit (.bool true)], args := [d1, d2, d3] }
  | _ => none }
def requestBackRow : OpenClaim := { program := "ytcnigofmjffamaadoor", sum := "b39b2855474553043adde9626f07541a5c38813029f971f1e8743ad2cf4b4e9b", func := "godown/godownlaw11.RequestBack", spec := "requestBack", inPlace := ["math.Float64bits"], unfollowed := true, recurses := true, named := ["godown/request.names"], apart := false, laid := [("godown/request.names", laid_godown_request_names)] }
def RequestBackSaid : Prop := requestBackRow.holds Tryd.pinned (OpenSpec.ofChange requestBackSpec)

/-- ITS FALSE NEIGHBOUR: 'it returns false'. Refute it at one input. -/
def requestBackWrong : ChangeSpec := { name := "requestBack", fn := fun _ => fun
  | [d1, d2, d3] => { results := [.lit (.bool false)], args := [d1, d2, d3] }
  | _ => none }
def RequestBackWrongFalsely : Prop := requestBackRow.holds Tryd.pinned (OpenSpec.ofChange requestBackWrong)

/-- 'godownlaw11.RequestTurned': WHATEVER THE INPUT: true; the input reads as it did. -/
def requestTurnedSpec : ChangeSpec := { name := "requestTurned", fn := fun _ => fun
  | [d1, d2, d3, d4, d5, d6] => { results := [.lit (.bool true)], args := [d1, d2, d3, d4, d5, d6] }
  | _ => none }
def requestTurnedRow : OpenClaim := { program := "ytcnigofmjffamaadoor", sum := "b39b2855474553043adde9626f07541a5c38813029f971f1e8743ad2cf4b4e9b", func := "godown/godownlaw11.RequestTurned", spec := "requestTurned", inPlace := ["math.Float64bits"], unfollowed := true, recurses := true, named := ["godown/request.names"], apart := false, laid := [("godown/request.names", laid_godown_request_names)] }
def RequestTurnedSaid : Prop := requestTurnedRow.holds Tryd.pinned (OpenSpec.ofChange requestTurnedSpec)

/-- ITS FALSE NEIGHBOUR: 'it returns false'. Refute it at one input. -/
def requestTurnedWrong : ChangeSpec := { name := "requestTurned", fn := fun _ => fun
  | [d1, d2, d3, d4, d5, d6] => { results := [.lit (.bool false)], args := [d1, d2, d3, d4, d5, d6] }
  | _ => none }
def RequestTurnedWrongFalsely : Prop := requestTurnedRow.holds Tryd.pinned (OpenSpec.ofChange requestTurnedWrong)

/-- 'godownlaw11.RequestReplies': WHATEVER THE INPUT: true; the input reads as it did. -/
def requestRepliesSpec : ChangeSpec := { name := "requestReplies", fn := fun _ => fun
  | [d1, d2, d3, d4, d5, d6, d7] => { results := [.lit (.bool true)], args := [d1, d2, d3, d4, d5, d6, d7] }
  | _ => none }
def requestRepliesRow : OpenClaim := { program := "ytcnigofmjffamaadoor", sum := "b39b2855474553043adde9626f07541a5c38813029f971f1e8743ad2cf4b4e9b", func := "godown/godownlaw11.RequestReplies", spec := "requestReplies", inPlace := ["math.Float64frombits", "math.Float64bits"], unfollowed := true, recurses := true, named := ["godown/request.names"], apart := false, laid := [("godown/request.names", laid_godown_request_names)] }
def RequestRepliesSaid : Prop := requestRepliesRow.holds Tryd.pinned (OpenSpec.ofChange requestRepliesSpec)

/-- ITS FALSE NEIGHBOUR: 'it returns false'. Refute it at one input. -/
def requestRepliesWrong : ChangeSpec := { name := "requestReplies", fn := fun _ => fun
  | [d1, d2, d3, d4, d5, d6, d7] => { results := [.lit (.bool false)], args := [d1, d2, d3, d4, d5, d6, d7] }
  | _ => none }
def RequestRepliesWrongFalsely : Prop := requestRepliesRow.holds Tryd.pinned (OpenSpec.ofChange requestRepliesWrong)

/- THE SECOND FORM. 'bulk': how many values and letters a reading holds, each counted each time it is reached (what is shared counts as often as it is met; a slice's spare places count too). A statement '..UptoSaid' is the law's where the arguments, and the package variables that the reading takes, are together of bulk at most 1048576: NARROWER than '..Said'. Prove '..Said' where nothing that the law and all that it calls make is longer than what came in: it says more and counts as full. Else prove '..UptoSaid'. A law counts once. -/
mutual
def uptoBulk {H : Type} : DataW H → Nat
  | .lit (.string bytes) => bytes.length + 1
  | .lit _ => 1
  | .nil => 1
  | .ptr d => uptoBulk d + 1
  | .slice elems spare => uptoBulkAll elems + uptoBulkAll spare + 1
  | .agg parts => uptoBulkAll parts + 1
  | .iface _ d => uptoBulk d + 1
  | .map entries => uptoBulkEntries entries + 1
  | .held _ => 1
def uptoBulkAll {H : Type} : List (DataW H) → Nat
  | [] => 0
  | d :: r => uptoBulk d + uptoBulkAll r
def uptoBulkEntries {H : Type} : List (Lit × DataW H) → Nat
  | [] => 0
  | x :: r => uptoBulkEntry x + uptoBulkEntries r
def uptoBulkEntry {H : Type} : Lit × DataW H → Nat
  | (.string bytes, d) => bytes.length + uptoBulk d + 1
  | (_, d) => uptoBulk d + 1
 end
def uptoSmall : (H : Type) → List (DataW H) → Bool := fun _ ds => decide (uptoBulkAll ds ≤ 1048576)
def OpenSpec.upto (s : _root_.Go.ChangeSpec) : _root_.Go.OpenSpec := { _root_.Go.OpenSpec.ofChange s with cond := some uptoSmall }

/-- 'godownlaw11.RequestReads', WHERE WHAT IT READS IS OF BULK AT MOST 1048576: true; the input reads as it did. -/
def requestReadsUptoRow : OpenClaim := { program := "ytcnigofmjffamaadoor", sum := "b39b2855474553043adde9626f07541a5c38813029f971f1e8743ad2cf4b4e9b", func := "godown/godownlaw11.RequestReads", spec := "requestReads", unfollowed := true, recurses := true, named := ["godown/request.names"], apart := false, laid := [("godown/request.names", laid_godown_request_names)], narrowed := true }
def RequestReadsUptoSaid : Prop := requestReadsUptoRow.holds Tryd.pinned (OpenSpec.upto requestReadsSpec)

/-- 'godownlaw11.RequestMany', WHERE WHAT IT READS IS OF BULK AT MOST 1048576: true; the input reads as it did. -/
def requestManyUptoRow : OpenClaim := { program := "ytcnigofmjffamaadoor", sum := "b39b2855474553043adde9626f07541a5c38813029f971f1e8743ad2cf4b4e9b", func := "godown/godownlaw11.RequestMany", spec := "requestMany", unfollowed := true, recurses := true, named := ["godown/request.names"], apart := false, laid := [("godown/request.names", laid_godown_request_names)], narrowed := true }
def RequestManyUptoSaid : Prop := requestManyUptoRow.holds Tryd.pinned (OpenSpec.upto requestManySpec)

/-- 'godownlaw11.RequestKinds', WHERE WHAT IT READS IS OF BULK AT MOST 1048576: true; the input reads as it did. -/
def requestKindsUptoRow : OpenClaim := { program := "ytcnigofmjffamaadoor", sum := "b39b2855474553043adde9626f07541a5c38813029f971f1e8743ad2cf4b4e9b", func := "godown/godownlaw11.RequestKinds", spec := "requestKinds", unfollowed := true, recurses := true, named := ["godown/request.names"], apart := false, laid := [("godown/request.names", laid_godown_request_names)], narrowed := true }
def RequestKindsUptoSaid : Prop := requestKindsUptoRow.holds Tryd.pinned (OpenSpec.upto requestKindsSpec)

/-- 'godownlaw11.RequestFields', WHERE WHAT IT READS IS OF BULK AT MOST 1048576: true; the input reads as it did. -/
def requestFieldsUptoRow : OpenClaim := { program := "ytcnigofmjffamaadoor", sum := "b39b2855474553043adde9626f07541a5c38813029f971f1e8743ad2cf4b4e9b", func := "godown/godownlaw11.RequestFields", spec := "requestFields", unfollowed := true, recurses := true, named := ["godown/request.names"], apart := false, laid := [("godown/request.names", laid_godown_request_names)], narrowed := true }
def RequestFieldsUptoSaid : Prop := requestFieldsUptoRow.holds Tryd.pinned (OpenSpec.upto requestFieldsSpec)

/-- 'godownlaw11.RequestBack', WHERE WHAT IT READS IS OF BULK AT MOST 1048576: true; the input reads as it did. -/
def requestBackUptoRow : OpenClaim := { program := "ytcnigofmjffamaadoor", sum := "b39b2855474553043adde9626f07541a5c38813029f971f1e8743ad2cf4b4e9b", func := "godown/godownlaw11.RequestBack", spec := "requestBack", inPlace := ["math.Float64bits"], unfollowed := true, recurses := true, named := ["godown/request.names"], apart := false, laid := [("godown/request.names", laid_godown_request_names)], narrowed := true }
def RequestBackUptoSaid : Prop := requestBackUptoRow.holds Tryd.pinned (OpenSpec.upto requestBackSpec)

/-- 'godownlaw11.RequestTurned', WHERE WHAT IT READS IS OF BULK AT MOST 1048576: true; the input reads as it did. -/
def requestTurnedUptoRow : OpenClaim := { program := "ytcnigofmjffamaadoor", sum := "b39b2855474553043adde9626f07541a5c38813029f971f1e8743ad2cf4b4e9b", func := "godown/godownlaw11.RequestTurned", spec := "requestTurned", inPlace := ["math.Float64bits"], unfollowed := true, recurses := true, named := ["godown/request.names"], apart := false, laid := [("godown/request.names", laid_godown_request_names)], narrowed := true }
def RequestTurnedUptoSaid : Prop := requestTurnedUptoRow.holds Tryd.pinned (OpenSpec.upto requestTurnedSpec)

/-- 'godownlaw11.RequestReplies', WHERE WHAT IT READS IS OF BULK AT MOST 1048576: true; the input reads as it did. -/
def requestRepliesUptoRow : OpenClaim := { program := "ytcnigofmjffamaadoor", sum := "b39b2855474553043adde9626f07541a5c38813029f971f1e8743ad2cf4b4e9b", func := "godown/godownlaw11.RequestReplies", spec := "requestReplies", inPlace := ["math.Float64frombits", "math.Float64bits"], unfollowed := true, recurses := true, named := ["godown/request.names"], apart := false, laid := [("godown/request.names", laid_godown_request_names)], narrowed := true }
def RequestRepliesUptoSaid : Prop := requestRepliesUptoRow.holds Tryd.pinned (OpenSpec.upto requestRepliesSpec)

end Rows
end Go.Proofs.YtcnigofmjffamaaDoor
