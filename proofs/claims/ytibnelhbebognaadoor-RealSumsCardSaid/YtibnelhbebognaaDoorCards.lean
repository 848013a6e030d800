/-
  DERIVED. GIVEN WITH THE SEED: THE CARDS: each row of YtibnelhbebognaaDoorRows.lean that lists a variable, with what it lists TIED to the program's text (the seventh form; the later family's looks); each row that meets fmt, with fmt's text TOLD by the authors' own Lean function (tested against real Go, not proved from fmt's source: count such statements apart). THE CARD IS WHAT COUNTS. Prove the row's statement (the work); the ties are given (YtibnelhbebognaaDoorTie.lean); close each card by the builder's one call (the guide's Derived/Test/ToyasCard.lean, 'card_holds'). Laid BY PROGRAM, IN A SANDBOX (cutbox-door.mjs). By AI agents, Wed Nov 11 2026. No macro, syntax, notation, axiom, sorry.
-/
import Derived.Test.YtibnelhbebognaaDoorRows
import GoSem.ClaimSeven
namespace Go.Proofs.YtibnelhbebognaaDoor
namespace Rows

/-- THE TIED CARD OF 'godownlaw01.RealCanons'. -/
def realCanonsCard : Claim7 := { stood := { row := realCanonsRow, standIns := [], harness := (true, "9bc3f356550ab29dcca8c0dd35c6506808599b9c3c5546b1d6a6f9e4006d2075"), looks := false }, kinds := [], alts := [], laidByText := true, laidKinds := [.data, .data, .data], laidTests := true, laidLooks := .later }
def RealCanonsCardSaid : Prop := Claim7.holds Tryd.pinned (.plain (OpenSpec.ofChange realCanonsSpec)) realCanonsCard

/-- THE TIED CARD OF 'godownlaw01.RealSums'. -/
def realSumsCard : Claim7 := { stood := { row := realSumsRow, standIns := [], harness := (true, "9bc3f356550ab29dcca8c0dd35c6506808599b9c3c5546b1d6a6f9e4006d2075"), looks := false }, kinds := [], alts := [], laidByText := true, laidKinds := [.data, .data, .data], laidTests := true, laidLooks := .later }
def RealSumsCardSaid : Prop := Claim7.holds Tryd.pinned (.plain (OpenSpec.ofChange realSumsSpec)) realSumsCard

/-- THE TIED CARD OF 'godownlaw01.RealTexts'. -/
def realTextsCard : Claim7 := { stood := { row := realTextsRow, standIns := [], harness := (true, "9bc3f356550ab29dcca8c0dd35c6506808599b9c3c5546b1d6a6f9e4006d2075"), looks := false }, kinds := [], alts := [], laidByText := true, laidKinds := [.data, .data, .data], laidTests := true, laidLooks := .later }
def RealTextsCardSaid : Prop := Claim7.holds Tryd.pinned (.plain (OpenSpec.ofChange realTextsSpec)) realTextsCard

/-- THE TIED CARD OF 'godownlaw01.RealOrder'. -/
def realOrderCard : Claim7 := { stood := { row := realOrderRow, standIns := [], harness := (true, "9bc3f356550ab29dcca8c0dd35c6506808599b9c3c5546b1d6a6f9e4006d2075"), looks := false }, kinds := [], alts := [], laidByText := true, laidKinds := [.data, .data, .data], laidTests := true, laidLooks := .later }
def RealOrderCardSaid : Prop := Claim7.holds Tryd.pinned (.plain (OpenSpec.ofChange realOrderSpec)) realOrderCard

/-- THE TIED CARD OF 'godownlaw01.RealSigns'. -/
def realSignsCard : Claim7 := { stood := { row := realSignsRow, standIns := [], harness := (true, "9bc3f356550ab29dcca8c0dd35c6506808599b9c3c5546b1d6a6f9e4006d2075"), looks := false }, kinds := [], alts := [], laidByText := true, laidKinds := [.data, .data, .data], laidTests := true, laidLooks := .later }
def RealSignsCardSaid : Prop := Claim7.holds Tryd.pinned (.plain (OpenSpec.ofChange realSignsSpec)) realSignsCard

/-- THE TIED CARD OF 'godownlaw01.RealOf'. -/
def realOfCard : Claim7 := { stood := { row := realOfRow, standIns := [], harness := (true, "9bc3f356550ab29dcca8c0dd35c6506808599b9c3c5546b1d6a6f9e4006d2075"), looks := false }, kinds := [], alts := [], laidByText := true, laidKinds := [.data, .data, .data], laidTests := true, laidLooks := .later }
def RealOfCardSaid : Prop := Claim7.holds Tryd.pinned (.plain (OpenSpec.ofChange realOfSpec)) realOfCard

/-- THE TIED CARD OF 'godownlaw01.RealMost'. -/
def realMostCard : Claim7 := { stood := { row := realMostRow, standIns := [], harness := (true, "9bc3f356550ab29dcca8c0dd35c6506808599b9c3c5546b1d6a6f9e4006d2075"), looks := false }, kinds := [], alts := [], laidByText := true, laidKinds := [.data, .data, .data], laidTests := true, laidLooks := .later }
def RealMostCardSaid : Prop := Claim7.holds Tryd.pinned (.plain (OpenSpec.ofChange realMostSpec)) realMostCard

/-- THE SECOND FORM's CARD OF 'godownlaw01.RealCanons'. -/
def realCanonsUptoCard : Claim7 := { stood := { row := realCanonsUptoRow, standIns := [], harness := (true, "9bc3f356550ab29dcca8c0dd35c6506808599b9c3c5546b1d6a6f9e4006d2075"), looks := false }, kinds := [], alts := [], laidByText := true, laidKinds := [.data, .data, .data], laidTests := true, laidLooks := .later }
def RealCanonsUptoCardSaid : Prop := Claim7.holds Tryd.pinned (.plain (OpenSpec.upto realCanonsSpec)) realCanonsUptoCard

/-- THE SECOND FORM's CARD OF 'godownlaw01.RealSums'. -/
def realSumsUptoCard : Claim7 := { stood := { row := realSumsUptoRow, standIns := [], harness := (true, "9bc3f356550ab29dcca8c0dd35c6506808599b9c3c5546b1d6a6f9e4006d2075"), looks := false }, kinds := [], alts := [], laidByText := true, laidKinds := [.data, .data, .data], laidTests := true, laidLooks := .later }
def RealSumsUptoCardSaid : Prop := Claim7.holds Tryd.pinned (.plain (OpenSpec.upto realSumsSpec)) realSumsUptoCard

/-- THE SECOND FORM's CARD OF 'godownlaw01.RealTexts'. -/
def realTextsUptoCard : Claim7 := { stood := { row := realTextsUptoRow, standIns := [], harness := (true, "9bc3f356550ab29dcca8c0dd35c6506808599b9c3c5546b1d6a6f9e4006d2075"), looks := false }, kinds := [], alts := [], laidByText := true, laidKinds := [.data, .data, .data], laidTests := true, laidLooks := .later }
def RealTextsUptoCardSaid : Prop := Claim7.holds Tryd.pinned (.plain (OpenSpec.upto realTextsSpec)) realTextsUptoCard

/-- THE SECOND FORM's CARD OF 'godownlaw01.RealOrder'. -/
def realOrderUptoCard : Claim7 := { stood := { row := realOrderUptoRow, standIns := [], harness := (true, "9bc3f356550ab29dcca8c0dd35c6506808599b9c3c5546b1d6a6f9e4006d2075"), looks := false }, kinds := [], alts := [], laidByText := true, laidKinds := [.data, .data, .data], laidTests := true, laidLooks := .later }
def RealOrderUptoCardSaid : Prop := Claim7.holds Tryd.pinned (.plain (OpenSpec.upto realOrderSpec)) realOrderUptoCard

/-- THE SECOND FORM's CARD OF 'godownlaw01.RealSigns'. -/
def realSignsUptoCard : Claim7 := { stood := { row := realSignsUptoRow, standIns := [], harness := (true, "9bc3f356550ab29dcca8c0dd35c6506808599b9c3c5546b1d6a6f9e4006d2075"), looks := false }, kinds := [], alts := [], laidByText := true, laidKinds := [.data, .data, .data], laidTests := true, laidLooks := .later }
def RealSignsUptoCardSaid : Prop := Claim7.holds Tryd.pinned (.plain (OpenSpec.upto realSignsSpec)) realSignsUptoCard

/-- THE SECOND FORM's CARD OF 'godownlaw01.RealOf'. -/
def realOfUptoCard : Claim7 := { stood := { row := realOfUptoRow, standIns := [], harness := (true, "9bc3f356550ab29dcca8c0dd35c6506808599b9c3c5546b1d6a6f9e4006d2075"), looks := false }, kinds := [], alts := [], laidByText := true, laidKinds := [.data, .data, .data], laidTests := true, laidLooks := .later }
def RealOfUptoCardSaid : Prop := Claim7.holds Tryd.pinned (.plain (OpenSpec.upto realOfSpec)) realOfUptoCard

/-- THE SECOND FORM's CARD OF 'godownlaw01.RealMost'. -/
def realMostUptoCard : Claim7 := { stood := { row := realMostUptoRow, standIns := [], harness := (true, "9bc3f356550ab29dcca8c0dd35c6506808599b9c3c5546b1d6a6f9e4006d2075"), looks := false }, kinds := [], alts := [], laidByText := true, laidKinds := [.data, .data, .data], laidTests := true, laidLooks := .later }
def RealMostUptoCardSaid : Prop := Claim7.holds Tryd.pinned (.plain (OpenSpec.upto realMostSpec)) realMostUptoCard
end Rows
end Go.Proofs.YtibnelhbebognaaDoor
