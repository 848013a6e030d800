/-
  DERIVED. GIVEN WITH THE SEED: THE CARDS: each row of YtcnigofmjffamaaDoorRows.lean that lists a variable, with what it lists TIED to the program's text (the seventh form; the later family's looks); each row that meets fmt, with fmt's text TOLD by the authors' own Lean function (tested against real Go, not proved from fmt's source: count such statements apart). THE CARD IS WHAT COUNTS. Prove the row's statement (the work); the ties are given (YtcnigofmjffamaaDoorTie.lean); close each card by the builder's one call (the guide's Derived/Test/ToyasCard.lean, 'card_holds'). Laid BY PROGRAM, IN A SANDBOX (cutbox-door.mjs). By AI agents, Wed Nov 11 2026. No macro, syntax, notation, axiom, sorry.
-/
import Derived.Test.YtcnigofmjffamaaDoorRows
import GoSem.ClaimSeven
namespace Go.Proofs.YtcnigofmjffamaaDoor
namespace Rows

/-- THE TIED CARD OF 'godownlaw11.RequestReads'. -/
def requestReadsCard : Claim7 := { stood := { row := requestReadsRow, standIns := [], harness := (true, "12edd3dfe2f390f1d0b5fade6fc985eabd3af60c0c93dc51a33641019ba96fde"), looks := false }, kinds := [], alts := [], laidByText := true, laidKinds := [.data], laidTests := true, laidLooks := .later }
def RequestReadsCardSaid : Prop := Claim7.holds Tryd.pinned (.plain (OpenSpec.ofChange requestReadsSpec)) requestReadsCard

/-- THE TIED CARD OF 'godownlaw11.RequestMany'. -/
def requestManyCard : Claim7 := { stood := { row := requestManyRow, standIns := [], harness := (true, "12edd3dfe2f390f1d0b5fade6fc985eabd3af60c0c93dc51a33641019ba96fde"), looks := false }, kinds := [], alts := [], laidByText := true, laidKinds := [.data], laidTests := true, laidLooks := .later }
def RequestManyCardSaid : Prop := Claim7.holds Tryd.pinned (.plain (OpenSpec.ofChange requestManySpec)) requestManyCard

/-- THE TIED CARD OF 'godownlaw11.RequestKinds'. -/
def requestKindsCard : Claim7 := { stood := { row := requestKindsRow, standIns := [], harness := (true, "12edd3dfe2f390f1d0b5fade6fc985eabd3af60c0c93dc51a33641019ba96fde"), looks := false }, kinds := [], alts := [], laidByText := true, laidKinds := [.data], laidTests := true, laidLooks := .later }
def RequestKindsCardSaid : Prop := Claim7.holds Tryd.pinned (.plain (OpenSpec.ofChange requestKindsSpec)) requestKindsCard

/-- THE TIED CARD OF 'godownlaw11.RequestFields'. -/
def requestFieldsCard : Claim7 := { stood := { row := requestFieldsRow, standIns := [], harness := (true, "12edd3dfe2f390f1d0b5fade6fc985eabd3af60c0c93dc51a33641019ba96fde"), looks := false }, kinds := [], alts := [], laidByText := true, laidKinds := [.data], laidTests := true, laidLooks := .later }
def RequestFieldsCardSaid : Prop := Claim7.holds Tryd.pinned (.plain (OpenSpec.ofChange requestFieldsSpec)) requestFieldsCard

/-- THE TIED CARD OF 'godownlaw11.RequestBack'. -/
def requestBackCard : Claim7 := { stood := { row := requestBackRow, standIns := [], harness := (true, "12edd3dfe2f390f1d0b5fade6fc985eabd3af60c0c93dc51a33641019ba96fde"), looks := false }, kinds := [], alts := [], laidByText := true, laidKinds := [.data], laidTests := true, laidLooks := .later }
def RequestBackCardSaid : Prop := Claim7.holds Tryd.pinned (.plain (OpenSpec.ofChange requestBackSpec)) requestBackCard

/-- THE TIED CARD OF 'godownlaw11.RequestTurned'. -/
def requestTurnedCard : Claim7 := { stood := { row := requestTurnedRow, standIns := [], harness := (true, "12edd3dfe2f390f1d0b5fade6fc985eabd3af60c0c93dc51a33641019ba96fde"), looks := false }, kinds := [], alts := [], laidByText := true, laidKinds := [.data], laidTests := true, laidLooks := .later }
def RequestTurnedCardSaid : Prop := Claim7.holds Tryd.pinned (.plain (OpenSpec.ofChange requestTurnedSpec)) requestTurnedCard

/-- THE TIED CARD OF 'godownlaw11.RequestReplies'. -/
def requestRepliesCard : Claim7 := { stood := { row := requestRepliesRow, standIns := [], harness := (true, "12edd3dfe2f390f1d0b5fade6fc985eabd3af60c0c93dc51a33641019ba96fde"), looks := false }, kinds := [], alts := [], laidByText := true, laidKinds := [.data], laidTests := true, laidLooks := .later }
def RequestRepliesCardSaid : Prop := Claim7.holds Tryd.pinned (.plain (OpenSpec.ofChange requestRepliesSpec)) requestRepliesCard

/-- THE SECOND FORM's CARD OF 'godownlaw11.RequestReads'. -/
def requestReadsUptoCard : Claim7 := { stood := { row := requestReadsUptoRow, standIns := [], harness := (true, "12edd3dfe2f390f1d0b5fade6fc985eabd3af60c0c93dc51a33641019ba96fde"), looks := false }, kinds := [], alts := [], laidByText := true, laidKinds := [.data], laidTests := true, laidLooks := .later }
def RequestReadsUptoCardSaid : Prop := Claim7.holds Tryd.pinned (.plain (OpenSpec.upto requestReadsSpec)) requestReadsUptoCard

/-- THE SECOND FORM's CARD OF 'godownlaw11.RequestMany'. -/
def requestManyUptoCard : Claim7 := { stood := { row := requestManyUptoRow, standIns := [], harness := (true, "12edd3dfe2f390f1d0b5fade6fc985eabd3af60c0c93dc51a33641019ba96fde"), looks := false }, kinds := [], alts := [], laidByText := true, laidKinds := [.data], laidTests := true, laidLooks := .later }
def RequestManyUptoCardSaid : Prop := Claim7.holds Tryd.pinned (.plain (OpenSpec.upto requestManySpec)) requestManyUptoCard

/-- THE SECOND FORM's CARD OF 'godownlaw11.RequestKinds'. -/
def requestKindsUptoCard : Claim7 := { stood := { row := requestKindsUptoRow, standIns := [], harness := (true, "12edd3dfe2f390f1d0b5fade6fc985eabd3af60c0c93dc51a33641019ba96fde"), looks := false }, kinds := [], alts := [], laidByText := true, laidKinds := [.data], laidTests := true, laidLooks := .later }
def RequestKindsUptoCardSaid : Prop := Claim7.holds Tryd.pinned (.plain (OpenSpec.upto requestKindsSpec)) requestKindsUptoCard

/-- THE SECOND FORM's CARD OF 'godownlaw11.RequestFields'. -/
def requestFieldsUptoCard : Claim7 := { stood := { row := requestFieldsUptoRow, standIns := [], harness := (true, "12edd3dfe2f390f1d0b5fade6fc985eabd3af60c0c93dc51a33641019ba96fde"), looks := false }, kinds := [], alts := [], laidByText := true, laidKinds := [.data], laidTests := true, laidLooks := .later }
def RequestFieldsUptoCardSaid : Prop := Claim7.holds Tryd.pinned (.plain (OpenSpec.upto requestFieldsSpec)) requestFieldsUptoCard

/-- THE SECOND FORM's CARD OF 'godownlaw11.RequestBack'. -/
def requestBackUptoCard : Claim7 := { stood := { row := requestBackUptoRow, standIns := [], harness := (true, "12edd3dfe2f390f1d0b5fade6fc985eabd3af60c0c93dc51a33641019ba96fde"), looks := false }, kinds := [], alts := [], laidByText := true, laidKinds := [.data], laidTests := true, laidLooks := .later }
def RequestBackUptoCardSaid : Prop := Claim7.holds Tryd.pinned (.plain (OpenSpec.upto requestBackSpec)) requestBackUptoCard

/-- THE SECOND FORM's CARD OF 'godownlaw11.RequestTurned'. -/
def requestTurnedUptoCard : Claim7 := { stood := { row := requestTurnedUptoRow, standIns := [], harness := (true, "12edd3dfe2f390f1d0b5fade6fc985eabd3af60c0c93dc51a33641019ba96fde"), looks := false }, kinds := [], alts := [], laidByText := true, laidKinds := [.data], laidTests := true, laidLooks := .later }
def RequestTurnedUptoCardSaid : Prop := Claim7.holds Tryd.pinned (.plain (OpenSpec.upto requestTurnedSpec)) requestTurnedUptoCard

/-- THE SECOND FORM's CARD OF 'godownlaw11.RequestReplies'. -/
def requestRepliesUptoCard : Claim7 := { stood := { row := requestRepliesUptoRow, standIns := [], harness := (true, "12edd3dfe2f390f1d0b5fade6fc985eabd3af60c0c93dc51a33641019ba96fde"), looks := false }, kinds := [], alts := [], laidByText := true, laidKinds := [.data], laidTests := true, laidLooks := .later }
def RequestRepliesUptoCardSaid : Prop := Claim7.holds Tryd.pinned (.plain (OpenSpec.upto requestRepliesSpec)) requestRepliesUptoCard
end Rows
end Go.Proofs.YtcnigofmjffamaaDoor
