/-
  DERIVED. GIVEN WITH THE SEED: THE CARDS: each row of YtnlgnmlobklobaaDoorRows.lean that lists a variable, with what it lists TIED to the program's text (the seventh form; the later family's looks); each row that meets fmt, with fmt's text TOLD by the authors' own Lean function (tested against real Go, not proved from fmt's source: count such statements apart). THE CARD IS WHAT COUNTS. Prove the row's statement (the work); the ties are given (YtnlgnmlobklobaaDoorTie.lean); close each card by the builder's one call (the guide's Derived/Test/ToyasCard.lean, 'card_holds'). Laid BY PROGRAM, IN A SANDBOX (cutbox-door.mjs). By AI agents, Wed Nov 11 2026. No macro, syntax, notation, axiom, sorry.
-/
import Derived.Test.YtnlgnmlobklobaaDoorRows
import GoSem.ClaimSeven
namespace Go.Proofs.YtnlgnmlobklobaaDoor
namespace Rows

/-- THE TIED CARD OF 'wageofficelaw27.RangeproofMatchesReference'. -/
def rangeproofMatchesReferenceCard : Claim7 := { stood := { row := rangeproofMatchesReferenceRow, standIns := [], harness := (true, "9af67b1c7dcfe0606bd58a3ea1d66b5167a1a3e670329b0507ba3242054a887f"), looks := false }, kinds := [], alts := [], laidByText := true, laidKinds := [.data, .data, .data, .data], laidTests := true, laidLooks := .later }
def RangeproofMatchesReferenceCardSaid : Prop := Claim7.holds Tryd.pinned (.plain (OpenSpec.ofChange rangeproofMatchesReferenceSpec)) rangeproofMatchesReferenceCard

/-- THE TIED CARD OF 'wageofficelaw27.RangeproofComplete'. -/
def rangeproofCompleteCard : Claim7 := { stood := { row := rangeproofCompleteRow, standIns := [], harness := (true, "9af67b1c7dcfe0606bd58a3ea1d66b5167a1a3e670329b0507ba3242054a887f"), looks := false }, kinds := [], alts := [], laidByText := true, laidKinds := [.data, .data, .data, .data], laidTests := true, laidLooks := .later }
def RangeproofCompleteCardSaid : Prop := Claim7.holds Tryd.pinned (.plain (OpenSpec.ofChange rangeproofCompleteSpec)) rangeproofCompleteCard

/-- THE TIED CARD OF 'wageofficelaw27.RangeproofReplies'. -/
def rangeproofRepliesCard : Claim7 := { stood := { row := rangeproofRepliesRow, standIns := [], harness := (true, "9af67b1c7dcfe0606bd58a3ea1d66b5167a1a3e670329b0507ba3242054a887f"), looks := false }, kinds := [], alts := [], laidByText := true, laidKinds := [.data, .data, .data, .data], laidTests := true, laidLooks := .later }
def RangeproofRepliesCardSaid : Prop := Claim7.holds Tryd.pinned (.plain (OpenSpec.ofChange rangeproofRepliesSpec)) rangeproofRepliesCard

/-- THE TIED CARD OF 'wageofficelaw27.RangeproofLengths'. -/
def rangeproofLengthsCard : Claim7 := { stood := { row := rangeproofLengthsRow, standIns := [], harness := (true, "9af67b1c7dcfe0606bd58a3ea1d66b5167a1a3e670329b0507ba3242054a887f"), looks := false }, kinds := [], alts := [], laidByText := true, laidKinds := [.data, .data, .data, .data], laidTests := true, laidLooks := .later }
def RangeproofLengthsCardSaid : Prop := Claim7.holds Tryd.pinned (.plain (OpenSpec.ofChange rangeproofLengthsSpec)) rangeproofLengthsCard

/-- THE TIED CARD OF 'wageofficelaw27.RangeproofExtract'. -/
def rangeproofExtractCard : Claim7 := { stood := { row := rangeproofExtractRow, standIns := [], harness := (true, "9af67b1c7dcfe0606bd58a3ea1d66b5167a1a3e670329b0507ba3242054a887f"), looks := false }, kinds := [], alts := [], laidByText := true, laidKinds := [.data, .data, .data, .data], laidTests := true, laidLooks := .later }
def RangeproofExtractCardSaid : Prop := Claim7.holds Tryd.pinned (.plain (OpenSpec.ofChange rangeproofExtractSpec)) rangeproofExtractCard

/-- THE TIED CARD OF 'wageofficelaw27.RangeproofSums'. -/
def rangeproofSumsCard : Claim7 := { stood := { row := rangeproofSumsRow, standIns := [], harness := (true, "9af67b1c7dcfe0606bd58a3ea1d66b5167a1a3e670329b0507ba3242054a887f"), looks := false }, kinds := [], alts := [], laidByText := true, laidKinds := [.data, .data, .data, .data], laidTests := true, laidLooks := .later }
def RangeproofSumsCardSaid : Prop := Claim7.holds Tryd.pinned (.plain (OpenSpec.ofChange rangeproofSumsSpec)) rangeproofSumsCard

/-- THE SECOND FORM's CARD OF 'wageofficelaw27.RangeproofMatchesReference'. -/
def rangeproofMatchesReferenceUptoCard : Claim7 := { stood := { row := rangeproofMatchesReferenceUptoRow, standIns := [], harness := (true, "9af67b1c7dcfe0606bd58a3ea1d66b5167a1a3e670329b0507ba3242054a887f"), looks := false }, kinds := [], alts := [], laidByText := true, laidKinds := [.data, .data, .data, .data], laidTests := true, laidLooks := .later }
def RangeproofMatchesReferenceUptoCardSaid : Prop := Claim7.holds Tryd.pinned (.plain (OpenSpec.upto rangeproofMatchesReferenceSpec)) rangeproofMatchesReferenceUptoCard

/-- THE SECOND FORM's CARD OF 'wageofficelaw27.RangeproofComplete'. -/
def rangeproofCompleteUptoCard : Claim7 := { stood := { row := rangeproofCompleteUptoRow, standIns := [], harness := (true, "9af67b1c7dcfe0606bd58a3ea1d66b5167a1a3e670329b0507ba3242054a887f"), looks := false }, kinds := [], alts := [], laidByText := true, laidKinds := [.data, .data, .data, .data], laidTests := true, laidLooks := .later }
def RangeproofCompleteUptoCardSaid : Prop := Claim7.holds Tryd.pinned (.plain (OpenSpec.upto rangeproofCompleteSpec)) rangeproofCompleteUptoCard

/-- THE SECOND FORM's CARD OF 'wageofficelaw27.RangeproofReplies'. -/
def rangeproofRepliesUptoCard : Claim7 := { stood := { row := rangeproofRepliesUptoRow, standIns := [], harness := (true, "9af67b1c7dcfe0606bd58a3ea1d66b5167a1a3e670329b0507ba3242054a887f"), looks := false }, kinds := [], alts := [], laidByText := true, laidKinds := [.data, .data, .data, .data], laidTests := true, laidLooks := .later }
def RangeproofRepliesUptoCardSaid : Prop := Claim7.holds Tryd.pinned (.plain (OpenSpec.upto rangeproofRepliesSpec)) rangeproofRepliesUptoCard

/-- THE SECOND FORM's CARD OF 'wageofficelaw27.RangeproofLengths'. -/
def rangeproofLengthsUptoCard : Claim7 := { stood := { row := rangeproofLengthsUptoRow, standIns := [], harness := (true, "9af67b1c7dcfe0606bd58a3ea1d66b5167a1a3e670329b0507ba3242054a887f"), looks := false }, kinds := [], alts := [], laidByText := true, laidKinds := [.data, .data, .data, .data], laidTests := true, laidLooks := .later }
def RangeproofLengthsUptoCardSaid : Prop := Claim7.holds Tryd.pinned (.plain (OpenSpec.upto rangeproofLengthsSpec)) rangeproofLengthsUptoCard

/-- THE SECOND FORM's CARD OF 'wageofficelaw27.RangeproofExtract'. -/
def rangeproofExtractUptoCard : Claim7 := { stood := { row := rangeproofExtractUptoRow, standIns := [], harness := (true, "9af67b1c7dcfe0606bd58a3ea1d66b5167a1a3e670329b0507ba3242054a887f"), looks := false }, kinds := [], alts := [], laidByText := true, laidKinds := [.data, .data, .data, .data], laidTests := true, laidLooks := .later }
def RangeproofExtractUptoCardSaid : Prop := Claim7.holds Tryd.pinned (.plain (OpenSpec.upto rangeproofExtractSpec)) rangeproofExtractUptoCard

/-- THE SECOND FORM's CARD OF 'wageofficelaw27.RangeproofSums'. -/
def rangeproofSumsUptoCard : Claim7 := { stood := { row := rangeproofSumsUptoRow, standIns := [], harness := (true, "9af67b1c7dcfe0606bd58a3ea1d66b5167a1a3e670329b0507ba3242054a887f"), looks := false }, kinds := [], alts := [], laidByText := true, laidKinds := [.data, .data, .data, .data], laidTests := true, laidLooks := .later }
def RangeproofSumsUptoCardSaid : Prop := Claim7.holds Tryd.pinned (.plain (OpenSpec.upto rangeproofSumsSpec)) rangeproofSumsUptoCard
end Rows
end Go.Proofs.YtnlgnmlobklobaaDoor
