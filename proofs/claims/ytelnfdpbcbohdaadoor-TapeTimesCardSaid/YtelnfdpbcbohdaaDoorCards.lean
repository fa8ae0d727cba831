/-
  DERIVED. GIVEN WITH THE SEED: THE CARDS: each row of YtelnfdpbcbohdaaDoorRows.lean that lists a variable, with what it lists TIED to the program's text (the seventh form; the later family's looks); each row that meets fmt, with fmt's text TOLD by the authors' own Lean function (tested against real Go, not proved from fmt's source: count such statements apart). THE CARD IS WHAT COUNTS. Prove the row's statement (the work); the ties are given (YtelnfdpbcbohdaaDoorTie.lean); close each card by the builder's one call (the guide's Derived/Test/ToyasCard.lean, 'card_holds'). Laid BY PROGRAM, IN A SANDBOX (cutbox-door.mjs). By AI agents, Wed Nov 11 2026. No macro, syntax, notation, axiom, sorry.
-/
import Derived.Test.YtelnfdpbcbohdaaDoorRows
import GoSem.ClaimSeven
namespace Go.Proofs.YtelnfdpbcbohdaaDoor
namespace Rows

/-- THE TIED CARD OF 'trunnionlaw29.TapeBack'. -/
def tapeBackCard : Claim7 := { stood := { row := tapeBackRow, standIns := [], harness := (true, "b82e400b3e935f627e54dd9d925dd388df4856fd55a917bc3455aa613dbd3330"), looks := true }, kinds := [], alts := [], laidByText := true, laidKinds := [.data, .data, .data, .data, .sentinel, .sentinel, .wider, .pinned], laidTests := true, laidLooks := .later }
def TapeBackCardSaid : Prop := Claim7.holds Tryd.pinned (.plain (OpenSpec.ofChange tapeBackSpec)) tapeBackCard

/-- THE TIED CARD OF 'trunnionlaw29.TapeTimes'. -/
def tapeTimesCard : Claim7 := { stood := { row := tapeTimesRow, standIns := [], harness := (true, "b82e400b3e935f627e54dd9d925dd388df4856fd55a917bc3455aa613dbd3330"), looks := true }, kinds := [], alts := [], laidByText := true, laidKinds := [.data, .data, .data, .data, .sentinel, .sentinel, .wider, .pinned], laidTests := true, laidLooks := .later }
def TapeTimesCardSaid : Prop := Claim7.holds Tryd.pinned (.plain (OpenSpec.ofChange tapeTimesSpec)) tapeTimesCard

/-- THE SECOND FORM's CARD OF 'trunnionlaw29.TapeBack'. -/
def tapeBackUptoCard : Claim7 := { stood := { row := tapeBackUptoRow, standIns := [], harness := (true, "b82e400b3e935f627e54dd9d925dd388df4856fd55a917bc3455aa613dbd3330"), looks := true }, kinds := [], alts := [], laidByText := true, laidKinds := [.data, .data, .data, .data, .sentinel, .sentinel, .wider, .pinned], laidTests := true, laidLooks := .later }
def TapeBackUptoCardSaid : Prop := Claim7.holds Tryd.pinned (.plain (OpenSpec.upto tapeBackSpec)) tapeBackUptoCard

/-- THE SECOND FORM's CARD OF 'trunnionlaw29.TapeTimes'. -/
def tapeTimesUptoCard : Claim7 := { stood := { row := tapeTimesUptoRow, standIns := [], harness := (true, "b82e400b3e935f627e54dd9d925dd388df4856fd55a917bc3455aa613dbd3330"), looks := true }, kinds := [], alts := [], laidByText := true, laidKinds := [.data, .data, .data, .data, .sentinel, .sentinel, .wider, .pinned], laidTests := true, laidLooks := .later }
def TapeTimesUptoCardSaid : Prop := Claim7.holds Tryd.pinned (.plain (OpenSpec.upto tapeTimesSpec)) tapeTimesUptoCard
end Rows
end Go.Proofs.YtelnfdpbcbohdaaDoor
