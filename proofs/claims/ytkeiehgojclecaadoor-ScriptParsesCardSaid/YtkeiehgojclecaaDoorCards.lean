/-
  DERIVED. GIVEN WITH THE SEED: THE CARDS: each row of YtkeiehgojclecaaDoorRows.lean that lists a variable, with what it lists TIED to the program's text (the seventh form; the later family's looks); each row that meets fmt, with fmt's text TOLD by the authors' own Lean function (tested against real Go, not proved from fmt's source: count such statements apart). THE CARD IS WHAT COUNTS. Prove the row's statement (the work); the ties are given (YtkeiehgojclecaaDoorTie.lean); close each card by the builder's one call (the guide's Derived/Test/ToyasCard.lean, 'card_holds'). Laid BY PROGRAM, IN A SANDBOX (cutbox-door.mjs). By AI agents, Wed Nov 11 2026. No macro, syntax, notation, axiom, sorry.
-/
import Derived.Test.YtkeiehgojclecaaDoorRows
import GoSem.ClaimSeven
namespace Go.Proofs.YtkeiehgojclecaaDoor
namespace Rows

/-- THE TIED CARD OF 'allotmentlaw25.ScriptLines'. -/
def scriptLinesCard : Claim7 := { stood := { row := scriptLinesRow, standIns := [], harness := (true, "e181eb055d6221919192129f9e3b10a559a753a8a5ce8c42eae6a5868aa33f3c"), looks := true }, kinds := [], alts := [], laidByText := true, laidKinds := [.data, .data, .data, .data, .sentinel, .sentinel, .pinned], laidTests := true, laidLooks := .later }
def ScriptLinesCardSaid : Prop := Claim7.holds Tryd.pinned (.plain (OpenSpec.ofChange scriptLinesSpec)) scriptLinesCard

/-- THE TIED CARD OF 'allotmentlaw25.ScriptPrints'. -/
def scriptPrintsCard : Claim7 := { stood := { row := scriptPrintsRow, standIns := [], harness := (true, "e181eb055d6221919192129f9e3b10a559a753a8a5ce8c42eae6a5868aa33f3c"), looks := true }, kinds := [], alts := [], laidByText := true, laidKinds := [.data, .data, .data, .data, .sentinel, .sentinel, .pinned], laidTests := true, laidLooks := .later }
def ScriptPrintsCardSaid : Prop := Claim7.holds Tryd.pinned (.plain (OpenSpec.ofChange scriptPrintsSpec)) scriptPrintsCard

/-- THE TIED CARD OF 'allotmentlaw25.ScriptBias'. -/
def scriptBiasCard : Claim7 := { stood := { row := scriptBiasRow, standIns := [], harness := (true, "e181eb055d6221919192129f9e3b10a559a753a8a5ce8c42eae6a5868aa33f3c"), looks := true }, kinds := [], alts := [], laidByText := true, laidKinds := [.data, .data, .data, .data, .sentinel, .sentinel, .pinned], laidTests := true, laidLooks := .later }
def ScriptBiasCardSaid : Prop := Claim7.holds Tryd.pinned (.plain (OpenSpec.ofChange scriptBiasSpec)) scriptBiasCard

/-- THE TIED CARD OF 'allotmentlaw25.ScriptParses'. -/
def scriptParsesCard : Claim7 := { stood := { row := scriptParsesRow, standIns := [], harness := (true, "e181eb055d6221919192129f9e3b10a559a753a8a5ce8c42eae6a5868aa33f3c"), looks := true }, kinds := [], alts := [], laidByText := true, laidKinds := [.data, .data, .data, .data, .sentinel, .sentinel, .pinned], laidTests := true, laidLooks := .later }
def ScriptParsesCardSaid : Prop := Claim7.holds Tryd.pinned (.plain (OpenSpec.ofChange scriptParsesSpec)) scriptParsesCard

/-- THE TIED CARD OF 'allotmentlaw25.ScriptBack'. -/
def scriptBackCard : Claim7 := { stood := { row := scriptBackRow, standIns := [], harness := (true, "e181eb055d6221919192129f9e3b10a559a753a8a5ce8c42eae6a5868aa33f3c"), looks := true }, kinds := [], alts := [], laidByText := true, laidKinds := [.data, .data, .data, .data, .sentinel, .sentinel, .pinned], laidTests := true, laidLooks := .later }
def ScriptBackCardSaid : Prop := Claim7.holds Tryd.pinned (.plain (OpenSpec.ofChange scriptBackSpec)) scriptBackCard

/-- THE SECOND FORM's CARD OF 'allotmentlaw25.ScriptLines'. -/
def scriptLinesUptoCard : Claim7 := { stood := { row := scriptLinesUptoRow, standIns := [], harness := (true, "e181eb055d6221919192129f9e3b10a559a753a8a5ce8c42eae6a5868aa33f3c"), looks := true }, kinds := [], alts := [], laidByText := true, laidKinds := [.data, .data, .data, .data, .sentinel, .sentinel, .pinned], laidTests := true, laidLooks := .later }
def ScriptLinesUptoCardSaid : Prop := Claim7.holds Tryd.pinned (.plain (OpenSpec.upto scriptLinesSpec)) scriptLinesUptoCard

/-- THE SECOND FORM's CARD OF 'allotmentlaw25.ScriptPrints'. -/
def scriptPrintsUptoCard : Claim7 := { stood := { row := scriptPrintsUptoRow, standIns := [], harness := (true, "e181eb055d6221919192129f9e3b10a559a753a8a5ce8c42eae6a5868aa33f3c"), looks := true }, kinds := [], alts := [], laidByText := true, laidKinds := [.data, .data, .data, .data, .sentinel, .sentinel, .pinned], laidTests := true, laidLooks := .later }
def ScriptPrintsUptoCardSaid : Prop := Claim7.holds Tryd.pinned (.plain (OpenSpec.upto scriptPrintsSpec)) scriptPrintsUptoCard

/-- THE SECOND FORM's CARD OF 'allotmentlaw25.ScriptBias'. -/
def scriptBiasUptoCard : Claim7 := { stood := { row := scriptBiasUptoRow, standIns := [], harness := (true, "e181eb055d6221919192129f9e3b10a559a753a8a5ce8c42eae6a5868aa33f3c"), looks := true }, kinds := [], alts := [], laidByText := true, laidKinds := [.data, .data, .data, .data, .sentinel, .sentinel, .pinned], laidTests := true, laidLooks := .later }
def ScriptBiasUptoCardSaid : Prop := Claim7.holds Tryd.pinned (.plain (OpenSpec.upto scriptBiasSpec)) scriptBiasUptoCard

/-- THE SECOND FORM's CARD OF 'allotmentlaw25.ScriptParses'. -/
def scriptParsesUptoCard : Claim7 := { stood := { row := scriptParsesUptoRow, standIns := [], harness := (true, "e181eb055d6221919192129f9e3b10a559a753a8a5ce8c42eae6a5868aa33f3c"), looks := true }, kinds := [], alts := [], laidByText := true, laidKinds := [.data, .data, .data, .data, .sentinel, .sentinel, .pinned], laidTests := true, laidLooks := .later }
def ScriptParsesUptoCardSaid : Prop := Claim7.holds Tryd.pinned (.plain (OpenSpec.upto scriptParsesSpec)) scriptParsesUptoCard

/-- THE SECOND FORM's CARD OF 'allotmentlaw25.ScriptBack'. -/
def scriptBackUptoCard : Claim7 := { stood := { row := scriptBackUptoRow, standIns := [], harness := (true, "e181eb055d6221919192129f9e3b10a559a753a8a5ce8c42eae6a5868aa33f3c"), looks := true }, kinds := [], alts := [], laidByText := true, laidKinds := [.data, .data, .data, .data, .sentinel, .sentinel, .pinned], laidTests := true, laidLooks := .later }
def ScriptBackUptoCardSaid : Prop := Claim7.holds Tryd.pinned (.plain (OpenSpec.upto scriptBackSpec)) scriptBackUptoCard
end Rows
end Go.Proofs.YtkeiehgojclecaaDoor
