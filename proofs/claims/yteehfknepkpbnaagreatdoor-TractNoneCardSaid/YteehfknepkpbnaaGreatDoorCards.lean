/-
  DERIVED. GIVEN WITH THE SEED: THE CARDS: each row of YteehfknepkpbnaaGreatDoorRows.lean that lists a variable, with what it lists TIED to the program's text (the seventh form; the later family's looks); each row that meets fmt, with fmt's text TOLD by the authors' own Lean function (tested against real Go, not proved from fmt's source: count such statements apart). THE CARD IS WHAT COUNTS. Prove the row's statement (the work); the ties are given (YteehfknepkpbnaaGreatDoorTie.lean); close each card by the builder's one call (the guide's Derived/Test/ToyasCard.lean, 'card_holds'). Laid BY PROGRAM, IN A SANDBOX (cutbox-door.mjs). By AI agents, Wed Nov 11 2026. No macro, syntax, notation, axiom, sorry.
-/
import Derived.Test.YteehfknepkpbnaaGreatDoorRows
import GoSem.ClaimSeven
namespace Go.Proofs.YteehfknepkpbnaaGreatDoor
namespace Rows

/-- THE TIED CARD OF 'anabranchlaw28.TractLines'. -/
def tractLinesCard : Claim7 := { stood := { row := tractLinesRow, standIns := [], harness := (true, "e18bd6b63d6669352cef967a40b701eea77ca3b575c6b677889ddce413c3a539"), looks := true }, kinds := [], alts := [], laidByText := true, laidKinds := [.data, .data, .widerDeep, .widerDeep, .data, .data, .data, .data, .data, .data, .sentinel, .sentinel, .data, .pinned, .pinned, .pinned, .pinned], laidTests := true, laidLooks := .later }
def TractLinesCardSaid : Prop := Claim7.holds Tryz.pinned (.plain (OpenSpec.ofChange tractLinesSpec)) tractLinesCard

/-- THE TIED CARD OF 'anabranchlaw28.TractReads'. -/
def tractReadsCard : Claim7 := { stood := { row := tractReadsRow, standIns := [], harness := (true, "e18bd6b63d6669352cef967a40b701eea77ca3b575c6b677889ddce413c3a539"), looks := true }, kinds := [], alts := [], laidByText := true, laidKinds := [.data, .data, .widerDeep, .widerDeep, .data, .data, .data, .data, .data, .data, .sentinel, .sentinel, .data, .pinned, .pinned, .pinned, .pinned], laidTests := true, laidLooks := .later }
def TractReadsCardSaid : Prop := Claim7.holds Tryz.pinned (.plain (OpenSpec.ofChange tractReadsSpec)) tractReadsCard

/-- THE TIED CARD OF 'anabranchlaw28.TractErrs'. -/
def tractErrsCard : Claim7 := { stood := { row := tractErrsRow, standIns := [], harness := (true, "e18bd6b63d6669352cef967a40b701eea77ca3b575c6b677889ddce413c3a539"), looks := true }, kinds := [], alts := [], laidByText := true, laidKinds := [.data, .data, .widerDeep, .widerDeep, .data, .data, .data, .data, .data, .data, .sentinel, .sentinel, .data, .pinned, .pinned, .pinned, .pinned], laidTests := true, laidLooks := .later }
def TractErrsCardSaid : Prop := Claim7.holds Tryz.pinned (.plain (OpenSpec.ofChange tractErrsSpec)) tractErrsCard

/-- THE TIED CARD OF 'anabranchlaw28.TractNone'. -/
def tractNoneCard : Claim7 := { stood := { row := tractNoneRow, standIns := [], harness := (true, "e18bd6b63d6669352cef967a40b701eea77ca3b575c6b677889ddce413c3a539"), looks := true }, kinds := [], alts := [], laidByText := true, laidKinds := [.data, .data, .widerDeep, .widerDeep, .data, .data, .data, .data, .data, .data, .sentinel, .sentinel, .data, .pinned, .pinned, .pinned, .pinned], laidTests := true, laidLooks := .later }
def TractNoneCardSaid : Prop := Claim7.holds Tryz.pinned (.plain (OpenSpec.ofChange tractNoneSpec)) tractNoneCard

/-- THE SECOND FORM's CARD OF 'anabranchlaw28.TractLines'. -/
def tractLinesUptoCard : Claim7 := { stood := { row := tractLinesUptoRow, standIns := [], harness := (true, "e18bd6b63d6669352cef967a40b701eea77ca3b575c6b677889ddce413c3a539"), looks := true }, kinds := [], alts := [], laidByText := true, laidKinds := [.data, .data, .widerDeep, .widerDeep, .data, .data, .data, .data, .data, .data, .sentinel, .sentinel, .data, .pinned, .pinned, .pinned, .pinned], laidTests := true, laidLooks := .later }
def TractLinesUptoCardSaid : Prop := Claim7.holds Tryz.pinned (.plain (OpenSpec.upto tractLinesSpec)) tractLinesUptoCard

/-- THE SECOND FORM's CARD OF 'anabranchlaw28.TractReads'. -/
def tractReadsUptoCard : Claim7 := { stood := { row := tractReadsUptoRow, standIns := [], harness := (true, "e18bd6b63d6669352cef967a40b701eea77ca3b575c6b677889ddce413c3a539"), looks := true }, kinds := [], alts := [], laidByText := true, laidKinds := [.data, .data, .widerDeep, .widerDeep, .data, .data, .data, .data, .data, .data, .sentinel, .sentinel, .data, .pinned, .pinned, .pinned, .pinned], laidTests := true, laidLooks := .later }
def TractReadsUptoCardSaid : Prop := Claim7.holds Tryz.pinned (.plain (OpenSpec.upto tractReadsSpec)) tractReadsUptoCard

/-- THE SECOND FORM's CARD OF 'anabranchlaw28.TractErrs'. -/
def tractErrsUptoCard : Claim7 := { stood := { row := tractErrsUptoRow, standIns := [], harness := (true, "e18bd6b63d6669352cef967a40b701eea77ca3b575c6b677889ddce413c3a539"), looks := true }, kinds := [], alts := [], laidByText := true, laidKinds := [.data, .data, .widerDeep, .widerDeep, .data, .data, .data, .data, .data, .data, .sentinel, .sentinel, .data, .pinned, .pinned, .pinned, .pinned], laidTests := true, laidLooks := .later }
def TractErrsUptoCardSaid : Prop := Claim7.holds Tryz.pinned (.plain (OpenSpec.upto tractErrsSpec)) tractErrsUptoCard

/-- THE SECOND FORM's CARD OF 'anabranchlaw28.TractNone'. -/
def tractNoneUptoCard : Claim7 := { stood := { row := tractNoneUptoRow, standIns := [], harness := (true, "e18bd6b63d6669352cef967a40b701eea77ca3b575c6b677889ddce413c3a539"), looks := true }, kinds := [], alts := [], laidByText := true, laidKinds := [.data, .data, .widerDeep, .widerDeep, .data, .data, .data, .data, .data, .data, .sentinel, .sentinel, .data, .pinned, .pinned, .pinned, .pinned], laidTests := true, laidLooks := .later }
def TractNoneUptoCardSaid : Prop := Claim7.holds Tryz.pinned (.plain (OpenSpec.upto tractNoneSpec)) tractNoneUptoCard
end Rows
end Go.Proofs.YteehfknepkpbnaaGreatDoor
