/-
  DERIVED. GIVEN WITH THE SEED: THE CARDS: each row of YtonhcfecfifghaaGreatDoorRows.lean that lists a variable, with what it lists TIED to the program's text (the seventh form; the later family's looks); each row that meets fmt, with fmt's text TOLD by the authors' own Lean function (tested against real Go, not proved from fmt's source: count such statements apart). THE CARD IS WHAT COUNTS. Prove the row's statement (the work); the ties are given (YtonhcfecfifghaaGreatDoorTie.lean); close each card by the builder's one call (the guide's Derived/Test/ToyasCard.lean, 'card_holds'). Laid BY PROGRAM, IN A SANDBOX (cutbox-door.mjs). By AI agents, Wed Nov 11 2026. No macro, syntax, notation, axiom, sorry.
-/
import Derived.Test.YtonhcfecfifghaaGreatDoorRows
import GoSem.ClaimSeven
namespace Go.Proofs.YtonhcfecfifghaaGreatDoor
namespace Rows

/-- THE TIED CARD OF 'ambidexterlaw11.ParserMatchesReference'. -/
def parserMatchesReferenceCard : Claim7 := { stood := { row := parserMatchesReferenceRow, standIns := [], harness := (true, "949402bcc3c355267d9393f1b67bb01980b8a5373f77940b6b0069dbef693843"), looks := true }, kinds := [], alts := [], laidByText := true, laidKinds := [.data, .data, .data, .sentinel, .sentinel, .widerDeep], laidTests := true, laidLooks := .later }
def ParserMatchesReferenceCardSaid : Prop := Claim7.holds Tryz.pinned (.plain (OpenSpec.ofChange parserMatchesReferenceSpec)) parserMatchesReferenceCard

/-- THE SECOND FORM's CARD OF 'ambidexterlaw11.ParserMatchesReference'. -/
def parserMatchesReferenceUptoCard : Claim7 := { stood := { row := parserMatchesReferenceUptoRow, standIns := [], harness := (true, "949402bcc3c355267d9393f1b67bb01980b8a5373f77940b6b0069dbef693843"), looks := true }, kinds := [], alts := [], laidByText := true, laidKinds := [.data, .data, .data, .sentinel, .sentinel, .widerDeep], laidTests := true, laidLooks := .later }
def ParserMatchesReferenceUptoCardSaid : Prop := Claim7.holds Tryz.pinned (.plain (OpenSpec.upto parserMatchesReferenceSpec)) parserMatchesReferenceUptoCard
end Rows
end Go.Proofs.YtonhcfecfifghaaGreatDoor
