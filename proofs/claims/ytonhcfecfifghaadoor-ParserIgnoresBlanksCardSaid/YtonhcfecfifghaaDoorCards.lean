/-
  DERIVED. GIVEN WITH THE SEED: THE CARDS: each row of YtonhcfecfifghaaDoorRows.lean that lists a variable, with what it lists TIED to the program's text (the seventh form; the later family's looks); each row that meets fmt, with fmt's text TOLD by the authors' own Lean function (tested against real Go, not proved from fmt's source: count such statements apart). THE CARD IS WHAT COUNTS. Prove the row's statement (the work); the ties are given (YtonhcfecfifghaaDoorTie.lean); close each card by the builder's one call (the guide's Derived/Test/ToyasCard.lean, 'card_holds'). Laid BY PROGRAM, IN A SANDBOX (cutbox-door.mjs). By AI agents, Wed Nov 11 2026. No macro, syntax, notation, axiom, sorry.
-/
import Derived.Test.YtonhcfecfifghaaDoorRows
import GoSem.ClaimSeven
namespace Go.Proofs.YtonhcfecfifghaaDoor
namespace Rows

/-- THE TIED CARD OF 'ambidexterlaw11.ParserRoundTrip'. -/
def parserRoundTripCard : Claim7 := { stood := { row := parserRoundTripRow, standIns := [], harness := (true, "6822103ed093441613754651125a536eb7c88e985074bd3ee2c69459dcd289f4"), looks := true }, kinds := [], alts := [], laidByText := true, laidKinds := [.data, .data, .data, .sentinel, .sentinel, .widerDeep], laidTests := true, laidLooks := .later }
def ParserRoundTripCardSaid : Prop := Claim7.holds Tryd.pinned (.plain (OpenSpec.ofChange parserRoundTripSpec)) parserRoundTripCard

/-- THE TIED CARD OF 'ambidexterlaw11.ParserFormatIsCanonical'. -/
def parserFormatIsCanonicalCard : Claim7 := { stood := { row := parserFormatIsCanonicalRow, standIns := [], harness := (true, "6822103ed093441613754651125a536eb7c88e985074bd3ee2c69459dcd289f4"), looks := true }, kinds := [], alts := [], laidByText := true, laidKinds := [.data, .data, .data, .sentinel, .sentinel, .widerDeep], laidTests := true, laidLooks := .later }
def ParserFormatIsCanonicalCardSaid : Prop := Claim7.holds Tryd.pinned (.plain (OpenSpec.ofChange parserFormatIsCanonicalSpec)) parserFormatIsCanonicalCard

/-- THE TIED CARD OF 'ambidexterlaw11.ParserConcatenation'. -/
def parserConcatenationCard : Claim7 := { stood := { row := parserConcatenationRow, standIns := [], harness := (true, "6822103ed093441613754651125a536eb7c88e985074bd3ee2c69459dcd289f4"), looks := true }, kinds := [], alts := [], laidByText := true, laidKinds := [.data, .data, .data, .sentinel, .sentinel, .widerDeep], laidTests := true, laidLooks := .later }
def ParserConcatenationCardSaid : Prop := Claim7.holds Tryd.pinned (.plain (OpenSpec.ofChange parserConcatenationSpec)) parserConcatenationCard

/-- THE TIED CARD OF 'ambidexterlaw11.ParserIgnoresBlanks'. -/
def parserIgnoresBlanksCard : Claim7 := { stood := { row := parserIgnoresBlanksRow, standIns := [], harness := (true, "6822103ed093441613754651125a536eb7c88e985074bd3ee2c69459dcd289f4"), looks := true }, kinds := [], alts := [], laidByText := true, laidKinds := [.data, .data, .data, .sentinel, .sentinel, .widerDeep], laidTests := true, laidLooks := .later }
def ParserIgnoresBlanksCardSaid : Prop := Claim7.holds Tryd.pinned (.plain (OpenSpec.ofChange parserIgnoresBlanksSpec)) parserIgnoresBlanksCard

/-- THE TIED CARD OF 'ambidexterlaw11.ParserRecoversFromErrors'. -/
def parserRecoversFromErrorsCard : Claim7 := { stood := { row := parserRecoversFromErrorsRow, standIns := [], harness := (true, "6822103ed093441613754651125a536eb7c88e985074bd3ee2c69459dcd289f4"), looks := true }, kinds := [], alts := [], laidByText := true, laidKinds := [.data, .data, .data, .sentinel, .sentinel, .widerDeep], laidTests := true, laidLooks := .later }
def ParserRecoversFromErrorsCardSaid : Prop := Claim7.holds Tryd.pinned (.plain (OpenSpec.ofChange parserRecoversFromErrorsSpec)) parserRecoversFromErrorsCard

/-- THE TIED CARD OF 'ambidexterlaw11.ParserOffsetsIncrease'. -/
def parserOffsetsIncreaseCard : Claim7 := { stood := { row := parserOffsetsIncreaseRow, standIns := [], harness := (true, "6822103ed093441613754651125a536eb7c88e985074bd3ee2c69459dcd289f4"), looks := true }, kinds := [], alts := [], laidByText := true, laidKinds := [.data, .data, .data, .sentinel, .sentinel, .widerDeep], laidTests := true, laidLooks := .later }
def ParserOffsetsIncreaseCardSaid : Prop := Claim7.holds Tryd.pinned (.plain (OpenSpec.ofChange parserOffsetsIncreaseSpec)) parserOffsetsIncreaseCard

/-- THE SECOND FORM's CARD OF 'ambidexterlaw11.ParserRoundTrip'. -/
def parserRoundTripUptoCard : Claim7 := { stood := { row := parserRoundTripUptoRow, standIns := [], harness := (true, "6822103ed093441613754651125a536eb7c88e985074bd3ee2c69459dcd289f4"), looks := true }, kinds := [], alts := [], laidByText := true, laidKinds := [.data, .data, .data, .sentinel, .sentinel, .widerDeep], laidTests := true, laidLooks := .later }
def ParserRoundTripUptoCardSaid : Prop := Claim7.holds Tryd.pinned (.plain (OpenSpec.upto parserRoundTripSpec)) parserRoundTripUptoCard

/-- THE SECOND FORM's CARD OF 'ambidexterlaw11.ParserFormatIsCanonical'. -/
def parserFormatIsCanonicalUptoCard : Claim7 := { stood := { row := parserFormatIsCanonicalUptoRow, standIns := [], harness := (true, "6822103ed093441613754651125a536eb7c88e985074bd3ee2c69459dcd289f4"), looks := true }, kinds := [], alts := [], laidByText := true, laidKinds := [.data, .data, .data, .sentinel, .sentinel, .widerDeep], laidTests := true, laidLooks := .later }
def ParserFormatIsCanonicalUptoCardSaid : Prop := Claim7.holds Tryd.pinned (.plain (OpenSpec.upto parserFormatIsCanonicalSpec)) parserFormatIsCanonicalUptoCard

/-- THE SECOND FORM's CARD OF 'ambidexterlaw11.ParserConcatenation'. -/
def parserConcatenationUptoCard : Claim7 := { stood := { row := parserConcatenationUptoRow, standIns := [], harness := (true, "6822103ed093441613754651125a536eb7c88e985074bd3ee2c69459dcd289f4"), looks := true }, kinds := [], alts := [], laidByText := true, laidKinds := [.data, .data, .data, .sentinel, .sentinel, .widerDeep], laidTests := true, laidLooks := .later }
def ParserConcatenationUptoCardSaid : Prop := Claim7.holds Tryd.pinned (.plain (OpenSpec.upto parserConcatenationSpec)) parserConcatenationUptoCard

/-- THE SECOND FORM's CARD OF 'ambidexterlaw11.ParserIgnoresBlanks'. -/
def parserIgnoresBlanksUptoCard : Claim7 := { stood := { row := parserIgnoresBlanksUptoRow, standIns := [], harness := (true, "6822103ed093441613754651125a536eb7c88e985074bd3ee2c69459dcd289f4"), looks := true }, kinds := [], alts := [], laidByText := true, laidKinds := [.data, .data, .data, .sentinel, .sentinel, .widerDeep], laidTests := true, laidLooks := .later }
def ParserIgnoresBlanksUptoCardSaid : Prop := Claim7.holds Tryd.pinned (.plain (OpenSpec.upto parserIgnoresBlanksSpec)) parserIgnoresBlanksUptoCard

/-- THE SECOND FORM's CARD OF 'ambidexterlaw11.ParserRecoversFromErrors'. -/
def parserRecoversFromErrorsUptoCard : Claim7 := { stood := { row := parserRecoversFromErrorsUptoRow, standIns := [], harness := (true, "6822103ed093441613754651125a536eb7c88e985074bd3ee2c69459dcd289f4"), looks := true }, kinds := [], alts := [], laidByText := true, laidKinds := [.data, .data, .data, .sentinel, .sentinel, .widerDeep], laidTests := true, laidLooks := .later }
def ParserRecoversFromErrorsUptoCardSaid : Prop := Claim7.holds Tryd.pinned (.plain (OpenSpec.upto parserRecoversFromErrorsSpec)) parserRecoversFromErrorsUptoCard

/-- THE SECOND FORM's CARD OF 'ambidexterlaw11.ParserOffsetsIncrease'. -/
def parserOffsetsIncreaseUptoCard : Claim7 := { stood := { row := parserOffsetsIncreaseUptoRow, standIns := [], harness := (true, "6822103ed093441613754651125a536eb7c88e985074bd3ee2c69459dcd289f4"), looks := true }, kinds := [], alts := [], laidByText := true, laidKinds := [.data, .data, .data, .sentinel, .sentinel, .widerDeep], laidTests := true, laidLooks := .later }
def ParserOffsetsIncreaseUptoCardSaid : Prop := Claim7.holds Tryd.pinned (.plain (OpenSpec.upto parserOffsetsIncreaseSpec)) parserOffsetsIncreaseUptoCard
end Rows
end Go.Proofs.YtonhcfecfifghaaDoor
