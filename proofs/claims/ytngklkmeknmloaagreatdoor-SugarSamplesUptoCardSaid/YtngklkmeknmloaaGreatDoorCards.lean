/-
  DERIVED. GIVEN WITH THE SEED: THE CARDS: each row of YtngklkmeknmloaaGreatDoorRows.lean that lists a variable, with what it lists TIED to the program's text (the seventh form; the later family's looks); each row that meets fmt, with fmt's text TOLD by the authors' own Lean function (tested against real Go, not proved from fmt's source: count such statements apart). THE CARD IS WHAT COUNTS. Prove the row's statement (the work); the ties are given (YtngklkmeknmloaaGreatDoorTie.lean); close each card by the builder's one call (the guide's Derived/Test/ToyasCard.lean, 'card_holds'). Laid BY PROGRAM, IN A SANDBOX (cutbox-door.mjs). By AI agents, Wed Nov 11 2026. No macro, syntax, notation, axiom, sorry.
-/
import Derived.Test.YtngklkmeknmloaaGreatDoorRows
import GoSem.ClaimSeven
namespace Go.Proofs.YtngklkmeknmloaaGreatDoor
namespace Rows

/-- THE TIED CARD OF 'pendulelaw03.ParsePrograms'. -/
def parseProgramsCard : Claim7 := { stood := { row := parseProgramsRow, standIns := [], harness := (true, "d2714b7d2573d9c48b858e57e63750e133248602042ec03e7f81e007a8f77417"), looks := true }, kinds := [], alts := [], laidByText := true, laidKinds := [.data, .data, .data, .sentinel, .sentinel], laidTests := true, laidLooks := .later }
def ParseProgramsCardSaid : Prop := Claim7.holds Tryz.pinned (.plain (OpenSpec.ofChange parseProgramsSpec)) parseProgramsCard

/-- THE TIED CARD OF 'pendulelaw03.ParseExprs'. -/
def parseExprsCard : Claim7 := { stood := { row := parseExprsRow, standIns := [], harness := (true, "d2714b7d2573d9c48b858e57e63750e133248602042ec03e7f81e007a8f77417"), looks := true }, kinds := [], alts := [], laidByText := true, laidKinds := [.data, .data, .data, .sentinel, .sentinel], laidTests := true, laidLooks := .later }
def ParseExprsCardSaid : Prop := Claim7.holds Tryz.pinned (.plain (OpenSpec.ofChange parseExprsSpec)) parseExprsCard

/-- THE TIED CARD OF 'pendulelaw03.ParseBrackets'. -/
def parseBracketsCard : Claim7 := { stood := { row := parseBracketsRow, standIns := [], harness := (true, "d2714b7d2573d9c48b858e57e63750e133248602042ec03e7f81e007a8f77417"), looks := true }, kinds := [], alts := [], laidByText := true, laidKinds := [.data, .data, .data, .sentinel, .sentinel], laidTests := true, laidLooks := .later }
def ParseBracketsCardSaid : Prop := Claim7.holds Tryz.pinned (.plain (OpenSpec.ofChange parseBracketsSpec)) parseBracketsCard

/-- THE TIED CARD OF 'pendulelaw03.ParseBinds'. -/
def parseBindsCard : Claim7 := { stood := { row := parseBindsRow, standIns := [], harness := (true, "d2714b7d2573d9c48b858e57e63750e133248602042ec03e7f81e007a8f77417"), looks := true }, kinds := [], alts := [], laidByText := true, laidKinds := [.data, .data, .data, .sentinel, .sentinel], laidTests := true, laidLooks := .later }
def ParseBindsCardSaid : Prop := Claim7.holds Tryz.pinned (.plain (OpenSpec.ofChange parseBindsSpec)) parseBindsCard

/-- THE TIED CARD OF 'pendulelaw03.ParseJoins'. -/
def parseJoinsCard : Claim7 := { stood := { row := parseJoinsRow, standIns := [], harness := (true, "d2714b7d2573d9c48b858e57e63750e133248602042ec03e7f81e007a8f77417"), looks := true }, kinds := [], alts := [], laidByText := true, laidKinds := [.data, .data, .data, .sentinel, .sentinel], laidTests := true, laidLooks := .later }
def ParseJoinsCardSaid : Prop := Claim7.holds Tryz.pinned (.plain (OpenSpec.ofChange parseJoinsSpec)) parseJoinsCard

/-- THE TIED CARD OF 'pendulelaw03.ParseBack'. -/
def parseBackCard : Claim7 := { stood := { row := parseBackRow, standIns := [], harness := (true, "d2714b7d2573d9c48b858e57e63750e133248602042ec03e7f81e007a8f77417"), looks := true }, kinds := [], alts := [], laidByText := true, laidKinds := [.data, .data, .data, .sentinel, .sentinel], laidTests := true, laidLooks := .later }
def ParseBackCardSaid : Prop := Claim7.holds Tryz.pinned (.plain (OpenSpec.ofChange parseBackSpec)) parseBackCard

/-- THE TIED CARD OF 'pendulelaw03.ParseShown'. -/
def parseShownCard : Claim7 := { stood := { row := parseShownRow, standIns := [], harness := (true, "d2714b7d2573d9c48b858e57e63750e133248602042ec03e7f81e007a8f77417"), looks := true }, kinds := [], alts := [], laidByText := true, laidKinds := [.data, .data, .data, .sentinel, .sentinel], laidTests := true, laidLooks := .later }
def ParseShownCardSaid : Prop := Claim7.holds Tryz.pinned (.plain (OpenSpec.ofChange parseShownSpec)) parseShownCard

/-- THE TIED CARD OF 'pendulelaw06.SugarPlain'. -/
def sugarPlainCard : Claim7 := { stood := { row := sugarPlainRow, standIns := [], harness := (true, "d2714b7d2573d9c48b858e57e63750e133248602042ec03e7f81e007a8f77417"), looks := true }, kinds := [], alts := [], laidByText := true, laidKinds := [.data, .data, .data, .sentinel, .sentinel], laidTests := true, laidLooks := .later }
def SugarPlainCardSaid : Prop := Claim7.holds Tryz.pinned (.plain (OpenSpec.ofChange sugarPlainSpec)) sugarPlainCard

/-- THE TIED CARD OF 'pendulelaw06.SugarSamples'. -/
def sugarSamplesCard : Claim7 := { stood := { row := sugarSamplesRow, standIns := [], harness := (true, "d2714b7d2573d9c48b858e57e63750e133248602042ec03e7f81e007a8f77417"), looks := true }, kinds := [], alts := [], laidByText := true, laidKinds := [.data, .data, .data, .sentinel, .sentinel], laidTests := true, laidLooks := .later }
def SugarSamplesCardSaid : Prop := Claim7.holds Tryz.pinned (.plain (OpenSpec.ofChange sugarSamplesSpec)) sugarSamplesCard

/-- THE TIED CARD OF 'pendulelaw06.SugarWell'. -/
def sugarWellCard : Claim7 := { stood := { row := sugarWellRow, standIns := [], harness := (true, "d2714b7d2573d9c48b858e57e63750e133248602042ec03e7f81e007a8f77417"), looks := true }, kinds := [], alts := [], laidByText := true, laidKinds := [.data, .data, .data, .sentinel, .sentinel], laidTests := true, laidLooks := .later }
def SugarWellCardSaid : Prop := Claim7.holds Tryz.pinned (.plain (OpenSpec.ofChange sugarWellSpec)) sugarWellCard

/-- THE TIED CARD OF 'pendulelaw06.SugarEnums'. -/
def sugarEnumsCard : Claim7 := { stood := { row := sugarEnumsRow, standIns := [], harness := (true, "d2714b7d2573d9c48b858e57e63750e133248602042ec03e7f81e007a8f77417"), looks := true }, kinds := [], alts := [], laidByText := true, laidKinds := [.data, .data, .data, .sentinel, .sentinel], laidTests := true, laidLooks := .later }
def SugarEnumsCardSaid : Prop := Claim7.holds Tryz.pinned (.plain (OpenSpec.ofChange sugarEnumsSpec)) sugarEnumsCard

/-- THE TIED CARD OF 'pendulelaw06.SugarMatch'. -/
def sugarMatchCard : Claim7 := { stood := { row := sugarMatchRow, standIns := [], harness := (true, "d2714b7d2573d9c48b858e57e63750e133248602042ec03e7f81e007a8f77417"), looks := true }, kinds := [], alts := [], laidByText := true, laidKinds := [.data, .data, .data, .sentinel, .sentinel], laidTests := true, laidLooks := .later }
def SugarMatchCardSaid : Prop := Claim7.holds Tryz.pinned (.plain (OpenSpec.ofChange sugarMatchSpec)) sugarMatchCard

/-- THE SECOND FORM's CARD OF 'pendulelaw03.ParsePrograms'. -/
def parseProgramsUptoCard : Claim7 := { stood := { row := parseProgramsUptoRow, standIns := [], harness := (true, "d2714b7d2573d9c48b858e57e63750e133248602042ec03e7f81e007a8f77417"), looks := true }, kinds := [], alts := [], laidByText := true, laidKinds := [.data, .data, .data, .sentinel, .sentinel], laidTests := true, laidLooks := .later }
def ParseProgramsUptoCardSaid : Prop := Claim7.holds Tryz.pinned (.plain (OpenSpec.upto parseProgramsSpec)) parseProgramsUptoCard

/-- THE SECOND FORM's CARD OF 'pendulelaw03.ParseExprs'. -/
def parseExprsUptoCard : Claim7 := { stood := { row := parseExprsUptoRow, standIns := [], harness := (true, "d2714b7d2573d9c48b858e57e63750e133248602042ec03e7f81e007a8f77417"), looks := true }, kinds := [], alts := [], laidByText := true, laidKinds := [.data, .data, .data, .sentinel, .sentinel], laidTests := true, laidLooks := .later }
def ParseExprsUptoCardSaid : Prop := Claim7.holds Tryz.pinned (.plain (OpenSpec.upto parseExprsSpec)) parseExprsUptoCard

/-- THE SECOND FORM's CARD OF 'pendulelaw03.ParseBrackets'. -/
def parseBracketsUptoCard : Claim7 := { stood := { row := parseBracketsUptoRow, standIns := [], harness := (true, "d2714b7d2573d9c48b858e57e63750e133248602042ec03e7f81e007a8f77417"), looks := true }, kinds := [], alts := [], laidByText := true, laidKinds := [.data, .data, .data, .sentinel, .sentinel], laidTests := true, laidLooks := .later }
def ParseBracketsUptoCardSaid : Prop := Claim7.holds Tryz.pinned (.plain (OpenSpec.upto parseBracketsSpec)) parseBracketsUptoCard

/-- THE SECOND FORM's CARD OF 'pendulelaw03.ParseBinds'. -/
def parseBindsUptoCard : Claim7 := { stood := { row := parseBindsUptoRow, standIns := [], harness := (true, "d2714b7d2573d9c48b858e57e63750e133248602042ec03e7f81e007a8f77417"), looks := true }, kinds := [], alts := [], laidByText := true, laidKinds := [.data, .data, .data, .sentinel, .sentinel], laidTests := true, laidLooks := .later }
def ParseBindsUptoCardSaid : Prop := Claim7.holds Tryz.pinned (.plain (OpenSpec.upto parseBindsSpec)) parseBindsUptoCard

/-- THE SECOND FORM's CARD OF 'pendulelaw03.ParseJoins'. -/
def parseJoinsUptoCard : Claim7 := { stood := { row := parseJoinsUptoRow, standIns := [], harness := (true, "d2714b7d2573d9c48b858e57e63750e133248602042ec03e7f81e007a8f77417"), looks := true }, kinds := [], alts := [], laidByText := true, laidKinds := [.data, .data, .data, .sentinel, .sentinel], laidTests := true, laidLooks := .later }
def ParseJoinsUptoCardSaid : Prop := Claim7.holds Tryz.pinned (.plain (OpenSpec.upto parseJoinsSpec)) parseJoinsUptoCard

/-- THE SECOND FORM's CARD OF 'pendulelaw03.ParseBack'. -/
def parseBackUptoCard : Claim7 := { stood := { row := parseBackUptoRow, standIns := [], harness := (true, "d2714b7d2573d9c48b858e57e63750e133248602042ec03e7f81e007a8f77417"), looks := true }, kinds := [], alts := [], laidByText := true, laidKinds := [.data, .data, .data, .sentinel, .sentinel], laidTests := true, laidLooks := .later }
def ParseBackUptoCardSaid : Prop := Claim7.holds Tryz.pinned (.plain (OpenSpec.upto parseBackSpec)) parseBackUptoCard

/-- THE SECOND FORM's CARD OF 'pendulelaw03.ParseShown'. -/
def parseShownUptoCard : Claim7 := { stood := { row := parseShownUptoRow, standIns := [], harness := (true, "d2714b7d2573d9c48b858e57e63750e133248602042ec03e7f81e007a8f77417"), looks := true }, kinds := [], alts := [], laidByText := true, laidKinds := [.data, .data, .data, .sentinel, .sentinel], laidTests := true, laidLooks := .later }
def ParseShownUptoCardSaid : Prop := Claim7.holds Tryz.pinned (.plain (OpenSpec.upto parseShownSpec)) parseShownUptoCard

/-- THE SECOND FORM's CARD OF 'pendulelaw06.SugarPlain'. -/
def sugarPlainUptoCard : Claim7 := { stood := { row := sugarPlainUptoRow, standIns := [], harness := (true, "d2714b7d2573d9c48b858e57e63750e133248602042ec03e7f81e007a8f77417"), looks := true }, kinds := [], alts := [], laidByText := true, laidKinds := [.data, .data, .data, .sentinel, .sentinel], laidTests := true, laidLooks := .later }
def SugarPlainUptoCardSaid : Prop := Claim7.holds Tryz.pinned (.plain (OpenSpec.upto sugarPlainSpec)) sugarPlainUptoCard

/-- THE SECOND FORM's CARD OF 'pendulelaw06.SugarSamples'. -/
def sugarSamplesUptoCard : Claim7 := { stood := { row := sugarSamplesUptoRow, standIns := [], harness := (true, "d2714b7d2573d9c48b858e57e63750e133248602042ec03e7f81e007a8f77417"), looks := true }, kinds := [], alts := [], laidByText := true, laidKinds := [.data, .data, .data, .sentinel, .sentinel], laidTests := true, laidLooks := .later }
def SugarSamplesUptoCardSaid : Prop := Claim7.holds Tryz.pinned (.plain (OpenSpec.upto sugarSamplesSpec)) sugarSamplesUptoCard

/-- THE SECOND FORM's CARD OF 'pendulelaw06.SugarWell'. -/
def sugarWellUptoCard : Claim7 := { stood := { row := sugarWellUptoRow, standIns := [], harness := (true, "d2714b7d2573d9c48b858e57e63750e133248602042ec03e7f81e007a8f77417"), looks := true }, kinds := [], alts := [], laidByText := true, laidKinds := [.data, .data, .data, .sentinel, .sentinel], laidTests := true, laidLooks := .later }
def SugarWellUptoCardSaid : Prop := Claim7.holds Tryz.pinned (.plain (OpenSpec.upto sugarWellSpec)) sugarWellUptoCard

/-- THE SECOND FORM's CARD OF 'pendulelaw06.SugarEnums'. -/
def sugarEnumsUptoCard : Claim7 := { stood := { row := sugarEnumsUptoRow, standIns := [], harness := (true, "d2714b7d2573d9c48b858e57e63750e133248602042ec03e7f81e007a8f77417"), looks := true }, kinds := [], alts := [], laidByText := true, laidKinds := [.data, .data, .data, .sentinel, .sentinel], laidTests := true, laidLooks := .later }
def SugarEnumsUptoCardSaid : Prop := Claim7.holds Tryz.pinned (.plain (OpenSpec.upto sugarEnumsSpec)) sugarEnumsUptoCard

/-- THE SECOND FORM's CARD OF 'pendulelaw06.SugarMatch'. -/
def sugarMatchUptoCard : Claim7 := { stood := { row := sugarMatchUptoRow, standIns := [], harness := (true, "d2714b7d2573d9c48b858e57e63750e133248602042ec03e7f81e007a8f77417"), looks := true }, kinds := [], alts := [], laidByText := true, laidKinds := [.data, .data, .data, .sentinel, .sentinel], laidTests := true, laidLooks := .later }
def SugarMatchUptoCardSaid : Prop := Claim7.holds Tryz.pinned (.plain (OpenSpec.upto sugarMatchSpec)) sugarMatchUptoCard
end Rows
end Go.Proofs.YtngklkmeknmloaaGreatDoor
