/-
  DERIVED. GIVEN WITH THE SEED: THE CARDS: each row of YtnmejllfnndcbaaGreatDoorRows.lean that lists a variable, with what it lists TIED to the program's text (the seventh form; the later family's looks); each row that meets fmt, with fmt's text TOLD by the authors' own Lean function (tested against real Go, not proved from fmt's source: count such statements apart). THE CARD IS WHAT COUNTS. Prove the row's statement (the work); the ties are given (YtnmejllfnndcbaaGreatDoorTie.lean); close each card by the builder's one call (the guide's Derived/Test/ToyasCard.lean, 'card_holds'). Laid BY PROGRAM, IN A SANDBOX (cutbox-door.mjs). By AI agents, Wed Nov 11 2026. No macro, syntax, notation, axiom, sorry.
-/
import Derived.Test.YtnmejllfnndcbaaGreatDoorRows
import GoSem.ClaimSeven
namespace Go.Proofs.YtnmejllfnndcbaaGreatDoor
namespace Rows

/-- THE TIED CARD OF 'pendulelaw02.TreeRight'. -/
def treeRightCard : Claim7 := { stood := { row := treeRightRow, standIns := [], harness := (true, "4bc720a4fe3cd19873e44884e2792669a82190b906879d8f50c8627102de7822"), looks := true }, kinds := [], alts := [], laidByText := true, laidKinds := [.data, .data, .data], laidTests := true, laidLooks := .later }
def TreeRightCardSaid : Prop := Claim7.holds Tryz.pinned (.plain (OpenSpec.ofChange treeRightSpec)) treeRightCard

/-- THE TIED CARD OF 'pendulelaw02.TreePrints'. -/
def treePrintsCard : Claim7 := { stood := { row := treePrintsRow, standIns := [], harness := (true, "4bc720a4fe3cd19873e44884e2792669a82190b906879d8f50c8627102de7822"), looks := true }, kinds := [], alts := [], laidByText := true, laidKinds := [.data, .data, .data], laidTests := true, laidLooks := .later }
def TreePrintsCardSaid : Prop := Claim7.holds Tryz.pinned (.plain (OpenSpec.ofChange treePrintsSpec)) treePrintsCard

/-- THE TIED CARD OF 'pendulelaw02.TreeSame'. -/
def treeSameCard : Claim7 := { stood := { row := treeSameRow, standIns := [], harness := (true, "4bc720a4fe3cd19873e44884e2792669a82190b906879d8f50c8627102de7822"), looks := true }, kinds := [], alts := [], laidByText := true, laidKinds := [.data, .data, .data], laidTests := true, laidLooks := .later }
def TreeSameCardSaid : Prop := Claim7.holds Tryz.pinned (.plain (OpenSpec.ofChange treeSameSpec)) treeSameCard

/-- THE TIED CARD OF 'pendulelaw02.TreeGrows'. -/
def treeGrowsCard : Claim7 := { stood := { row := treeGrowsRow, standIns := [], harness := (true, "4bc720a4fe3cd19873e44884e2792669a82190b906879d8f50c8627102de7822"), looks := true }, kinds := [], alts := [], laidByText := true, laidKinds := [.data, .data, .data], laidTests := true, laidLooks := .later }
def TreeGrowsCardSaid : Prop := Claim7.holds Tryz.pinned (.plain (OpenSpec.ofChange treeGrowsSpec)) treeGrowsCard

/-- THE TIED CARD OF 'pendulelaw02.TreeSizes'. -/
def treeSizesCard : Claim7 := { stood := { row := treeSizesRow, standIns := [], harness := (true, "4bc720a4fe3cd19873e44884e2792669a82190b906879d8f50c8627102de7822"), looks := true }, kinds := [], alts := [], laidByText := true, laidKinds := [.data, .data, .data], laidTests := true, laidLooks := .later }
def TreeSizesCardSaid : Prop := Claim7.holds Tryz.pinned (.plain (OpenSpec.ofChange treeSizesSpec)) treeSizesCard

/-- THE TIED CARD OF 'pendulelaw02.TreeShows'. -/
def treeShowsCard : Claim7 := { stood := { row := treeShowsRow, standIns := [], harness := (true, "4bc720a4fe3cd19873e44884e2792669a82190b906879d8f50c8627102de7822"), looks := true }, kinds := [], alts := [], laidByText := true, laidKinds := [.data, .data, .data], laidTests := true, laidLooks := .later }
def TreeShowsCardSaid : Prop := Claim7.holds Tryz.pinned (.plain (OpenSpec.ofChange treeShowsSpec)) treeShowsCard

/-- THE TIED CARD OF 'pendulelaw02.TreeScans'. -/
def treeScansCard : Claim7 := { stood := { row := treeScansRow, standIns := [], harness := (true, "4bc720a4fe3cd19873e44884e2792669a82190b906879d8f50c8627102de7822"), looks := true }, kinds := [], alts := [], laidByText := true, laidKinds := [.data, .data, .data, .sentinel, .sentinel], laidTests := true, laidLooks := .later }
def TreeScansCardSaid : Prop := Claim7.holds Tryz.pinned (.plain (OpenSpec.ofChange treeScansSpec)) treeScansCard

/-- THE SECOND FORM's CARD OF 'pendulelaw02.TreeRight'. -/
def treeRightUptoCard : Claim7 := { stood := { row := treeRightUptoRow, standIns := [], harness := (true, "4bc720a4fe3cd19873e44884e2792669a82190b906879d8f50c8627102de7822"), looks := true }, kinds := [], alts := [], laidByText := true, laidKinds := [.data, .data, .data], laidTests := true, laidLooks := .later }
def TreeRightUptoCardSaid : Prop := Claim7.holds Tryz.pinned (.plain (OpenSpec.upto treeRightSpec)) treeRightUptoCard

/-- THE SECOND FORM's CARD OF 'pendulelaw02.TreePrints'. -/
def treePrintsUptoCard : Claim7 := { stood := { row := treePrintsUptoRow, standIns := [], harness := (true, "4bc720a4fe3cd19873e44884e2792669a82190b906879d8f50c8627102de7822"), looks := true }, kinds := [], alts := [], laidByText := true, laidKinds := [.data, .data, .data], laidTests := true, laidLooks := .later }
def TreePrintsUptoCardSaid : Prop := Claim7.holds Tryz.pinned (.plain (OpenSpec.upto treePrintsSpec)) treePrintsUptoCard

/-- THE SECOND FORM's CARD OF 'pendulelaw02.TreeSame'. -/
def treeSameUptoCard : Claim7 := { stood := { row := treeSameUptoRow, standIns := [], harness := (true, "4bc720a4fe3cd19873e44884e2792669a82190b906879d8f50c8627102de7822"), looks := true }, kinds := [], alts := [], laidByText := true, laidKinds := [.data, .data, .data], laidTests := true, laidLooks := .later }
def TreeSameUptoCardSaid : Prop := Claim7.holds Tryz.pinned (.plain (OpenSpec.upto treeSameSpec)) treeSameUptoCard

/-- THE SECOND FORM's CARD OF 'pendulelaw02.TreeGrows'. -/
def treeGrowsUptoCard : Claim7 := { stood := { row := treeGrowsUptoRow, standIns := [], harness := (true, "4bc720a4fe3cd19873e44884e2792669a82190b906879d8f50c8627102de7822"), looks := true }, kinds := [], alts := [], laidByText := true, laidKinds := [.data, .data, .data], laidTests := true, laidLooks := .later }
def TreeGrowsUptoCardSaid : Prop := Claim7.holds Tryz.pinned (.plain (OpenSpec.upto treeGrowsSpec)) treeGrowsUptoCard

/-- THE SECOND FORM's CARD OF 'pendulelaw02.TreeSizes'. -/
def treeSizesUptoCard : Claim7 := { stood := { row := treeSizesUptoRow, standIns := [], harness := (true, "4bc720a4fe3cd19873e44884e2792669a82190b906879d8f50c8627102de7822"), looks := true }, kinds := [], alts := [], laidByText := true, laidKinds := [.data, .data, .data], laidTests := true, laidLooks := .later }
def TreeSizesUptoCardSaid : Prop := Claim7.holds Tryz.pinned (.plain (OpenSpec.upto treeSizesSpec)) treeSizesUptoCard

/-- THE SECOND FORM's CARD OF 'pendulelaw02.TreeShows'. -/
def treeShowsUptoCard : Claim7 := { stood := { row := treeShowsUptoRow, standIns := [], harness := (true, "4bc720a4fe3cd19873e44884e2792669a82190b906879d8f50c8627102de7822"), looks := true }, kinds := [], alts := [], laidByText := true, laidKinds := [.data, .data, .data], laidTests := true, laidLooks := .later }
def TreeShowsUptoCardSaid : Prop := Claim7.holds Tryz.pinned (.plain (OpenSpec.upto treeShowsSpec)) treeShowsUptoCard

/-- THE SECOND FORM's CARD OF 'pendulelaw02.TreeScans'. -/
def treeScansUptoCard : Claim7 := { stood := { row := treeScansUptoRow, standIns := [], harness := (true, "4bc720a4fe3cd19873e44884e2792669a82190b906879d8f50c8627102de7822"), looks := true }, kinds := [], alts := [], laidByText := true, laidKinds := [.data, .data, .data, .sentinel, .sentinel], laidTests := true, laidLooks := .later }
def TreeScansUptoCardSaid : Prop := Claim7.holds Tryz.pinned (.plain (OpenSpec.upto treeScansSpec)) treeScansUptoCard
end Rows
end Go.Proofs.YtnmejllfnndcbaaGreatDoor
