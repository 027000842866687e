/-
  DERIVED. GIVEN WITH THE SEED: THE CARDS: each row of YthlfcdaakaadnaaDoorRows.lean that lists a variable, with what it lists TIED to the program's text (the seventh form; the later family's looks); each row that meets fmt, with fmt's text TOLD by the authors' own Lean function (tested against real Go, not proved from fmt's source: count such statements apart). THE CARD IS WHAT COUNTS. Prove the row's statement (the work); the ties are given (YthlfcdaakaadnaaDoorTie.lean); close each card by the builder's one call (the guide's Derived/Test/ToyasCard.lean, 'card_holds'). Laid BY PROGRAM, IN A SANDBOX (cutbox-door.mjs). By AI agents, Wed Nov 11 2026. No macro, syntax, notation, axiom, sorry.
-/
import Derived.Test.YthlfcdaakaadnaaDoorRows
import GoSem.ClaimSeven
namespace Go.Proofs.YthlfcdaakaadnaaDoor
namespace Rows

/-- THE TIED CARD OF 'assayerlaw03.TreeRoots'. -/
def treeRootsCard : Claim7 := { stood := { row := treeRootsRow, standIns := [], harness := (true, "89cbc06877871e19b5ef3930ec2dd1d89e444754886f64afc0875053076c63f2"), looks := false }, kinds := [], alts := [], laidByText := true, laidKinds := [.data, .data], laidTests := true, laidLooks := .later }
def TreeRootsCardSaid : Prop := Claim7.holds Tryd.pinned (.plain (OpenSpec.ofChange treeRootsSpec)) treeRootsCard

/-- THE TIED CARD OF 'assayerlaw03.TreeVerifies'. -/
def treeVerifiesCard : Claim7 := { stood := { row := treeVerifiesRow, standIns := [], harness := (true, "89cbc06877871e19b5ef3930ec2dd1d89e444754886f64afc0875053076c63f2"), looks := false }, kinds := [], alts := [], laidByText := true, laidKinds := [.data, .data], laidTests := true, laidLooks := .later }
def TreeVerifiesCardSaid : Prop := Claim7.holds Tryd.pinned (.plain (OpenSpec.ofChange treeVerifiesSpec)) treeVerifiesCard

/-- THE TIED CARD OF 'assayerlaw03.TreePaths'. -/
def treePathsCard : Claim7 := { stood := { row := treePathsRow, standIns := [], harness := (true, "89cbc06877871e19b5ef3930ec2dd1d89e444754886f64afc0875053076c63f2"), looks := false }, kinds := [], alts := [], laidByText := true, laidKinds := [.data, .data], laidTests := true, laidLooks := .later }
def TreePathsCardSaid : Prop := Claim7.holds Tryd.pinned (.plain (OpenSpec.ofChange treePathsSpec)) treePathsCard

/-- THE TIED CARD OF 'assayerlaw03.TreeParts'. -/
def treePartsCard : Claim7 := { stood := { row := treePartsRow, standIns := [], harness := (true, "89cbc06877871e19b5ef3930ec2dd1d89e444754886f64afc0875053076c63f2"), looks := false }, kinds := [], alts := [], laidByText := true, laidKinds := [.data, .data], laidTests := true, laidLooks := .later }
def TreePartsCardSaid : Prop := Claim7.holds Tryd.pinned (.plain (OpenSpec.ofChange treePartsSpec)) treePartsCard

/-- THE TIED CARD OF 'assayerlaw03.TreeGrows'. -/
def treeGrowsCard : Claim7 := { stood := { row := treeGrowsRow, standIns := [], harness := (true, "89cbc06877871e19b5ef3930ec2dd1d89e444754886f64afc0875053076c63f2"), looks := false }, kinds := [], alts := [], laidByText := true, laidKinds := [.data, .data], laidTests := true, laidLooks := .later }
def TreeGrowsCardSaid : Prop := Claim7.holds Tryd.pinned (.plain (OpenSpec.ofChange treeGrowsSpec)) treeGrowsCard

/-- THE TIED CARD OF 'assayerlaw03.TreePlaces'. -/
def treePlacesCard : Claim7 := { stood := { row := treePlacesRow, standIns := [], harness := (true, "89cbc06877871e19b5ef3930ec2dd1d89e444754886f64afc0875053076c63f2"), looks := false }, kinds := [], alts := [], laidByText := true, laidKinds := [.data, .data], laidTests := true, laidLooks := .later }
def TreePlacesCardSaid : Prop := Claim7.holds Tryd.pinned (.plain (OpenSpec.ofChange treePlacesSpec)) treePlacesCard

/-- THE TIED CARD OF 'assayerlaw03.TreeLong'. -/
def treeLongCard : Claim7 := { stood := { row := treeLongRow, standIns := [], harness := (true, "89cbc06877871e19b5ef3930ec2dd1d89e444754886f64afc0875053076c63f2"), looks := false }, kinds := [], alts := [], laidByText := true, laidKinds := [.data, .data], laidTests := true, laidLooks := .later }
def TreeLongCardSaid : Prop := Claim7.holds Tryd.pinned (.plain (OpenSpec.ofChange treeLongSpec)) treeLongCard

/-- THE SECOND FORM's CARD OF 'assayerlaw03.TreeRoots'. -/
def treeRootsUptoCard : Claim7 := { stood := { row := treeRootsUptoRow, standIns := [], harness := (true, "89cbc06877871e19b5ef3930ec2dd1d89e444754886f64afc0875053076c63f2"), looks := false }, kinds := [], alts := [], laidByText := true, laidKinds := [.data, .data], laidTests := true, laidLooks := .later }
def TreeRootsUptoCardSaid : Prop := Claim7.holds Tryd.pinned (.plain (OpenSpec.upto treeRootsSpec)) treeRootsUptoCard

/-- THE SECOND FORM's CARD OF 'assayerlaw03.TreeVerifies'. -/
def treeVerifiesUptoCard : Claim7 := { stood := { row := treeVerifiesUptoRow, standIns := [], harness := (true, "89cbc06877871e19b5ef3930ec2dd1d89e444754886f64afc0875053076c63f2"), looks := false }, kinds := [], alts := [], laidByText := true, laidKinds := [.data, .data], laidTests := true, laidLooks := .later }
def TreeVerifiesUptoCardSaid : Prop := Claim7.holds Tryd.pinned (.plain (OpenSpec.upto treeVerifiesSpec)) treeVerifiesUptoCard

/-- THE SECOND FORM's CARD OF 'assayerlaw03.TreePaths'. -/
def treePathsUptoCard : Claim7 := { stood := { row := treePathsUptoRow, standIns := [], harness := (true, "89cbc06877871e19b5ef3930ec2dd1d89e444754886f64afc0875053076c63f2"), looks := false }, kinds := [], alts := [], laidByText := true, laidKinds := [.data, .data], laidTests := true, laidLooks := .later }
def TreePathsUptoCardSaid : Prop := Claim7.holds Tryd.pinned (.plain (OpenSpec.upto treePathsSpec)) treePathsUptoCard

/-- THE SECOND FORM's CARD OF 'assayerlaw03.TreeParts'. -/
def treePartsUptoCard : Claim7 := { stood := { row := treePartsUptoRow, standIns := [], harness := (true, "89cbc06877871e19b5ef3930ec2dd1d89e444754886f64afc0875053076c63f2"), looks := false }, kinds := [], alts := [], laidByText := true, laidKinds := [.data, .data], laidTests := true, laidLooks := .later }
def TreePartsUptoCardSaid : Prop := Claim7.holds Tryd.pinned (.plain (OpenSpec.upto treePartsSpec)) treePartsUptoCard

/-- THE SECOND FORM's CARD OF 'assayerlaw03.TreeGrows'. -/
def treeGrowsUptoCard : Claim7 := { stood := { row := treeGrowsUptoRow, standIns := [], harness := (true, "89cbc06877871e19b5ef3930ec2dd1d89e444754886f64afc0875053076c63f2"), looks := false }, kinds := [], alts := [], laidByText := true, laidKinds := [.data, .data], laidTests := true, laidLooks := .later }
def TreeGrowsUptoCardSaid : Prop := Claim7.holds Tryd.pinned (.plain (OpenSpec.upto treeGrowsSpec)) treeGrowsUptoCard

/-- THE SECOND FORM's CARD OF 'assayerlaw03.TreePlaces'. -/
def treePlacesUptoCard : Claim7 := { stood := { row := treePlacesUptoRow, standIns := [], harness := (true, "89cbc06877871e19b5ef3930ec2dd1d89e444754886f64afc0875053076c63f2"), looks := false }, kinds := [], alts := [], laidByText := true, laidKinds := [.data, .data], laidTests := true, laidLooks := .later }
def TreePlacesUptoCardSaid : Prop := Claim7.holds Tryd.pinned (.plain (OpenSpec.upto treePlacesSpec)) treePlacesUptoCard

/-- THE SECOND FORM's CARD OF 'assayerlaw03.TreeLong'. -/
def treeLongUptoCard : Claim7 := { stood := { row := treeLongUptoRow, standIns := [], harness := (true, "89cbc06877871e19b5ef3930ec2dd1d89e444754886f64afc0875053076c63f2"), looks := false }, kinds := [], alts := [], laidByText := true, laidKinds := [.data, .data], laidTests := true, laidLooks := .later }
def TreeLongUptoCardSaid : Prop := Claim7.holds Tryd.pinned (.plain (OpenSpec.upto treeLongSpec)) treeLongUptoCard
end Rows
end Go.Proofs.YthlfcdaakaadnaaDoor
