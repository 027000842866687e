/-
  DERIVED. GIVEN WITH THE SEED: THE CARDS: each row of YtifcdmfkojhdnaaDoorRows.lean that lists a variable, with what it lists TIED to the program's text (the seventh form; the later family's looks); each row that meets fmt, with fmt's text TOLD by the authors' own Lean function (tested against real Go, not proved from fmt's source: count such statements apart). THE CARD IS WHAT COUNTS. Prove the row's statement (the work); the ties are given (YtifcdmfkojhdnaaDoorTie.lean); close each card by the builder's one call (the guide's Derived/Test/ToyasCard.lean, 'card_holds'). Laid BY PROGRAM, IN A SANDBOX (cutbox-door.mjs). By AI agents, Wed Nov 11 2026. No macro, syntax, notation, axiom, sorry.
-/
import Derived.Test.YtifcdmfkojhdnaaDoorRows
import GoSem.ClaimSeven
namespace Go.Proofs.YtifcdmfkojhdnaaDoor
namespace Rows

/-- THE TIED CARD OF 'assayerlaw07.LamportTells'. -/
def lamportTellsCard : Claim7 := { stood := { row := lamportTellsRow, standIns := [], harness := (true, "5bfe4ec8bd07d109b894e1f72a5ad0c22d706f183995b6c6fdf8ad4f54ee7716"), looks := false }, kinds := [], alts := [], laidByText := true, laidKinds := [.data, .data], laidTests := true, laidLooks := .later }
def LamportTellsCardSaid : Prop := Claim7.holds Tryd.pinned (.plain (OpenSpec.ofChange lamportTellsSpec)) lamportTellsCard

/-- THE TIED CARD OF 'assayerlaw07.LamportSigns'. -/
def lamportSignsCard : Claim7 := { stood := { row := lamportSignsRow, standIns := [], harness := (true, "5bfe4ec8bd07d109b894e1f72a5ad0c22d706f183995b6c6fdf8ad4f54ee7716"), looks := false }, kinds := [], alts := [], laidByText := true, laidKinds := [.data, .data], laidTests := true, laidLooks := .later }
def LamportSignsCardSaid : Prop := Claim7.holds Tryd.pinned (.plain (OpenSpec.ofChange lamportSignsSpec)) lamportSignsCard

/-- THE TIED CARD OF 'assayerlaw07.LamportHalves'. -/
def lamportHalvesCard : Claim7 := { stood := { row := lamportHalvesRow, standIns := [], harness := (true, "5bfe4ec8bd07d109b894e1f72a5ad0c22d706f183995b6c6fdf8ad4f54ee7716"), looks := false }, kinds := [], alts := [], laidByText := true, laidKinds := [.data, .data], laidTests := true, laidLooks := .later }
def LamportHalvesCardSaid : Prop := Claim7.holds Tryd.pinned (.plain (OpenSpec.ofChange lamportHalvesSpec)) lamportHalvesCard

/-- THE TIED CARD OF 'assayerlaw07.LamportIndex'. -/
def lamportIndexCard : Claim7 := { stood := { row := lamportIndexRow, standIns := [], harness := (true, "5bfe4ec8bd07d109b894e1f72a5ad0c22d706f183995b6c6fdf8ad4f54ee7716"), looks := false }, kinds := [], alts := [], laidByText := true, laidKinds := [.data, .data], laidTests := true, laidLooks := .later }
def LamportIndexCardSaid : Prop := Claim7.holds Tryd.pinned (.plain (OpenSpec.ofChange lamportIndexSpec)) lamportIndexCard

/-- THE TIED CARD OF 'assayerlaw07.LamportOther'. -/
def lamportOtherCard : Claim7 := { stood := { row := lamportOtherRow, standIns := [], harness := (true, "5bfe4ec8bd07d109b894e1f72a5ad0c22d706f183995b6c6fdf8ad4f54ee7716"), looks := false }, kinds := [], alts := [], laidByText := true, laidKinds := [.data, .data], laidTests := true, laidLooks := .later }
def LamportOtherCardSaid : Prop := Claim7.holds Tryd.pinned (.plain (OpenSpec.ofChange lamportOtherSpec)) lamportOtherCard

/-- THE SECOND FORM's CARD OF 'assayerlaw07.LamportTells'. -/
def lamportTellsUptoCard : Claim7 := { stood := { row := lamportTellsUptoRow, standIns := [], harness := (true, "5bfe4ec8bd07d109b894e1f72a5ad0c22d706f183995b6c6fdf8ad4f54ee7716"), looks := false }, kinds := [], alts := [], laidByText := true, laidKinds := [.data, .data], laidTests := true, laidLooks := .later }
def LamportTellsUptoCardSaid : Prop := Claim7.holds Tryd.pinned (.plain (OpenSpec.upto lamportTellsSpec)) lamportTellsUptoCard

/-- THE SECOND FORM's CARD OF 'assayerlaw07.LamportSigns'. -/
def lamportSignsUptoCard : Claim7 := { stood := { row := lamportSignsUptoRow, standIns := [], harness := (true, "5bfe4ec8bd07d109b894e1f72a5ad0c22d706f183995b6c6fdf8ad4f54ee7716"), looks := false }, kinds := [], alts := [], laidByText := true, laidKinds := [.data, .data], laidTests := true, laidLooks := .later }
def LamportSignsUptoCardSaid : Prop := Claim7.holds Tryd.pinned (.plain (OpenSpec.upto lamportSignsSpec)) lamportSignsUptoCard

/-- THE SECOND FORM's CARD OF 'assayerlaw07.LamportHalves'. -/
def lamportHalvesUptoCard : Claim7 := { stood := { row := lamportHalvesUptoRow, standIns := [], harness := (true, "5bfe4ec8bd07d109b894e1f72a5ad0c22d706f183995b6c6fdf8ad4f54ee7716"), looks := false }, kinds := [], alts := [], laidByText := true, laidKinds := [.data, .data], laidTests := true, laidLooks := .later }
def LamportHalvesUptoCardSaid : Prop := Claim7.holds Tryd.pinned (.plain (OpenSpec.upto lamportHalvesSpec)) lamportHalvesUptoCard

/-- THE SECOND FORM's CARD OF 'assayerlaw07.LamportIndex'. -/
def lamportIndexUptoCard : Claim7 := { stood := { row := lamportIndexUptoRow, standIns := [], harness := (true, "5bfe4ec8bd07d109b894e1f72a5ad0c22d706f183995b6c6fdf8ad4f54ee7716"), looks := false }, kinds := [], alts := [], laidByText := true, laidKinds := [.data, .data], laidTests := true, laidLooks := .later }
def LamportIndexUptoCardSaid : Prop := Claim7.holds Tryd.pinned (.plain (OpenSpec.upto lamportIndexSpec)) lamportIndexUptoCard

/-- THE SECOND FORM's CARD OF 'assayerlaw07.LamportOther'. -/
def lamportOtherUptoCard : Claim7 := { stood := { row := lamportOtherUptoRow, standIns := [], harness := (true, "5bfe4ec8bd07d109b894e1f72a5ad0c22d706f183995b6c6fdf8ad4f54ee7716"), looks := false }, kinds := [], alts := [], laidByText := true, laidKinds := [.data, .data], laidTests := true, laidLooks := .later }
def LamportOtherUptoCardSaid : Prop := Claim7.holds Tryd.pinned (.plain (OpenSpec.upto lamportOtherSpec)) lamportOtherUptoCard
end Rows
end Go.Proofs.YtifcdmfkojhdnaaDoor
