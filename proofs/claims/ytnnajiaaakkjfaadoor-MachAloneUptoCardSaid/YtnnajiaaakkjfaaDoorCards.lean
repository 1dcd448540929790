/-
  DERIVED. GIVEN WITH THE SEED: THE CARDS: each row of YtnnajiaaakkjfaaDoorRows.lean that lists a variable, with what it lists TIED to the program's text (the seventh form; the later family's looks); each row that meets fmt, with fmt's text TOLD by the authors' own Lean function (tested against real Go, not proved from fmt's source: count such statements apart). THE CARD IS WHAT COUNTS. Prove the row's statement (the work); the ties are given (YtnnajiaaakkjfaaDoorTie.lean); close each card by the builder's one call (the guide's Derived/Test/ToyasCard.lean, 'card_holds'). Laid BY PROGRAM, IN A SANDBOX (cutbox-door.mjs). By AI agents, Wed Nov 11 2026. No macro, syntax, notation, axiom, sorry.
-/
import Derived.Test.YtnnajiaaakkjfaaDoorRows
import GoSem.ClaimSeven
namespace Go.Proofs.YtnnajiaaakkjfaaDoor
namespace Rows

/-- THE TIED CARD OF 'tocsinlaw13.MachRuns'. -/
def machRunsCard : Claim7 := { stood := { row := machRunsRow, standIns := [], harness := (true, "c925964d6ee0550ccc9b9b77719177b031e16cc5293aaad310006dccf5001969"), looks := false }, kinds := [], alts := [], laidByText := true, laidKinds := [.data], laidTests := true, laidLooks := .later }
def MachRunsCardSaid : Prop := Claim7.holds Tryd.pinned (.plain (OpenSpec.ofChange machRunsSpec)) machRunsCard

/-- THE TIED CARD OF 'tocsinlaw13.MachAlone'. -/
def machAloneCard : Claim7 := { stood := { row := machAloneRow, standIns := [], harness := (true, "c925964d6ee0550ccc9b9b77719177b031e16cc5293aaad310006dccf5001969"), looks := false }, kinds := [], alts := [], laidByText := true, laidKinds := [.data], laidTests := true, laidLooks := .later }
def MachAloneCardSaid : Prop := Claim7.holds Tryd.pinned (.plain (OpenSpec.ofChange machAloneSpec)) machAloneCard

/-- THE TIED CARD OF 'tocsinlaw13.MachStays'. -/
def machStaysCard : Claim7 := { stood := { row := machStaysRow, standIns := [], harness := (true, "c925964d6ee0550ccc9b9b77719177b031e16cc5293aaad310006dccf5001969"), looks := false }, kinds := [], alts := [], laidByText := true, laidKinds := [.data], laidTests := true, laidLooks := .later }
def MachStaysCardSaid : Prop := Claim7.holds Tryd.pinned (.plain (OpenSpec.ofChange machStaysSpec)) machStaysCard

/-- THE TIED CARD OF 'tocsinlaw13.MachStrengths'. -/
def machStrengthsCard : Claim7 := { stood := { row := machStrengthsRow, standIns := [], harness := (true, "c925964d6ee0550ccc9b9b77719177b031e16cc5293aaad310006dccf5001969"), looks := false }, kinds := [], alts := [], laidByText := true, laidKinds := [.data], laidTests := true, laidLooks := .later }
def MachStrengthsCardSaid : Prop := Claim7.holds Tryd.pinned (.plain (OpenSpec.ofChange machStrengthsSpec)) machStrengthsCard

/-- THE TIED CARD OF 'tocsinlaw13.MachJoins'. -/
def machJoinsCard : Claim7 := { stood := { row := machJoinsRow, standIns := [], harness := (true, "c925964d6ee0550ccc9b9b77719177b031e16cc5293aaad310006dccf5001969"), looks := false }, kinds := [], alts := [], laidByText := true, laidKinds := [.data], laidTests := true, laidLooks := .later }
def MachJoinsCardSaid : Prop := Claim7.holds Tryd.pinned (.plain (OpenSpec.ofChange machJoinsSpec)) machJoinsCard

/-- THE SECOND FORM's CARD OF 'tocsinlaw13.MachRuns'. -/
def machRunsUptoCard : Claim7 := { stood := { row := machRunsUptoRow, standIns := [], harness := (true, "c925964d6ee0550ccc9b9b77719177b031e16cc5293aaad310006dccf5001969"), looks := false }, kinds := [], alts := [], laidByText := true, laidKinds := [.data], laidTests := true, laidLooks := .later }
def MachRunsUptoCardSaid : Prop := Claim7.holds Tryd.pinned (.plain (OpenSpec.upto machRunsSpec)) machRunsUptoCard

/-- THE SECOND FORM's CARD OF 'tocsinlaw13.MachAlone'. -/
def machAloneUptoCard : Claim7 := { stood := { row := machAloneUptoRow, standIns := [], harness := (true, "c925964d6ee0550ccc9b9b77719177b031e16cc5293aaad310006dccf5001969"), looks := false }, kinds := [], alts := [], laidByText := true, laidKinds := [.data], laidTests := true, laidLooks := .later }
def MachAloneUptoCardSaid : Prop := Claim7.holds Tryd.pinned (.plain (OpenSpec.upto machAloneSpec)) machAloneUptoCard

/-- THE SECOND FORM's CARD OF 'tocsinlaw13.MachStays'. -/
def machStaysUptoCard : Claim7 := { stood := { row := machStaysUptoRow, standIns := [], harness := (true, "c925964d6ee0550ccc9b9b77719177b031e16cc5293aaad310006dccf5001969"), looks := false }, kinds := [], alts := [], laidByText := true, laidKinds := [.data], laidTests := true, laidLooks := .later }
def MachStaysUptoCardSaid : Prop := Claim7.holds Tryd.pinned (.plain (OpenSpec.upto machStaysSpec)) machStaysUptoCard

/-- THE SECOND FORM's CARD OF 'tocsinlaw13.MachStrengths'. -/
def machStrengthsUptoCard : Claim7 := { stood := { row := machStrengthsUptoRow, standIns := [], harness := (true, "c925964d6ee0550ccc9b9b77719177b031e16cc5293aaad310006dccf5001969"), looks := false }, kinds := [], alts := [], laidByText := true, laidKinds := [.data], laidTests := true, laidLooks := .later }
def MachStrengthsUptoCardSaid : Prop := Claim7.holds Tryd.pinned (.plain (OpenSpec.upto machStrengthsSpec)) machStrengthsUptoCard

/-- THE SECOND FORM's CARD OF 'tocsinlaw13.MachJoins'. -/
def machJoinsUptoCard : Claim7 := { stood := { row := machJoinsUptoRow, standIns := [], harness := (true, "c925964d6ee0550ccc9b9b77719177b031e16cc5293aaad310006dccf5001969"), looks := false }, kinds := [], alts := [], laidByText := true, laidKinds := [.data], laidTests := true, laidLooks := .later }
def MachJoinsUptoCardSaid : Prop := Claim7.holds Tryd.pinned (.plain (OpenSpec.upto machJoinsSpec)) machJoinsUptoCard
end Rows
end Go.Proofs.YtnnajiaaakkjfaaDoor
