/-
  DERIVED. GIVEN WITH THE SEED: THE CARDS: each row of YtoaajpppbjaomaaGreatDoorRows.lean that lists a variable, with what it lists TIED to the program's text (the seventh form; the later family's looks); each row that meets fmt, with fmt's text TOLD by the authors' own Lean function (tested against real Go, not proved from fmt's source: count such statements apart). THE CARD IS WHAT COUNTS. Prove the row's statement (the work); the ties are given (YtoaajpppbjaomaaGreatDoorTie.lean); close each card by the builder's one call (the guide's Derived/Test/ToyasCard.lean, 'card_holds'). Laid BY PROGRAM, IN A SANDBOX (cutbox-door.mjs). By AI agents, Wed Nov 11 2026. No macro, syntax, notation, axiom, sorry.
-/
import Derived.Test.YtoaajpppbjaomaaGreatDoorRows
import GoSem.ClaimSeven
namespace Go.Proofs.YtoaajpppbjaomaaGreatDoor
namespace Rows

/-- THE TIED CARD OF 'pendulelaw21.RunnerRuns'. -/
def runnerRunsCard : Claim7 := { stood := { row := runnerRunsRow, standIns := [], harness := (true, "c868e296168b4e78bc9536519f94a3a13681e4c953cc0650fda573908a2d97e1"), looks := true }, kinds := [], alts := [], laidByText := true, laidKinds := [.data, .data, .data, .data, .sentinel, .sentinel, .pinned], laidTests := true, laidLooks := .later }
def RunnerRunsCardSaid : Prop := Claim7.holds Tryz.pinned (.plain (OpenSpec.ofChange runnerRunsSpec)) runnerRunsCard

/-- THE TIED CARD OF 'pendulelaw21.RunnerBegins'. -/
def runnerBeginsCard : Claim7 := { stood := { row := runnerBeginsRow, standIns := [], harness := (true, "c868e296168b4e78bc9536519f94a3a13681e4c953cc0650fda573908a2d97e1"), looks := true }, kinds := [], alts := [], laidByText := true, laidKinds := [.data, .data, .data, .data, .sentinel, .sentinel, .pinned], laidTests := true, laidLooks := .later }
def RunnerBeginsCardSaid : Prop := Claim7.holds Tryz.pinned (.plain (OpenSpec.ofChange runnerBeginsSpec)) runnerBeginsCard

/-- THE TIED CARD OF 'pendulelaw21.RunnerStays'. -/
def runnerStaysCard : Claim7 := { stood := { row := runnerStaysRow, standIns := [], harness := (true, "c868e296168b4e78bc9536519f94a3a13681e4c953cc0650fda573908a2d97e1"), looks := true }, kinds := [], alts := [], laidByText := true, laidKinds := [.data, .data, .data, .data, .sentinel, .sentinel, .pinned], laidTests := true, laidLooks := .later }
def RunnerStaysCardSaid : Prop := Claim7.holds Tryz.pinned (.plain (OpenSpec.ofChange runnerStaysSpec)) runnerStaysCard

/-- THE SECOND FORM's CARD OF 'pendulelaw21.RunnerRuns'. -/
def runnerRunsUptoCard : Claim7 := { stood := { row := runnerRunsUptoRow, standIns := [], harness := (true, "c868e296168b4e78bc9536519f94a3a13681e4c953cc0650fda573908a2d97e1"), looks := true }, kinds := [], alts := [], laidByText := true, laidKinds := [.data, .data, .data, .data, .sentinel, .sentinel, .pinned], laidTests := true, laidLooks := .later }
def RunnerRunsUptoCardSaid : Prop := Claim7.holds Tryz.pinned (.plain (OpenSpec.upto runnerRunsSpec)) runnerRunsUptoCard

/-- THE SECOND FORM's CARD OF 'pendulelaw21.RunnerBegins'. -/
def runnerBeginsUptoCard : Claim7 := { stood := { row := runnerBeginsUptoRow, standIns := [], harness := (true, "c868e296168b4e78bc9536519f94a3a13681e4c953cc0650fda573908a2d97e1"), looks := true }, kinds := [], alts := [], laidByText := true, laidKinds := [.data, .data, .data, .data, .sentinel, .sentinel, .pinned], laidTests := true, laidLooks := .later }
def RunnerBeginsUptoCardSaid : Prop := Claim7.holds Tryz.pinned (.plain (OpenSpec.upto runnerBeginsSpec)) runnerBeginsUptoCard

/-- THE SECOND FORM's CARD OF 'pendulelaw21.RunnerStays'. -/
def runnerStaysUptoCard : Claim7 := { stood := { row := runnerStaysUptoRow, standIns := [], harness := (true, "c868e296168b4e78bc9536519f94a3a13681e4c953cc0650fda573908a2d97e1"), looks := true }, kinds := [], alts := [], laidByText := true, laidKinds := [.data, .data, .data, .data, .sentinel, .sentinel, .pinned], laidTests := true, laidLooks := .later }
def RunnerStaysUptoCardSaid : Prop := Claim7.holds Tryz.pinned (.plain (OpenSpec.upto runnerStaysSpec)) runnerStaysUptoCard
end Rows
end Go.Proofs.YtoaajpppbjaomaaGreatDoor
