/-
  DERIVED. GIVEN WITH THE SEED: THE CARDS: each row of YtgdoeoackhfikaaGreatDoorRows.lean that lists a variable, with what it lists TIED to the program's text (the seventh form; the later family's looks); each row that meets fmt, with fmt's text TOLD by the authors' own Lean function (tested against real Go, not proved from fmt's source: count such statements apart). THE CARD IS WHAT COUNTS. Prove the row's statement (the work); the ties are given (YtgdoeoackhfikaaGreatDoorTie.lean); close each card by the builder's one call (the guide's Derived/Test/ToyasCard.lean, 'card_holds'). Laid BY PROGRAM, IN A SANDBOX (cutbox-door.mjs). By AI agents, Wed Nov 11 2026. No macro, syntax, notation, axiom, sorry.
-/
import Derived.Test.YtgdoeoackhfikaaGreatDoorRows
import GoSem.ClaimSeven
namespace Go.Proofs.YtgdoeoackhfikaaGreatDoor
namespace Rows

/-- THE TIED CARD OF 'hatstandlaw17.RunnerErrs'. -/
def runnerErrsCard : Claim7 := { stood := { row := runnerErrsRow, standIns := [], harness := (true, "79f4e497c56fc62f7c02d1d61108a16a024c8e762c7d0c0b4157268aa1b3aec7"), looks := true }, kinds := [], alts := [], laidByText := true, laidKinds := [.data, .data, .data, .data, .sentinel, .sentinel, .pinned], laidTests := true, laidLooks := .later }
def RunnerErrsCardSaid : Prop := Claim7.holds Tryz.pinned (.plain (OpenSpec.ofChange runnerErrsSpec)) runnerErrsCard

/-- THE TIED CARD OF 'hatstandlaw17.RunnerRuns'. -/
def runnerRunsCard : Claim7 := { stood := { row := runnerRunsRow, standIns := [], harness := (true, "79f4e497c56fc62f7c02d1d61108a16a024c8e762c7d0c0b4157268aa1b3aec7"), looks := true }, kinds := [], alts := [], laidByText := true, laidKinds := [.data, .data, .data, .data, .sentinel, .sentinel, .pinned], laidTests := true, laidLooks := .later }
def RunnerRunsCardSaid : Prop := Claim7.holds Tryz.pinned (.plain (OpenSpec.ofChange runnerRunsSpec)) runnerRunsCard

/-- THE TIED CARD OF 'hatstandlaw17.RunnerAsks'. -/
def runnerAsksCard : Claim7 := { stood := { row := runnerAsksRow, standIns := [], harness := (true, "79f4e497c56fc62f7c02d1d61108a16a024c8e762c7d0c0b4157268aa1b3aec7"), looks := true }, kinds := [], alts := [], laidByText := true, laidKinds := [.data, .data, .data, .data, .sentinel, .sentinel, .pinned], laidTests := true, laidLooks := .later }
def RunnerAsksCardSaid : Prop := Claim7.holds Tryz.pinned (.plain (OpenSpec.ofChange runnerAsksSpec)) runnerAsksCard

/-- THE TIED CARD OF 'hatstandlaw17.RunnerSkips'. -/
def runnerSkipsCard : Claim7 := { stood := { row := runnerSkipsRow, standIns := [], harness := (true, "79f4e497c56fc62f7c02d1d61108a16a024c8e762c7d0c0b4157268aa1b3aec7"), looks := true }, kinds := [], alts := [], laidByText := true, laidKinds := [.data, .data, .data, .data, .sentinel, .sentinel, .pinned], laidTests := true, laidLooks := .later }
def RunnerSkipsCardSaid : Prop := Claim7.holds Tryz.pinned (.plain (OpenSpec.ofChange runnerSkipsSpec)) runnerSkipsCard

/-- THE TIED CARD OF 'hatstandlaw17.RunnerPlays'. -/
def runnerPlaysCard : Claim7 := { stood := { row := runnerPlaysRow, standIns := [], harness := (true, "79f4e497c56fc62f7c02d1d61108a16a024c8e762c7d0c0b4157268aa1b3aec7"), looks := true }, kinds := [], alts := [], laidByText := true, laidKinds := [.data, .data, .data, .data, .sentinel, .sentinel, .pinned], laidTests := true, laidLooks := .later }
def RunnerPlaysCardSaid : Prop := Claim7.holds Tryz.pinned (.plain (OpenSpec.ofChange runnerPlaysSpec)) runnerPlaysCard

/-- THE TIED CARD OF 'hatstandlaw17.RunnerFirst'. -/
def runnerFirstCard : Claim7 := { stood := { row := runnerFirstRow, standIns := [], harness := (true, "79f4e497c56fc62f7c02d1d61108a16a024c8e762c7d0c0b4157268aa1b3aec7"), looks := true }, kinds := [], alts := [], laidByText := true, laidKinds := [.data, .data, .data, .data, .sentinel, .sentinel, .pinned], laidTests := true, laidLooks := .later }
def RunnerFirstCardSaid : Prop := Claim7.holds Tryz.pinned (.plain (OpenSpec.ofChange runnerFirstSpec)) runnerFirstCard

/-- THE TIED CARD OF 'hatstandlaw17.RunnerRight'. -/
def runnerRightCard : Claim7 := { stood := { row := runnerRightRow, standIns := [], harness := (true, "79f4e497c56fc62f7c02d1d61108a16a024c8e762c7d0c0b4157268aa1b3aec7"), looks := true }, kinds := [], alts := [], laidByText := true, laidKinds := [.data, .data, .data, .data, .sentinel, .sentinel, .pinned], laidTests := true, laidLooks := .later }
def RunnerRightCardSaid : Prop := Claim7.holds Tryz.pinned (.plain (OpenSpec.ofChange runnerRightSpec)) runnerRightCard

/-- THE SECOND FORM's CARD OF 'hatstandlaw17.RunnerErrs'. -/
def runnerErrsUptoCard : Claim7 := { stood := { row := runnerErrsUptoRow, standIns := [], harness := (true, "79f4e497c56fc62f7c02d1d61108a16a024c8e762c7d0c0b4157268aa1b3aec7"), looks := true }, kinds := [], alts := [], laidByText := true, laidKinds := [.data, .data, .data, .data, .sentinel, .sentinel, .pinned], laidTests := true, laidLooks := .later }
def RunnerErrsUptoCardSaid : Prop := Claim7.holds Tryz.pinned (.plain (OpenSpec.upto runnerErrsSpec)) runnerErrsUptoCard

/-- THE SECOND FORM's CARD OF 'hatstandlaw17.RunnerRuns'. -/
def runnerRunsUptoCard : Claim7 := { stood := { row := runnerRunsUptoRow, standIns := [], harness := (true, "79f4e497c56fc62f7c02d1d61108a16a024c8e762c7d0c0b4157268aa1b3aec7"), looks := true }, kinds := [], alts := [], laidByText := true, laidKinds := [.data, .data, .data, .data, .sentinel, .sentinel, .pinned], laidTests := true, laidLooks := .later }
def RunnerRunsUptoCardSaid : Prop := Claim7.holds Tryz.pinned (.plain (OpenSpec.upto runnerRunsSpec)) runnerRunsUptoCard

/-- THE SECOND FORM's CARD OF 'hatstandlaw17.RunnerAsks'. -/
def runnerAsksUptoCard : Claim7 := { stood := { row := runnerAsksUptoRow, standIns := [], harness := (true, "79f4e497c56fc62f7c02d1d61108a16a024c8e762c7d0c0b4157268aa1b3aec7"), looks := true }, kinds := [], alts := [], laidByText := true, laidKinds := [.data, .data, .data, .data, .sentinel, .sentinel, .pinned], laidTests := true, laidLooks := .later }
def RunnerAsksUptoCardSaid : Prop := Claim7.holds Tryz.pinned (.plain (OpenSpec.upto runnerAsksSpec)) runnerAsksUptoCard

/-- THE SECOND FORM's CARD OF 'hatstandlaw17.RunnerSkips'. -/
def runnerSkipsUptoCard : Claim7 := { stood := { row := runnerSkipsUptoRow, standIns := [], harness := (true, "79f4e497c56fc62f7c02d1d61108a16a024c8e762c7d0c0b4157268aa1b3aec7"), looks := true }, kinds := [], alts := [], laidByText := true, laidKinds := [.data, .data, .data, .data, .sentinel, .sentinel, .pinned], laidTests := true, laidLooks := .later }
def RunnerSkipsUptoCardSaid : Prop := Claim7.holds Tryz.pinned (.plain (OpenSpec.upto runnerSkipsSpec)) runnerSkipsUptoCard

/-- THE SECOND FORM's CARD OF 'hatstandlaw17.RunnerPlays'. -/
def runnerPlaysUptoCard : Claim7 := { stood := { row := runnerPlaysUptoRow, standIns := [], harness := (true, "79f4e497c56fc62f7c02d1d61108a16a024c8e762c7d0c0b4157268aa1b3aec7"), looks := true }, kinds := [], alts := [], laidByText := true, laidKinds := [.data, .data, .data, .data, .sentinel, .sentinel, .pinned], laidTests := true, laidLooks := .later }
def RunnerPlaysUptoCardSaid : Prop := Claim7.holds Tryz.pinned (.plain (OpenSpec.upto runnerPlaysSpec)) runnerPlaysUptoCard

/-- THE SECOND FORM's CARD OF 'hatstandlaw17.RunnerFirst'. -/
def runnerFirstUptoCard : Claim7 := { stood := { row := runnerFirstUptoRow, standIns := [], harness := (true, "79f4e497c56fc62f7c02d1d61108a16a024c8e762c7d0c0b4157268aa1b3aec7"), looks := true }, kinds := [], alts := [], laidByText := true, laidKinds := [.data, .data, .data, .data, .sentinel, .sentinel, .pinned], laidTests := true, laidLooks := .later }
def RunnerFirstUptoCardSaid : Prop := Claim7.holds Tryz.pinned (.plain (OpenSpec.upto runnerFirstSpec)) runnerFirstUptoCard

/-- THE SECOND FORM's CARD OF 'hatstandlaw17.RunnerRight'. -/
def runnerRightUptoCard : Claim7 := { stood := { row := runnerRightUptoRow, standIns := [], harness := (true, "79f4e497c56fc62f7c02d1d61108a16a024c8e762c7d0c0b4157268aa1b3aec7"), looks := true }, kinds := [], alts := [], laidByText := true, laidKinds := [.data, .data, .data, .data, .sentinel, .sentinel, .pinned], laidTests := true, laidLooks := .later }
def RunnerRightUptoCardSaid : Prop := Claim7.holds Tryz.pinned (.plain (OpenSpec.upto runnerRightSpec)) runnerRightUptoCard
end Rows
end Go.Proofs.YtgdoeoackhfikaaGreatDoor
