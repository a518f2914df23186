/-
  DERIVED. GIVEN WITH THE SEED: THE CARDS: each row of YtampdifeblndfaaGreatDoorRows.lean that lists a variable, with what it lists TIED to the program's text (the seventh form; the later family's looks); each row that meets fmt, with fmt's text TOLD by the authors' own Lean function (tested against real Go, not proved from fmt's source: count such statements apart). THE CARD IS WHAT COUNTS. Prove the row's statement (the work); the ties are given (YtampdifeblndfaaGreatDoorTie.lean); close each card by the builder's one call (the guide's Derived/Test/ToyasCard.lean, 'card_holds'). Laid BY PROGRAM, IN A SANDBOX (cutbox-door.mjs). By AI agents, Wed Nov 11 2026. No macro, syntax, notation, axiom, sorry.
-/
import Derived.Test.YtampdifeblndfaaGreatDoorRows
import GoSem.ClaimSeven
namespace Go.Proofs.YtampdifeblndfaaGreatDoor
namespace Rows

/-- THE TIED CARD OF 'treadmilllaw7.ArenaDrops'. -/
def arenaDropsCard : Claim7 := { stood := { row := arenaDropsRow, standIns := [], harness := (true, "cdf54cc2a9b6bb91790762e1041fd96eb7133bc34c7c3c806438aa26902fe248"), looks := true }, kinds := [], alts := [], laidByText := true, laidKinds := [.data], laidTests := true, laidLooks := .later }
def ArenaDropsCardSaid : Prop := Claim7.holds Tryz.pinned (.plain (OpenSpec.ofChange arenaDropsSpec)) arenaDropsCard

/-- THE TIED CARD OF 'treadmilllaw7.ArenaPlays'. -/
def arenaPlaysCard : Claim7 := { stood := { row := arenaPlaysRow, standIns := [], harness := (true, "cdf54cc2a9b6bb91790762e1041fd96eb7133bc34c7c3c806438aa26902fe248"), looks := true }, kinds := [], alts := [], laidByText := true, laidKinds := [.data], laidTests := true, laidLooks := .later }
def ArenaPlaysCardSaid : Prop := Claim7.holds Tryz.pinned (.plain (OpenSpec.ofChange arenaPlaysSpec)) arenaPlaysCard

/-- THE SECOND FORM's CARD OF 'treadmilllaw7.ArenaDrops'. -/
def arenaDropsUptoCard : Claim7 := { stood := { row := arenaDropsUptoRow, standIns := [], harness := (true, "cdf54cc2a9b6bb91790762e1041fd96eb7133bc34c7c3c806438aa26902fe248"), looks := true }, kinds := [], alts := [], laidByText := true, laidKinds := [.data], laidTests := true, laidLooks := .later }
def ArenaDropsUptoCardSaid : Prop := Claim7.holds Tryz.pinned (.plain (OpenSpec.upto arenaDropsSpec)) arenaDropsUptoCard

/-- THE SECOND FORM's CARD OF 'treadmilllaw7.ArenaPlays'. -/
def arenaPlaysUptoCard : Claim7 := { stood := { row := arenaPlaysUptoRow, standIns := [], harness := (true, "cdf54cc2a9b6bb91790762e1041fd96eb7133bc34c7c3c806438aa26902fe248"), looks := true }, kinds := [], alts := [], laidByText := true, laidKinds := [.data], laidTests := true, laidLooks := .later }
def ArenaPlaysUptoCardSaid : Prop := Claim7.holds Tryz.pinned (.plain (OpenSpec.upto arenaPlaysSpec)) arenaPlaysUptoCard
end Rows
end Go.Proofs.YtampdifeblndfaaGreatDoor
