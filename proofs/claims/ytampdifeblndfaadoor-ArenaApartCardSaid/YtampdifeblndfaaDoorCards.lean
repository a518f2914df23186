/-
  DERIVED. GIVEN WITH THE SEED: THE CARDS: each row of YtampdifeblndfaaDoorRows.lean that lists a variable, with what it lists TIED to the program's text (the seventh form; the later family's looks); each row that meets fmt, with fmt's text TOLD by the authors' own Lean function (tested against real Go, not proved from fmt's source: count such statements apart). THE CARD IS WHAT COUNTS. Prove the row's statement (the work); the ties are given (YtampdifeblndfaaDoorTie.lean); close each card by the builder's one call (the guide's Derived/Test/ToyasCard.lean, 'card_holds'). Laid BY PROGRAM, IN A SANDBOX (cutbox-door.mjs). By AI agents, Wed Nov 11 2026. No macro, syntax, notation, axiom, sorry.
-/
import Derived.Test.YtampdifeblndfaaDoorRows
import GoSem.ClaimSeven
namespace Go.Proofs.YtampdifeblndfaaDoor
namespace Rows

/-- THE TIED CARD OF 'treadmilllaw7.ArenaComes'. -/
def arenaComesCard : Claim7 := { stood := { row := arenaComesRow, standIns := [], harness := (true, "6946d83962036c135f3810dba69e43bddc98ac53bd2a086e60ef35e3a749a53a"), looks := true }, kinds := [], alts := [], laidByText := true, laidKinds := [.data], laidTests := true, laidLooks := .later }
def ArenaComesCardSaid : Prop := Claim7.holds Tryd.pinned (.plain (OpenSpec.ofChange arenaComesSpec)) arenaComesCard

/-- THE TIED CARD OF 'treadmilllaw7.ArenaBounds'. -/
def arenaBoundsCard : Claim7 := { stood := { row := arenaBoundsRow, standIns := [], harness := (true, "6946d83962036c135f3810dba69e43bddc98ac53bd2a086e60ef35e3a749a53a"), looks := true }, kinds := [], alts := [], laidByText := true, laidKinds := [.data], laidTests := true, laidLooks := .later }
def ArenaBoundsCardSaid : Prop := Claim7.holds Tryd.pinned (.plain (OpenSpec.ofChange arenaBoundsSpec)) arenaBoundsCard

/-- THE TIED CARD OF 'treadmilllaw7.ArenaApart'. -/
def arenaApartCard : Claim7 := { stood := { row := arenaApartRow, standIns := [], harness := (true, "6946d83962036c135f3810dba69e43bddc98ac53bd2a086e60ef35e3a749a53a"), looks := true }, kinds := [], alts := [], laidByText := true, laidKinds := [.data], laidTests := true, laidLooks := .later }
def ArenaApartCardSaid : Prop := Claim7.holds Tryd.pinned (.plain (OpenSpec.ofChange arenaApartSpec)) arenaApartCard

/-- THE TIED CARD OF 'treadmilllaw7.ArenaSums'. -/
def arenaSumsCard : Claim7 := { stood := { row := arenaSumsRow, standIns := [], harness := (true, "6946d83962036c135f3810dba69e43bddc98ac53bd2a086e60ef35e3a749a53a"), looks := true }, kinds := [], alts := [], laidByText := true, laidKinds := [.data], laidTests := true, laidLooks := .later }
def ArenaSumsCardSaid : Prop := Claim7.holds Tryd.pinned (.plain (OpenSpec.ofChange arenaSumsSpec)) arenaSumsCard

/-- THE TIED CARD OF 'treadmilllaw7.ArenaMarks'. -/
def arenaMarksCard : Claim7 := { stood := { row := arenaMarksRow, standIns := [], harness := (true, "6946d83962036c135f3810dba69e43bddc98ac53bd2a086e60ef35e3a749a53a"), looks := true }, kinds := [], alts := [], laidByText := true, laidKinds := [.data], laidTests := true, laidLooks := .later }
def ArenaMarksCardSaid : Prop := Claim7.holds Tryd.pinned (.plain (OpenSpec.ofChange arenaMarksSpec)) arenaMarksCard

/-- THE SECOND FORM's CARD OF 'treadmilllaw7.ArenaComes'. -/
def arenaComesUptoCard : Claim7 := { stood := { row := arenaComesUptoRow, standIns := [], harness := (true, "6946d83962036c135f3810dba69e43bddc98ac53bd2a086e60ef35e3a749a53a"), looks := true }, kinds := [], alts := [], laidByText := true, laidKinds := [.data], laidTests := true, laidLooks := .later }
def ArenaComesUptoCardSaid : Prop := Claim7.holds Tryd.pinned (.plain (OpenSpec.upto arenaComesSpec)) arenaComesUptoCard

/-- THE SECOND FORM's CARD OF 'treadmilllaw7.ArenaBounds'. -/
def arenaBoundsUptoCard : Claim7 := { stood := { row := arenaBoundsUptoRow, standIns := [], harness := (true, "6946d83962036c135f3810dba69e43bddc98ac53bd2a086e60ef35e3a749a53a"), looks := true }, kinds := [], alts := [], laidByText := true, laidKinds := [.data], laidTests := true, laidLooks := .later }
def ArenaBoundsUptoCardSaid : Prop := Claim7.holds Tryd.pinned (.plain (OpenSpec.upto arenaBoundsSpec)) arenaBoundsUptoCard

/-- THE SECOND FORM's CARD OF 'treadmilllaw7.ArenaApart'. -/
def arenaApartUptoCard : Claim7 := { stood := { row := arenaApartUptoRow, standIns := [], harness := (true, "6946d83962036c135f3810dba69e43bddc98ac53bd2a086e60ef35e3a749a53a"), looks := true }, kinds := [], alts := [], laidByText := true, laidKinds := [.data], laidTests := true, laidLooks := .later }
def ArenaApartUptoCardSaid : Prop := Claim7.holds Tryd.pinned (.plain (OpenSpec.upto arenaApartSpec)) arenaApartUptoCard

/-- THE SECOND FORM's CARD OF 'treadmilllaw7.ArenaSums'. -/
def arenaSumsUptoCard : Claim7 := { stood := { row := arenaSumsUptoRow, standIns := [], harness := (true, "6946d83962036c135f3810dba69e43bddc98ac53bd2a086e60ef35e3a749a53a"), looks := true }, kinds := [], alts := [], laidByText := true, laidKinds := [.data], laidTests := true, laidLooks := .later }
def ArenaSumsUptoCardSaid : Prop := Claim7.holds Tryd.pinned (.plain (OpenSpec.upto arenaSumsSpec)) arenaSumsUptoCard

/-- THE SECOND FORM's CARD OF 'treadmilllaw7.ArenaMarks'. -/
def arenaMarksUptoCard : Claim7 := { stood := { row := arenaMarksUptoRow, standIns := [], harness := (true, "6946d83962036c135f3810dba69e43bddc98ac53bd2a086e60ef35e3a749a53a"), looks := true }, kinds := [], alts := [], laidByText := true, laidKinds := [.data], laidTests := true, laidLooks := .later }
def ArenaMarksUptoCardSaid : Prop := Claim7.holds Tryd.pinned (.plain (OpenSpec.upto arenaMarksSpec)) arenaMarksUptoCard
end Rows
end Go.Proofs.YtampdifeblndfaaDoor
