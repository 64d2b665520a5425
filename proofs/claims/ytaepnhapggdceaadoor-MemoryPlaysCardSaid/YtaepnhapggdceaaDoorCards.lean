/-
  DERIVED. GIVEN WITH THE SEED: THE CARDS: each row of YtaepnhapggdceaaDoorRows.lean that lists a variable, with what it lists TIED to the program's text (the seventh form; the later family's looks); each row that meets fmt, with fmt's text TOLD by the authors' own Lean function (tested against real Go, not proved from fmt's source: count such statements apart). THE CARD IS WHAT COUNTS. Prove the row's statement (the work); the ties are given (YtaepnhapggdceaaDoorTie.lean); close each card by the builder's one call (the guide's Derived/Test/ToyasCard.lean, 'card_holds'). Laid BY PROGRAM, IN A SANDBOX (cutbox-door.mjs). By AI agents, Wed Nov 11 2026. No macro, syntax, notation, axiom, sorry.
-/
import Derived.Test.YtaepnhapggdceaaDoorRows
import GoSem.ClaimSeven
namespace Go.Proofs.YtaepnhapggdceaaDoor
namespace Rows

/-- THE TIED CARD OF 'whelklaw10.MemoryFull'. -/
def memoryFullCard : Claim7 := { stood := { row := memoryFullRow, standIns := [], harness := (true, "e621666a6b1a0eebf223f11397c4257d6633e6b9fcf093bde8ae19c20b5c0b2d"), looks := false }, kinds := [], alts := [], laidByText := true, laidKinds := [.data, .data, .data], laidTests := true, laidLooks := .later }
def MemoryFullCardSaid : Prop := Claim7.holds Tryd.pinned (.plain (OpenSpec.ofChange memoryFullSpec)) memoryFullCard

/-- THE TIED CARD OF 'whelklaw10.MemoryKinds'. -/
def memoryKindsCard : Claim7 := { stood := { row := memoryKindsRow, standIns := [], harness := (true, "e621666a6b1a0eebf223f11397c4257d6633e6b9fcf093bde8ae19c20b5c0b2d"), looks := false }, kinds := [], alts := [], laidByText := true, laidKinds := [.data, .data, .data], laidTests := true, laidLooks := .later }
def MemoryKindsCardSaid : Prop := Claim7.holds Tryd.pinned (.plain (OpenSpec.ofChange memoryKindsSpec)) memoryKindsCard

/-- THE TIED CARD OF 'whelklaw10.MemoryAgain'. -/
def memoryAgainCard : Claim7 := { stood := { row := memoryAgainRow, standIns := [], harness := (true, "e621666a6b1a0eebf223f11397c4257d6633e6b9fcf093bde8ae19c20b5c0b2d"), looks := false }, kinds := [], alts := [], laidByText := true, laidKinds := [.data, .data, .data], laidTests := true, laidLooks := .later }
def MemoryAgainCardSaid : Prop := Claim7.holds Tryd.pinned (.plain (OpenSpec.ofChange memoryAgainSpec)) memoryAgainCard

/-- THE TIED CARD OF 'whelklaw10.MemoryPlays'. -/
def memoryPlaysCard : Claim7 := { stood := { row := memoryPlaysRow, standIns := [], harness := (true, "e621666a6b1a0eebf223f11397c4257d6633e6b9fcf093bde8ae19c20b5c0b2d"), looks := false }, kinds := [], alts := [], laidByText := true, laidKinds := [.data, .data, .data], laidTests := true, laidLooks := .later }
def MemoryPlaysCardSaid : Prop := Claim7.holds Tryd.pinned (.plain (OpenSpec.ofChange memoryPlaysSpec)) memoryPlaysCard

/-- THE SECOND FORM's CARD OF 'whelklaw10.MemoryFull'. -/
def memoryFullUptoCard : Claim7 := { stood := { row := memoryFullUptoRow, standIns := [], harness := (true, "e621666a6b1a0eebf223f11397c4257d6633e6b9fcf093bde8ae19c20b5c0b2d"), looks := false }, kinds := [], alts := [], laidByText := true, laidKinds := [.data, .data, .data], laidTests := true, laidLooks := .later }
def MemoryFullUptoCardSaid : Prop := Claim7.holds Tryd.pinned (.plain (OpenSpec.upto memoryFullSpec)) memoryFullUptoCard

/-- THE SECOND FORM's CARD OF 'whelklaw10.MemoryKinds'. -/
def memoryKindsUptoCard : Claim7 := { stood := { row := memoryKindsUptoRow, standIns := [], harness := (true, "e621666a6b1a0eebf223f11397c4257d6633e6b9fcf093bde8ae19c20b5c0b2d"), looks := false }, kinds := [], alts := [], laidByText := true, laidKinds := [.data, .data, .data], laidTests := true, laidLooks := .later }
def MemoryKindsUptoCardSaid : Prop := Claim7.holds Tryd.pinned (.plain (OpenSpec.upto memoryKindsSpec)) memoryKindsUptoCard

/-- THE SECOND FORM's CARD OF 'whelklaw10.MemoryAgain'. -/
def memoryAgainUptoCard : Claim7 := { stood := { row := memoryAgainUptoRow, standIns := [], harness := (true, "e621666a6b1a0eebf223f11397c4257d6633e6b9fcf093bde8ae19c20b5c0b2d"), looks := false }, kinds := [], alts := [], laidByText := true, laidKinds := [.data, .data, .data], laidTests := true, laidLooks := .later }
def MemoryAgainUptoCardSaid : Prop := Claim7.holds Tryd.pinned (.plain (OpenSpec.upto memoryAgainSpec)) memoryAgainUptoCard

/-- THE SECOND FORM's CARD OF 'whelklaw10.MemoryPlays'. -/
def memoryPlaysUptoCard : Claim7 := { stood := { row := memoryPlaysUptoRow, standIns := [], harness := (true, "e621666a6b1a0eebf223f11397c4257d6633e6b9fcf093bde8ae19c20b5c0b2d"), looks := false }, kinds := [], alts := [], laidByText := true, laidKinds := [.data, .data, .data], laidTests := true, laidLooks := .later }
def MemoryPlaysUptoCardSaid : Prop := Claim7.holds Tryd.pinned (.plain (OpenSpec.upto memoryPlaysSpec)) memoryPlaysUptoCard
end Rows
end Go.Proofs.YtaepnhapggdceaaDoor
