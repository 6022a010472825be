/-
  DERIVED. GIVEN WITH THE SEED: THE CARDS: each row of YtmbfenkmabdokaaGreatDoorRows.lean that lists a variable, with what it lists TIED to the program's text (the seventh form; the later family's looks); each row that meets fmt, with fmt's text TOLD by the authors' own Lean function (tested against real Go, not proved from fmt's source: count such statements apart). THE CARD IS WHAT COUNTS. Prove the row's statement (the work); the ties are given (YtmbfenkmabdokaaGreatDoorTie.lean); close each card by the builder's one call (the guide's Derived/Test/ToyasCard.lean, 'card_holds'). Laid BY PROGRAM, IN A SANDBOX (cutbox-door.mjs). By AI agents, Wed Nov 11 2026. No macro, syntax, notation, axiom, sorry.
-/
import Derived.Test.YtmbfenkmabdokaaGreatDoorRows
import GoSem.ClaimSeven
namespace Go.Proofs.YtmbfenkmabdokaaGreatDoor
namespace Rows

/-- THE TIED CARD OF 'blotterlaw19.SessionCookies'. -/
def sessionCookiesCard : Claim7 := { stood := { row := sessionCookiesRow, standIns := [], harness := (true, "9fc34acf9cd8945e9cb8a0b425cb237036a026ccd44d37422977dc001605c6d7"), looks := true }, kinds := [], alts := [], laidByText := true, laidKinds := [.data, .data, .pinned], laidTests := true, laidLooks := .later }
def SessionCookiesCardSaid : Prop := Claim7.holds Tryz.pinned (.plain (OpenSpec.ofChange sessionCookiesSpec)) sessionCookiesCard

/-- THE TIED CARD OF 'blotterlaw19.SessionHolds'. -/
def sessionHoldsCard : Claim7 := { stood := { row := sessionHoldsRow, standIns := [], harness := (true, "9fc34acf9cd8945e9cb8a0b425cb237036a026ccd44d37422977dc001605c6d7"), looks := true }, kinds := [], alts := [], laidByText := true, laidKinds := [.data, .data, .pinned], laidTests := true, laidLooks := .later }
def SessionHoldsCardSaid : Prop := Claim7.holds Tryz.pinned (.plain (OpenSpec.ofChange sessionHoldsSpec)) sessionHoldsCard

/-- THE TIED CARD OF 'blotterlaw19.SessionEnds'. -/
def sessionEndsCard : Claim7 := { stood := { row := sessionEndsRow, standIns := [], harness := (true, "9fc34acf9cd8945e9cb8a0b425cb237036a026ccd44d37422977dc001605c6d7"), looks := true }, kinds := [], alts := [], laidByText := true, laidKinds := [.data, .data, .pinned], laidTests := true, laidLooks := .later }
def SessionEndsCardSaid : Prop := Claim7.holds Tryz.pinned (.plain (OpenSpec.ofChange sessionEndsSpec)) sessionEndsCard

/-- THE TIED CARD OF 'blotterlaw19.SessionApart'. -/
def sessionApartCard : Claim7 := { stood := { row := sessionApartRow, standIns := [], harness := (true, "9fc34acf9cd8945e9cb8a0b425cb237036a026ccd44d37422977dc001605c6d7"), looks := true }, kinds := [], alts := [], laidByText := true, laidKinds := [.data, .data, .pinned], laidTests := true, laidLooks := .later }
def SessionApartCardSaid : Prop := Claim7.holds Tryz.pinned (.plain (OpenSpec.ofChange sessionApartSpec)) sessionApartCard

/-- THE TIED CARD OF 'blotterlaw19.SessionRoles'. -/
def sessionRolesCard : Claim7 := { stood := { row := sessionRolesRow, standIns := [], harness := (true, "9fc34acf9cd8945e9cb8a0b425cb237036a026ccd44d37422977dc001605c6d7"), looks := true }, kinds := [], alts := [], laidByText := true, laidKinds := [.data, .data, .pinned], laidTests := true, laidLooks := .later }
def SessionRolesCardSaid : Prop := Claim7.holds Tryz.pinned (.plain (OpenSpec.ofChange sessionRolesSpec)) sessionRolesCard

/-- THE TIED CARD OF 'blotterlaw19.SessionPlays'. -/
def sessionPlaysCard : Claim7 := { stood := { row := sessionPlaysRow, standIns := [], harness := (true, "9fc34acf9cd8945e9cb8a0b425cb237036a026ccd44d37422977dc001605c6d7"), looks := true }, kinds := [], alts := [], laidByText := true, laidKinds := [.data, .data, .pinned], laidTests := true, laidLooks := .later }
def SessionPlaysCardSaid : Prop := Claim7.holds Tryz.pinned (.plain (OpenSpec.ofChange sessionPlaysSpec)) sessionPlaysCard

/-- THE SECOND FORM's CARD OF 'blotterlaw19.SessionCookies'. -/
def sessionCookiesUptoCard : Claim7 := { stood := { row := sessionCookiesUptoRow, standIns := [], harness := (true, "9fc34acf9cd8945e9cb8a0b425cb237036a026ccd44d37422977dc001605c6d7"), looks := true }, kinds := [], alts := [], laidByText := true, laidKinds := [.data, .data, .pinned], laidTests := true, laidLooks := .later }
def SessionCookiesUptoCardSaid : Prop := Claim7.holds Tryz.pinned (.plain (OpenSpec.upto sessionCookiesSpec)) sessionCookiesUptoCard

/-- THE SECOND FORM's CARD OF 'blotterlaw19.SessionHolds'. -/
def sessionHoldsUptoCard : Claim7 := { stood := { row := sessionHoldsUptoRow, standIns := [], harness := (true, "9fc34acf9cd8945e9cb8a0b425cb237036a026ccd44d37422977dc001605c6d7"), looks := true }, kinds := [], alts := [], laidByText := true, laidKinds := [.data, .data, .pinned], laidTests := true, laidLooks := .later }
def SessionHoldsUptoCardSaid : Prop := Claim7.holds Tryz.pinned (.plain (OpenSpec.upto sessionHoldsSpec)) sessionHoldsUptoCard

/-- THE SECOND FORM's CARD OF 'blotterlaw19.SessionEnds'. -/
def sessionEndsUptoCard : Claim7 := { stood := { row := sessionEndsUptoRow, standIns := [], harness := (true, "9fc34acf9cd8945e9cb8a0b425cb237036a026ccd44d37422977dc001605c6d7"), looks := true }, kinds := [], alts := [], laidByText := true, laidKinds := [.data, .data, .pinned], laidTests := true, laidLooks := .later }
def SessionEndsUptoCardSaid : Prop := Claim7.holds Tryz.pinned (.plain (OpenSpec.upto sessionEndsSpec)) sessionEndsUptoCard

/-- THE SECOND FORM's CARD OF 'blotterlaw19.SessionApart'. -/
def sessionApartUptoCard : Claim7 := { stood := { row := sessionApartUptoRow, standIns := [], harness := (true, "9fc34acf9cd8945e9cb8a0b425cb237036a026ccd44d37422977dc001605c6d7"), looks := true }, kinds := [], alts := [], laidByText := true, laidKinds := [.data, .data, .pinned], laidTests := true, laidLooks := .later }
def SessionApartUptoCardSaid : Prop := Claim7.holds Tryz.pinned (.plain (OpenSpec.upto sessionApartSpec)) sessionApartUptoCard

/-- THE SECOND FORM's CARD OF 'blotterlaw19.SessionRoles'. -/
def sessionRolesUptoCard : Claim7 := { stood := { row := sessionRolesUptoRow, standIns := [], harness := (true, "9fc34acf9cd8945e9cb8a0b425cb237036a026ccd44d37422977dc001605c6d7"), looks := true }, kinds := [], alts := [], laidByText := true, laidKinds := [.data, .data, .pinned], laidTests := true, laidLooks := .later }
def SessionRolesUptoCardSaid : Prop := Claim7.holds Tryz.pinned (.plain (OpenSpec.upto sessionRolesSpec)) sessionRolesUptoCard

/-- THE SECOND FORM's CARD OF 'blotterlaw19.SessionPlays'. -/
def sessionPlaysUptoCard : Claim7 := { stood := { row := sessionPlaysUptoRow, standIns := [], harness := (true, "9fc34acf9cd8945e9cb8a0b425cb237036a026ccd44d37422977dc001605c6d7"), looks := true }, kinds := [], alts := [], laidByText := true, laidKinds := [.data, .data, .pinned], laidTests := true, laidLooks := .later }
def SessionPlaysUptoCardSaid : Prop := Claim7.holds Tryz.pinned (.plain (OpenSpec.upto sessionPlaysSpec)) sessionPlaysUptoCard
end Rows
end Go.Proofs.YtmbfenkmabdokaaGreatDoor
