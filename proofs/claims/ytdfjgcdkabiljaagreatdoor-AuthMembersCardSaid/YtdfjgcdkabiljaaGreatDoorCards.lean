/-
  DERIVED. GIVEN WITH THE SEED: THE CARDS: each row of YtdfjgcdkabiljaaGreatDoorRows.lean that lists a variable, with what it lists TIED to the program's text (the seventh form; the later family's looks); each row that meets fmt, with fmt's text TOLD by the authors' own Lean function (tested against real Go, not proved from fmt's source: count such statements apart). THE CARD IS WHAT COUNTS. Prove the row's statement (the work); the ties are given (YtdfjgcdkabiljaaGreatDoorTie.lean); close each card by the builder's one call (the guide's Derived/Test/ToyasCard.lean, 'card_holds'). Laid BY PROGRAM, IN A SANDBOX (cutbox-door.mjs). By AI agents, Wed Nov 11 2026. No macro, syntax, notation, axiom, sorry.
-/
import Derived.Test.YtdfjgcdkabiljaaGreatDoorRows
import GoSem.ClaimSeven
namespace Go.Proofs.YtdfjgcdkabiljaaGreatDoor
namespace Rows

/-- THE TIED CARD OF 'introitlaw21.AuthFacts'. -/
def authFactsCard : Claim7 := { stood := { row := authFactsRow, standIns := [], harness := (true, "93034a65f79a8c21b6b413a302370d215bc8729df7da9d9ce02595bc11d7369a"), looks := false }, kinds := [], alts := [], laidByText := true, laidKinds := [.data, .data, .data, .data, .wider, .pinned], laidTests := true, laidLooks := .later }
def AuthFactsCardSaid : Prop := Claim7.holds Tryz.pinned (.plain (OpenSpec.ofChange authFactsSpec)) authFactsCard

/-- THE TIED CARD OF 'introitlaw21.AuthMembers'. -/
def authMembersCard : Claim7 := { stood := { row := authMembersRow, standIns := [], harness := (true, "93034a65f79a8c21b6b413a302370d215bc8729df7da9d9ce02595bc11d7369a"), looks := false }, kinds := [], alts := [], laidByText := true, laidKinds := [.data, .data, .data, .data, .wider, .pinned], laidTests := true, laidLooks := .later }
def AuthMembersCardSaid : Prop := Claim7.holds Tryz.pinned (.plain (OpenSpec.ofChange authMembersSpec)) authMembersCard

/-- THE TIED CARD OF 'introitlaw21.AuthSays'. -/
def authSaysCard : Claim7 := { stood := { row := authSaysRow, standIns := [], harness := (true, "93034a65f79a8c21b6b413a302370d215bc8729df7da9d9ce02595bc11d7369a"), looks := false }, kinds := [], alts := [], laidByText := true, laidKinds := [.data, .data, .data, .data, .wider, .pinned], laidTests := true, laidLooks := .later }
def AuthSaysCardSaid : Prop := Claim7.holds Tryz.pinned (.plain (OpenSpec.ofChange authSaysSpec)) authSaysCard

/-- THE TIED CARD OF 'introitlaw21.AuthPicks'. -/
def authPicksCard : Claim7 := { stood := { row := authPicksRow, standIns := [], harness := (true, "93034a65f79a8c21b6b413a302370d215bc8729df7da9d9ce02595bc11d7369a"), looks := false }, kinds := [], alts := [], laidByText := true, laidKinds := [.data, .data, .data, .data, .wider, .pinned], laidTests := true, laidLooks := .later }
def AuthPicksCardSaid : Prop := Claim7.holds Tryz.pinned (.plain (OpenSpec.ofChange authPicksSpec)) authPicksCard

/-- THE TIED CARD OF 'introitlaw21.AuthKnown'. -/
def authKnownCard : Claim7 := { stood := { row := authKnownRow, standIns := [], harness := (true, "93034a65f79a8c21b6b413a302370d215bc8729df7da9d9ce02595bc11d7369a"), looks := false }, kinds := [], alts := [], laidByText := true, laidKinds := [.data, .data, .data, .data, .wider, .pinned], laidTests := true, laidLooks := .later }
def AuthKnownCardSaid : Prop := Claim7.holds Tryz.pinned (.plain (OpenSpec.ofChange authKnownSpec)) authKnownCard

/-- THE SECOND FORM's CARD OF 'introitlaw21.AuthFacts'. -/
def authFactsUptoCard : Claim7 := { stood := { row := authFactsUptoRow, standIns := [], harness := (true, "93034a65f79a8c21b6b413a302370d215bc8729df7da9d9ce02595bc11d7369a"), looks := false }, kinds := [], alts := [], laidByText := true, laidKinds := [.data, .data, .data, .data, .wider, .pinned], laidTests := true, laidLooks := .later }
def AuthFactsUptoCardSaid : Prop := Claim7.holds Tryz.pinned (.plain (OpenSpec.upto authFactsSpec)) authFactsUptoCard

/-- THE SECOND FORM's CARD OF 'introitlaw21.AuthMembers'. -/
def authMembersUptoCard : Claim7 := { stood := { row := authMembersUptoRow, standIns := [], harness := (true, "93034a65f79a8c21b6b413a302370d215bc8729df7da9d9ce02595bc11d7369a"), looks := false }, kinds := [], alts := [], laidByText := true, laidKinds := [.data, .data, .data, .data, .wider, .pinned], laidTests := true, laidLooks := .later }
def AuthMembersUptoCardSaid : Prop := Claim7.holds Tryz.pinned (.plain (OpenSpec.upto authMembersSpec)) authMembersUptoCard

/-- THE SECOND FORM's CARD OF 'introitlaw21.AuthSays'. -/
def authSaysUptoCard : Claim7 := { stood := { row := authSaysUptoRow, standIns := [], harness := (true, "93034a65f79a8c21b6b413a302370d215bc8729df7da9d9ce02595bc11d7369a"), looks := false }, kinds := [], alts := [], laidByText := true, laidKinds := [.data, .data, .data, .data, .wider, .pinned], laidTests := true, laidLooks := .later }
def AuthSaysUptoCardSaid : Prop := Claim7.holds Tryz.pinned (.plain (OpenSpec.upto authSaysSpec)) authSaysUptoCard

/-- THE SECOND FORM's CARD OF 'introitlaw21.AuthPicks'. -/
def authPicksUptoCard : Claim7 := { stood := { row := authPicksUptoRow, standIns := [], harness := (true, "93034a65f79a8c21b6b413a302370d215bc8729df7da9d9ce02595bc11d7369a"), looks := false }, kinds := [], alts := [], laidByText := true, laidKinds := [.data, .data, .data, .data, .wider, .pinned], laidTests := true, laidLooks := .later }
def AuthPicksUptoCardSaid : Prop := Claim7.holds Tryz.pinned (.plain (OpenSpec.upto authPicksSpec)) authPicksUptoCard

/-- THE SECOND FORM's CARD OF 'introitlaw21.AuthKnown'. -/
def authKnownUptoCard : Claim7 := { stood := { row := authKnownUptoRow, standIns := [], harness := (true, "93034a65f79a8c21b6b413a302370d215bc8729df7da9d9ce02595bc11d7369a"), looks := false }, kinds := [], alts := [], laidByText := true, laidKinds := [.data, .data, .data, .data, .wider, .pinned], laidTests := true, laidLooks := .later }
def AuthKnownUptoCardSaid : Prop := Claim7.holds Tryz.pinned (.plain (OpenSpec.upto authKnownSpec)) authKnownUptoCard
end Rows
end Go.Proofs.YtdfjgcdkabiljaaGreatDoor
