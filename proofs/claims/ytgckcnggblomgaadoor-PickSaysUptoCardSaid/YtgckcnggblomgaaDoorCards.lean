/-
  DERIVED. GIVEN WITH THE SEED: THE CARDS: each row of YtgckcnggblomgaaDoorRows.lean that lists a variable, with what it lists TIED to the program's text (the seventh form; the later family's looks); each row that meets fmt, with fmt's text TOLD by the authors' own Lean function (tested against real Go, not proved from fmt's source: count such statements apart). THE CARD IS WHAT COUNTS. Prove the row's statement (the work); the ties are given (YtgckcnggblomgaaDoorTie.lean); close each card by the builder's one call (the guide's Derived/Test/ToyasCard.lean, 'card_holds'). Laid BY PROGRAM, IN A SANDBOX (cutbox-door.mjs). By AI agents, Wed Nov 11 2026. No macro, syntax, notation, axiom, sorry.
-/
import Derived.Test.YtgckcnggblomgaaDoorRows
import GoSem.ClaimSeven
namespace Go.Proofs.YtgckcnggblomgaaDoor
namespace Rows

/-- THE TIED CARD OF 'introitlaw19.PickSays'. -/
def pickSaysCard : Claim7 := { stood := { row := pickSaysRow, standIns := [], harness := (true, "1ccdf5ee7e83e9fb3cca9022a274d9707650f7f80d1eb83e4637b256399944f9"), looks := false }, kinds := [], alts := [], laidByText := true, laidKinds := [.data, .pinned], laidTests := true, laidLooks := .later }
def PickSaysCardSaid : Prop := Claim7.holds Tryd.pinned (.plain (OpenSpec.ofChange pickSaysSpec)) pickSaysCard

/-- THE TIED CARD OF 'introitlaw19.PickFits'. -/
def pickFitsCard : Claim7 := { stood := { row := pickFitsRow, standIns := [], harness := (true, "1ccdf5ee7e83e9fb3cca9022a274d9707650f7f80d1eb83e4637b256399944f9"), looks := false }, kinds := [], alts := [], laidByText := true, laidKinds := [.data, .pinned], laidTests := true, laidLooks := .later }
def PickFitsCardSaid : Prop := Claim7.holds Tryd.pinned (.plain (OpenSpec.ofChange pickFitsSpec)) pickFitsCard

/-- THE TIED CARD OF 'introitlaw18.RulesAllows'. -/
def rulesAllowsCard : Claim7 := { stood := { row := rulesAllowsRow, standIns := [], harness := (true, "1ccdf5ee7e83e9fb3cca9022a274d9707650f7f80d1eb83e4637b256399944f9"), looks := false }, kinds := [], alts := [], laidByText := true, laidKinds := [.data, .pinned], laidTests := true, laidLooks := .later }
def RulesAllowsCardSaid : Prop := Claim7.holds Tryd.pinned (.plain (OpenSpec.ofChange rulesAllowsSpec)) rulesAllowsCard

/-- THE SECOND FORM's CARD OF 'introitlaw19.PickSays'. -/
def pickSaysUptoCard : Claim7 := { stood := { row := pickSaysUptoRow, standIns := [], harness := (true, "1ccdf5ee7e83e9fb3cca9022a274d9707650f7f80d1eb83e4637b256399944f9"), looks := false }, kinds := [], alts := [], laidByText := true, laidKinds := [.data, .pinned], laidTests := true, laidLooks := .later }
def PickSaysUptoCardSaid : Prop := Claim7.holds Tryd.pinned (.plain (OpenSpec.upto pickSaysSpec)) pickSaysUptoCard

/-- THE SECOND FORM's CARD OF 'introitlaw19.PickFits'. -/
def pickFitsUptoCard : Claim7 := { stood := { row := pickFitsUptoRow, standIns := [], harness := (true, "1ccdf5ee7e83e9fb3cca9022a274d9707650f7f80d1eb83e4637b256399944f9"), looks := false }, kinds := [], alts := [], laidByText := true, laidKinds := [.data, .pinned], laidTests := true, laidLooks := .later }
def PickFitsUptoCardSaid : Prop := Claim7.holds Tryd.pinned (.plain (OpenSpec.upto pickFitsSpec)) pickFitsUptoCard

/-- THE SECOND FORM's CARD OF 'introitlaw18.RulesAllows'. -/
def rulesAllowsUptoCard : Claim7 := { stood := { row := rulesAllowsUptoRow, standIns := [], harness := (true, "1ccdf5ee7e83e9fb3cca9022a274d9707650f7f80d1eb83e4637b256399944f9"), looks := false }, kinds := [], alts := [], laidByText := true, laidKinds := [.data, .pinned], laidTests := true, laidLooks := .later }
def RulesAllowsUptoCardSaid : Prop := Claim7.holds Tryd.pinned (.plain (OpenSpec.upto rulesAllowsSpec)) rulesAllowsUptoCard
end Rows
end Go.Proofs.YtgckcnggblomgaaDoor
