/-
  DERIVED. GIVEN WITH THE SEED: THE CARDS: each row of YtmamekpnopidlaaGreatDoorRows.lean that lists a variable, with what it lists TIED to the program's text (the seventh form; the later family's looks); each row that meets fmt, with fmt's text TOLD by the authors' own Lean function (tested against real Go, not proved from fmt's source: count such statements apart). THE CARD IS WHAT COUNTS. Prove the row's statement (the work); the ties are given (YtmamekpnopidlaaGreatDoorTie.lean); close each card by the builder's one call (the guide's Derived/Test/ToyasCard.lean, 'card_holds'). Laid BY PROGRAM, IN A SANDBOX (cutbox-door.mjs). By AI agents, Wed Nov 11 2026. No macro, syntax, notation, axiom, sorry.
-/
import Derived.Test.YtmamekpnopidlaaGreatDoorRows
import GoSem.ClaimSeven
namespace Go.Proofs.YtmamekpnopidlaaGreatDoor
namespace Rows

/-- THE TIED CARD OF 'introitlaw19.PickKinds'. -/
def pickKindsCard : Claim7 := { stood := { row := pickKindsRow, standIns := [], harness := (true, "0f88ad5bab5f0b23aeaa35831add48dc61ce31fc48b2e1222686b5b84343e73f"), looks := false }, kinds := [], alts := [], laidByText := true, laidKinds := [.data, .data, .data, .data, .wider, .pinned], laidTests := true, laidLooks := .later }
def PickKindsCardSaid : Prop := Claim7.holds Tryz.pinned (.plain (OpenSpec.ofChange pickKindsSpec)) pickKindsCard

/-- THE TIED CARD OF 'introitlaw19.PickKnown'. -/
def pickKnownCard : Claim7 := { stood := { row := pickKnownRow, standIns := [], harness := (true, "0f88ad5bab5f0b23aeaa35831add48dc61ce31fc48b2e1222686b5b84343e73f"), looks := false }, kinds := [], alts := [], laidByText := true, laidKinds := [.data, .data, .data, .data, .wider, .pinned], laidTests := true, laidLooks := .later }
def PickKnownCardSaid : Prop := Claim7.holds Tryz.pinned (.plain (OpenSpec.ofChange pickKnownSpec)) pickKnownCard

/-- THE SECOND FORM's CARD OF 'introitlaw19.PickKinds'. -/
def pickKindsUptoCard : Claim7 := { stood := { row := pickKindsUptoRow, standIns := [], harness := (true, "0f88ad5bab5f0b23aeaa35831add48dc61ce31fc48b2e1222686b5b84343e73f"), looks := false }, kinds := [], alts := [], laidByText := true, laidKinds := [.data, .data, .data, .data, .wider, .pinned], laidTests := true, laidLooks := .later }
def PickKindsUptoCardSaid : Prop := Claim7.holds Tryz.pinned (.plain (OpenSpec.upto pickKindsSpec)) pickKindsUptoCard

/-- THE SECOND FORM's CARD OF 'introitlaw19.PickKnown'. -/
def pickKnownUptoCard : Claim7 := { stood := { row := pickKnownUptoRow, standIns := [], harness := (true, "0f88ad5bab5f0b23aeaa35831add48dc61ce31fc48b2e1222686b5b84343e73f"), looks := false }, kinds := [], alts := [], laidByText := true, laidKinds := [.data, .data, .data, .data, .wider, .pinned], laidTests := true, laidLooks := .later }
def PickKnownUptoCardSaid : Prop := Claim7.holds Tryz.pinned (.plain (OpenSpec.upto pickKnownSpec)) pickKnownUptoCard
end Rows
end Go.Proofs.YtmamekpnopidlaaGreatDoor
