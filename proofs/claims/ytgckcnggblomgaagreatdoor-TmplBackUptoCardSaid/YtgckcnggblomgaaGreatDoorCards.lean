/-
  DERIVED. GIVEN WITH THE SEED: THE CARDS: each row of YtgckcnggblomgaaGreatDoorRows.lean that lists a variable, with what it lists TIED to the program's text (the seventh form; the later family's looks); each row that meets fmt, with fmt's text TOLD by the authors' own Lean function (tested against real Go, not proved from fmt's source: count such statements apart). THE CARD IS WHAT COUNTS. Prove the row's statement (the work); the ties are given (YtgckcnggblomgaaGreatDoorTie.lean); close each card by the builder's one call (the guide's Derived/Test/ToyasCard.lean, 'card_holds'). Laid BY PROGRAM, IN A SANDBOX (cutbox-door.mjs). By AI agents, Wed Nov 11 2026. No macro, syntax, notation, axiom, sorry.
-/
import Derived.Test.YtgckcnggblomgaaGreatDoorRows
import GoSem.ClaimSeven
namespace Go.Proofs.YtgckcnggblomgaaGreatDoor
namespace Rows

/-- THE TIED CARD OF 'introitlaw27.TmplDrafts'. -/
def tmplDraftsCard : Claim7 := { stood := { row := tmplDraftsRow, standIns := [], harness := (true, "caa99095a6be877e41fe922bfa2ab4cf0a0e86c11188e3c10f7803e4d1c54c1d"), looks := false }, kinds := [], alts := [], laidByText := true, laidKinds := [.data, .wider, .pinned], laidTests := true, laidLooks := .later }
def TmplDraftsCardSaid : Prop := Claim7.holds Tryz.pinned (.plain (OpenSpec.ofChange tmplDraftsSpec)) tmplDraftsCard

/-- THE TIED CARD OF 'introitlaw27.TmplTakes'. -/
def tmplTakesCard : Claim7 := { stood := { row := tmplTakesRow, standIns := [], harness := (true, "caa99095a6be877e41fe922bfa2ab4cf0a0e86c11188e3c10f7803e4d1c54c1d"), looks := false }, kinds := [], alts := [], laidByText := true, laidKinds := [.data, .wider, .pinned], laidTests := true, laidLooks := .later }
def TmplTakesCardSaid : Prop := Claim7.holds Tryz.pinned (.plain (OpenSpec.ofChange tmplTakesSpec)) tmplTakesCard

/-- THE TIED CARD OF 'introitlaw27.TmplBack'. -/
def tmplBackCard : Claim7 := { stood := { row := tmplBackRow, standIns := [], harness := (true, "caa99095a6be877e41fe922bfa2ab4cf0a0e86c11188e3c10f7803e4d1c54c1d"), looks := false }, kinds := [], alts := [], laidByText := true, laidKinds := [.data, .wider, .pinned], laidTests := true, laidLooks := .later }
def TmplBackCardSaid : Prop := Claim7.holds Tryz.pinned (.plain (OpenSpec.ofChange tmplBackSpec)) tmplBackCard

/-- THE SECOND FORM's CARD OF 'introitlaw27.TmplDrafts'. -/
def tmplDraftsUptoCard : Claim7 := { stood := { row := tmplDraftsUptoRow, standIns := [], harness := (true, "caa99095a6be877e41fe922bfa2ab4cf0a0e86c11188e3c10f7803e4d1c54c1d"), looks := false }, kinds := [], alts := [], laidByText := true, laidKinds := [.data, .wider, .pinned], laidTests := true, laidLooks := .later }
def TmplDraftsUptoCardSaid : Prop := Claim7.holds Tryz.pinned (.plain (OpenSpec.upto tmplDraftsSpec)) tmplDraftsUptoCard

/-- THE SECOND FORM's CARD OF 'introitlaw27.TmplTakes'. -/
def tmplTakesUptoCard : Claim7 := { stood := { row := tmplTakesUptoRow, standIns := [], harness := (true, "caa99095a6be877e41fe922bfa2ab4cf0a0e86c11188e3c10f7803e4d1c54c1d"), looks := false }, kinds := [], alts := [], laidByText := true, laidKinds := [.data, .wider, .pinned], laidTests := true, laidLooks := .later }
def TmplTakesUptoCardSaid : Prop := Claim7.holds Tryz.pinned (.plain (OpenSpec.upto tmplTakesSpec)) tmplTakesUptoCard

/-- THE SECOND FORM's CARD OF 'introitlaw27.TmplBack'. -/
def tmplBackUptoCard : Claim7 := { stood := { row := tmplBackUptoRow, standIns := [], harness := (true, "caa99095a6be877e41fe922bfa2ab4cf0a0e86c11188e3c10f7803e4d1c54c1d"), looks := false }, kinds := [], alts := [], laidByText := true, laidKinds := [.data, .wider, .pinned], laidTests := true, laidLooks := .later }
def TmplBackUptoCardSaid : Prop := Claim7.holds Tryz.pinned (.plain (OpenSpec.upto tmplBackSpec)) tmplBackUptoCard
end Rows
end Go.Proofs.YtgckcnggblomgaaGreatDoor
