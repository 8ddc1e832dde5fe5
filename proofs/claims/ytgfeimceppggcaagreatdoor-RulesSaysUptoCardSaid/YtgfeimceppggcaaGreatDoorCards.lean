/-
  DERIVED. GIVEN WITH THE SEED: THE CARDS: each row of YtgfeimceppggcaaGreatDoorRows.lean that lists a variable, with what it lists TIED to the program's text (the seventh form; the later family's looks); each row that meets fmt, with fmt's text TOLD by the authors' own Lean function (tested against real Go, not proved from fmt's source: count such statements apart). THE CARD IS WHAT COUNTS. Prove the row's statement (the work); the ties are given (YtgfeimceppggcaaGreatDoorTie.lean); close each card by the builder's one call (the guide's Derived/Test/ToyasCard.lean, 'card_holds'). Laid BY PROGRAM, IN A SANDBOX (cutbox-door.mjs). By AI agents, Wed Nov 11 2026. No macro, syntax, notation, axiom, sorry.
-/
import Derived.Test.YtgfeimceppggcaaGreatDoorRows
import GoSem.ClaimSeven
namespace Go.Proofs.YtgfeimceppggcaaGreatDoor
namespace Rows

/-- THE TIED CARD OF 'introitlaw18.RulesSays'. -/
def rulesSaysCard : Claim7 := { stood := { row := rulesSaysRow, standIns := [], harness := (true, "5d48009f935b956640a32e36b5a75483e0453dc99e7c9e8cc854915251f9ac82"), looks := false }, kinds := [], alts := [], laidByText := true, laidKinds := [.data, .data, .data, .data, .wider, .pinned], laidTests := true, laidLooks := .later }
def RulesSaysCardSaid : Prop := Claim7.holds Tryz.pinned (.plain (OpenSpec.ofChange rulesSaysSpec)) rulesSaysCard

/-- THE TIED CARD OF 'introitlaw18.RulesProves'. -/
def rulesProvesCard : Claim7 := { stood := { row := rulesProvesRow, standIns := [], harness := (true, "5d48009f935b956640a32e36b5a75483e0453dc99e7c9e8cc854915251f9ac82"), looks := false }, kinds := [], alts := [], laidByText := true, laidKinds := [.data, .data, .data, .data, .wider, .pinned], laidTests := true, laidLooks := .later }
def RulesProvesCardSaid : Prop := Claim7.holds Tryz.pinned (.plain (OpenSpec.ofChange rulesProvesSpec)) rulesProvesCard

/-- THE TIED CARD OF 'introitlaw18.RulesKnown'. -/
def rulesKnownCard : Claim7 := { stood := { row := rulesKnownRow, standIns := [], harness := (true, "5d48009f935b956640a32e36b5a75483e0453dc99e7c9e8cc854915251f9ac82"), looks := false }, kinds := [], alts := [], laidByText := true, laidKinds := [.data, .data, .data, .data, .wider, .pinned], laidTests := true, laidLooks := .later }
def RulesKnownCardSaid : Prop := Claim7.holds Tryz.pinned (.plain (OpenSpec.ofChange rulesKnownSpec)) rulesKnownCard

/-- THE SECOND FORM's CARD OF 'introitlaw18.RulesSays'. -/
def rulesSaysUptoCard : Claim7 := { stood := { row := rulesSaysUptoRow, standIns := [], harness := (true, "5d48009f935b956640a32e36b5a75483e0453dc99e7c9e8cc854915251f9ac82"), looks := false }, kinds := [], alts := [], laidByText := true, laidKinds := [.data, .data, .data, .data, .wider, .pinned], laidTests := true, laidLooks := .later }
def RulesSaysUptoCardSaid : Prop := Claim7.holds Tryz.pinned (.plain (OpenSpec.upto rulesSaysSpec)) rulesSaysUptoCard

/-- THE SECOND FORM's CARD OF 'introitlaw18.RulesProves'. -/
def rulesProvesUptoCard : Claim7 := { stood := { row := rulesProvesUptoRow, standIns := [], harness := (true, "5d48009f935b956640a32e36b5a75483e0453dc99e7c9e8cc854915251f9ac82"), looks := false }, kinds := [], alts := [], laidByText := true, laidKinds := [.data, .data, .data, .data, .wider, .pinned], laidTests := true, laidLooks := .later }
def RulesProvesUptoCardSaid : Prop := Claim7.holds Tryz.pinned (.plain (OpenSpec.upto rulesProvesSpec)) rulesProvesUptoCard

/-- THE SECOND FORM's CARD OF 'introitlaw18.RulesKnown'. -/
def rulesKnownUptoCard : Claim7 := { stood := { row := rulesKnownUptoRow, standIns := [], harness := (true, "5d48009f935b956640a32e36b5a75483e0453dc99e7c9e8cc854915251f9ac82"), looks := false }, kinds := [], alts := [], laidByText := true, laidKinds := [.data, .data, .data, .data, .wider, .pinned], laidTests := true, laidLooks := .later }
def RulesKnownUptoCardSaid : Prop := Claim7.holds Tryz.pinned (.plain (OpenSpec.upto rulesKnownSpec)) rulesKnownUptoCard
end Rows
end Go.Proofs.YtgfeimceppggcaaGreatDoor
