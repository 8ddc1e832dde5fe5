/-
  NARROWER THAN 'FOR EVERY INPUT', by the rows' own cells (each row's printed sentence says how): TmplDrafts: loops, laid · TmplTakes: loops, laid · TmplBack: loops, laid.
  DERIVED. THE GIVEN ROWS OF THIS SEAT. 3 by the template 'for every input the law returns true; each argument reads behind the call as it read before'; 0 by the template 'total and deterministic' (their statements: YtgckcnggblomgaaGreatDoorTotals.lean).
  GIVEN WITH THE SEED: the statements are not yours to turn. If you find one false, say at which input.
  Laid BY PROGRAM, IN A SANDBOX (cutbox-rows.mjs): the forced cells as the released guide's own fill.sh prints them over the translation 872006fc79358fd6… (all of the seat's roots in one cut). By AI agents, Wed Nov 11 2026. No macro, syntax, notation, axiom, sorry.
-/
import Derived.Test.YtgckcnggblomgaaGreatDoorChecked
import GoSem.PinnedTables
import GoSem.Claim
import GoSem.ClaimJoined
import GoSem.ClaimMapViews
import Derived.JoinedTies
import Derived.KernelRfl
namespace Go.Proofs.YtgckcnggblomgaaGreatDoor
/- THE CELL 'sum', in the pinned program and in every row, IS THE sha256 OF THE DUMP (.gsa) THAT YtgckcnggblomgaaGreatDoorProg.lean LOADS. Nothing in Lean hashes anything: it is a label: what it is worth is what the hold of that sum in a sandbox is worth. -/
noncomputable def Tryz.pinned : Pinned := { name := "ytgckcnggblomgaagreatdoor", sum := "872006fc79358fd65b5390b4baf0e02f46115a18def70cf53ccc5d68f109a6d5", checked := Tryz.checked }
namespace Rows
def none {H : Type} : Left H := { results := [], args := [] }

/- WHAT THE LISTED PACKAGE-LEVEL VARIABLES READ AS WHEN THE CALL BEGINS. Each datum BY PROGRAM (the guide's laid-datum.mjs) off the statement by which the dump's own 'gosem.cut.vars' lays the variable. In a bare row this is a premise. The card (YtgckcnggblomgaaGreatDoorCards.lean) ties it to the program's text. -/
def laid_unicode_utf8_acceptRanges {H : Type} : DataW H := .agg [.agg [.lit (.int .u8 128), .lit (.int .u8 191)], .agg [.lit (.int .u8 160), .lit (.int .u8 191)], .agg [.lit (.int .u8 128), .lit (.int .u8 159)], .agg [.lit (.int .u8 144), .lit (.int .u8 191)], .agg [.lit (.int .u8 128), .lit (.int .u8 143)], .agg [.lit (.int .u8 0), .lit (.int .u8 0)], .agg [.lit (.int .u8 0), .lit (.int .u8 0)], .agg [.lit (.int .u8 0), .lit (.int .u8 0)], .agg [.lit (.int .u8 0), .lit (.int .u8 0)], .agg [.lit (.int .u8 0), .lit (.int .u8 0)], .agg [.lit (.int .u8 0), .lit (.int .u8 0)], .agg [.lit (.int .u8 0), .lit (.int .u8 0)], .agg [.lit (.int .u8 0), .lit (.int .u8 0)], .agg [.lit (.int .u8 0), .lit (.int .u8 0)], .agg [.lit (.int .u8 0), .lit (.int .u8 0)], .agg [.lit (.int .u8 0), .lit (.int .u8 0)]]
def laid_introit_b64_forURL {H : Type} : DataW H := .agg [.lit (.int .u8 45), .lit (.int .u8 95)]
/-- One of Go's own tables, pinned by name: the form's constant. -/
def laid_unicode_utf8_first : DataW Unit := Go.Pinned.utf8First

/-- 'introitlaw27.TmplDrafts': WHATEVER THE INPUT: true; the input reads as it did. -/
def tmplDraftsSpec : ChangeSpec := { name := "tmplDrafts", fn := fun _ => fun
  | [d1, d2, d3] => { results := [.lit (.bool true)], args := [d1, d2, d3] }
  | _ => none }
def tmplDraftsRow : OpenClaim := { program := "ytgckcnggblomgaagreatdoor", sum := "872006fc79358fd65b5390b4baf0e02f46115a18def70cf53ccc5d68f109a6d5", func := "introit/introitlaw27.TmplDrafts", spec := "tmplDrafts", inPlace := ["slices.overlaps[introit/api.Member]", "internal/bytealg.IndexByteString", "internal/bytealg.IndexString"], unfollowed := true, recurses := true, named := ["unicode/utf8.first", "unicode/utf8.acceptRanges", "internal/bytealg.MaxLen", "introit/b64.forURL"], loops := true, apart := false, laid := [("unicode/utf8.acceptRanges", laid_unicode_utf8_acceptRanges), ("introit/b64.forURL", laid_introit_b64_forURL), ("unicode/utf8.first", laid_unicode_utf8_first)] }
def TmplDraftsSaid : Prop := tmplDraftsRow.holds Tryz.pinned (OpenSpec.ofChange tmplDraftsSpec)

/-- ITS FALSE NEIGHBOUR: 'it returns false'. Refute it at one input. -/
def tmplDraftsWrong : ChangeSpec := { name := "tmplDrafts", fn := fun _ => fun
  | [d1, d2, d3] => { results := [.lit (.bool false)], args := [d1, d2, d3] }
  | _ => none }
def TmplDraftsWrongFalsely : Prop := tmplDraftsRow.holds Tryz.pinned (OpenSpec.ofChange tmplDraftsWrong)

/-- 'introitlaw27.TmplTakes': WHATEVER THE INPUT: true; the input reads as it did. -/
def tmplTakesSpec : ChangeSpec := { name := "tmplTakes", fn := fun _ => fun
  | [d1, d2, d3] => { results := [.lit (.bool true)], args := [d1, d2, d3] }
  | _ => none }
def tmplTakesRow : OpenClaim := { program := "ytgckcnggblomgaagreatdoor", sum := "872006fc79358fd65b5390b4baf0e02f46115a18def70cf53ccc5d68f109a6d5", func := "introit/introitlaw27.TmplTakes", spec := "tmplTakes", inPlace := ["slices.overlaps[introit/api.Member]", "internal/bytealg.IndexByteString", "internal/bytealg.IndexString"], unfollowed := true, recurses := true, named := ["unicode/utf8.first", "unicode/utf8.acceptRanges", "internal/bytealg.MaxLen", "introit/b64.forURL"], loops := true, apart := false, laid := [("unicode/utf8.acceptRanges", laid_unicode_utf8_acceptRanges), ("introit/b64.forURL", laid_introit_b64_forURL), ("unicode/utf8.first", laid_unicode_utf8_first)] }
def TmplTakesSaid : Prop := tmplTakesRow.holds Tryz.pinned (OpenSpec.ofChange tmplTakesSpec)

/-- ITS FALSE NEIGHBOUR: 'it returns false'. Refute it at one input. -/
def tmplTakesWrong : ChangeSpec := { name := "tmplTakes", fn := fun _ => fun
  | [d1, d2, d3] => { results := [.lit (.bool false)], args := [d1, d2, d3] }
  | _ => none }
def TmplTakesWrongFalsely : Prop := tmplTakesRow.holds Tryz.pinned (OpenSpec.ofChange tmplTakesWrong)

/-- 'introitlaw27.TmplBack': WHATEVER THE INPUT: true; the input reads as it did. -/
def tmplBackSpec : ChangeSpec := { name := "tmplBack", fn := fun _ => fun
  | [d1, d2, d3, d4, d5] => { results := [.lit (.bool true)], args := [d1, d2, d3, d4, d5] }
  | _ => none }
def tmplBackRow : OpenClaim := { program := "ytgckcnggblomgaagreatdoor", sum := "872006fc79358fd65b5390b4baf0e02f46115a18def70cf53ccc5d68f109a6d5", func := "introit/introitlaw27.TmplBack", spec := "tmplBack", inPlace := ["slices.overlaps[introit/api.Member]", "internal/bytealg.IndexByteString", "internal/bytealg.IndexString"], unfollowed := true, recurses := true, named := ["unicode/utf8.first", "unicode/utf8.acceptRanges", "internal/bytealg.MaxLen", "introit/b64.forURL"], loops := true, apart := false, laid := [("unicode/utf8.acceptRanges", laid_unicode_utf8_acceptRanges), ("introit/b64.forURL", laid_introit_b64_forURL), ("unicode/utf8.first", laid_unicode_utf8_first)] }
def TmplBackSaid : Prop := tmplBackRow.holds Tryz.pinned (OpenSpec.ofChange tmplBackSpec)

/-- ITS FALSE NEIGHBOUR: 'it returns false'. Refute it at one input. -/
def tmplBackWrong : ChangeSpec := { name := "tmplBack", fn := fun _ => fun
  | [d1, d2, d3, d4, d5] => { results := [.lit (.bool false)], args := [d1, d2, d3, d4, d5] }
  | _ => none }
def TmplBackWrongFalsely : Prop := tmplBackRow.holds Tryz.pinned (OpenSpec.ofChange tmplBackWrong)

/- THE SECOND FORM. 'bulk': how many values and letters a reading holds, each counted each time it is reached (what is shared counts as often as it is met; a slice's spare places count too). A statement '..UptoSaid' is the law's where the arguments, and the package variables that the reading takes, are together of bulk at most 1048576: NARROWER than '..Said'. Prove '..Said' where nothing that the law and all that it calls make is longer than what came in: it says more and counts as full. Else prove '..UptoSaid'. A law counts once. -/
mutual
def uptoBulk {H : Type} : DataW H → Nat
  | .lit (.string bytes) => bytes.length + 1
  | .lit _ => 1
  | .nil => 1
  | .ptr d => uptoBulk d + 1
  | .slice elems spare => uptoBulkAll elems + uptoBulkAll spare + 1
  | .agg parts => uptoBulkAll parts + 1
  | .iface _ d => uptoBulk d + 1
  | .map entries => uptoBulkEntries entries + 1
  | .held _ => 1
def uptoBulkAll {H : Type} : List (DataW H) → Nat
  | [] => 0
  | d :: r => uptoBulk d + uptoBulkAll r
def uptoBulkEntries {H : Type} : List (Lit × DataW H) → Nat
  | [] => 0
  | x :: r => uptoBulkEntry x + uptoBulkEntries r
def uptoBulkEntry {H : Type} : Lit × DataW H → Nat
  | (.string bytes, d) => bytes.length + uptoBulk d + 1
  | (_, d) => uptoBulk d + 1
 end
def uptoSmall : (H : Type) → List (DataW H) → Bool := fun _ ds => decide (uptoBulkAll ds ≤ 1048576)
def OpenSpec.upto (s : _root_.Go.ChangeSpec) : _root_.Go.OpenSpec := { _root_.Go.OpenSpec.ofChange s with cond := some uptoSmall }

/-- 'introitlaw27.TmplDrafts', WHERE WHAT IT READS IS OF BULK AT MOST 1048576: true; the input reads as it did. -/
def tmplDraftsUptoRow : OpenClaim := { program := "ytgckcnggblomgaagreatdoor", sum := "872006fc79358fd65b5390b4baf0e02f46115a18def70cf53ccc5d68f109a6d5", func := "introit/introitlaw27.TmplDrafts", spec := "tmplDrafts", inPlace := ["slices.overlaps[introit/api.Member]", "internal/bytealg.IndexByteString", "internal/bytealg.IndexString"], unfollowed := true, recurses := true, named := ["unicode/utf8.first", "unicode/utf8.acceptRanges", "internal/bytealg.MaxLen", "introit/b64.forURL"], loops := true, apart := false, laid := [("unicode/utf8.acceptRanges", laid_unicode_utf8_acceptRanges), ("introit/b64.forURL", laid_introit_b64_forURL), ("unicode/utf8.first", laid_unicode_utf8_first)], narrowed := true }
def TmplDraftsUptoSaid : Prop := tmplDraftsUptoRow.holds Tryz.pinned (OpenSpec.upto tmplDraftsSpec)

/-- 'introitlaw27.TmplTakes', WHERE WHAT IT READS IS OF BULK AT MOST 1048576: true; the input reads as it did. -/
def tmplTakesUptoRow : OpenClaim := { program := "ytgckcnggblomgaagreatdoor", sum := "872006fc79358fd65b5390b4baf0e02f46115a18def70cf53ccc5d68f109a6d5", func := "introit/introitlaw27.TmplTakes", spec := "tmplTakes", inPlace := ["slices.overlaps[introit/api.Member]", "internal/bytealg.IndexByteString", "internal/bytealg.IndexString"], unfollowed := true, recurses := true, named := ["unicode/utf8.first", "unicode/utf8.acceptRanges", "internal/bytealg.MaxLen", "introit/b64.forURL"], loops := true, apart := false, laid := [("unicode/utf8.acceptRanges", laid_unicode_utf8_acceptRanges), ("introit/b64.forURL", laid_introit_b64_forURL), ("unicode/utf8.first", laid_unicode_utf8_first)], narrowed := true }
def TmplTakesUptoSaid : Prop := tmplTakesUptoRow.holds Tryz.pinned (OpenSpec.upto tmplTakesSpec)

/-- 'introitlaw27.TmplBack', WHERE WHAT IT READS IS OF BULK AT MOST 1048576: true; the input reads as it did. -/
def tmplBackUptoRow : OpenClaim := { program := "ytgckcnggblomgaagreatdoor", sum := "872006fc79358fd65b5390b4baf0e02f46115a18def70cf53ccc5d68f109a6d5", func := "introit/introitlaw27.TmplBack", spec := "tmplBack", inPlace := ["slices.overlaps[introit/api.Member]", "internal/bytealg.IndexByteString", "internal/bytealg.IndexString"], unfollowed := true, recurses := true, named := ["unicode/utf8.first", "unicode/utf8.acceptRanges", "internal/bytealg.MaxLen", "introit/b64.forURL"], loops := true, apart := false, laid := [("unicode/utf8.acceptRanges", laid_unicode_utf8_acceptRanges), ("introit/b64.forURL", laid_introit_b64_forURL), ("unicode/utf8.first", laid_unicode_utf8_first)], narrowed := true }
def TmplBackUptoSaid : Prop := tmplBackUptoRow.holds Tryz.pinned (OpenSpec.upto tmplBackSpec)

end Rows
end Go.Proofs.YtgckcnggblomgaaGreatDoor
