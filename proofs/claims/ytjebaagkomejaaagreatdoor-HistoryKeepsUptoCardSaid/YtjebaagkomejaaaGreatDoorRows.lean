/-
  NARROWER THAN 'FOR EVERY INPUT', by the rows' own cells (each row's printed sentence says how): HistorySteps: laid · HistoryReturns: laid · HistoryPlays: laid · HistoryKeeps: laid.
  DERIVED. THE GIVEN ROWS OF THIS SEAT. 4 by the template 'for every input the law returns true; each argument reads behind the call as it read before'; 0 by the template 'total and deterministic' (their statements: YtjebaagkomejaaaGreatDoorTotals.lean).
  GIVEN WITH THE SEED: the statements are not yours to turn. If you find one false, say at which input.
  Laid BY PROGRAM, IN A SANDBOX (cutbox-rows.mjs): the forced cells as the released guide's own fill.sh prints them over the translation 2209a31ca37401fe… (all of the seat's roots in one cut). By AI agents, Wed Nov 11 2026. No macro, syntax, notation, axiom, sorry.
-/
import Derived.Test.YtjebaagkomejaaaGreatDoorChecked
import GoSem.PinnedTables
import GoSem.Claim
import GoSem.ClaimJoined
import GoSem.ClaimMapViews
import Derived.JoinedTies
import Derived.KernelRfl
namespace Go.Proofs.YtjebaagkomejaaaGreatDoor
/- THE CELL 'sum', in the pinned program and in every row, IS THE sha256 OF THE DUMP (.gsa) THAT YtjebaagkomejaaaGreatDoorProg.lean LOADS. Nothing in Lean hashes anything: it is a label: what it is worth is what the hold of that sum in a sandbox is worth. -/
noncomputable def Tryz.pinned : Pinned := { name := "ytjebaagkomejaaagreatdoor", sum := "2209a31ca37401fe36921878b02d7cfec4eaa4e38b99ba47e78fda4102c9140d", checked := Tryz.checked }
namespace Rows
def none {H : Type} : Left H := { results := [], args := [] }

/- WHAT THE LISTED PACKAGE-LEVEL VARIABLES READ AS WHEN THE CALL BEGINS. Each datum BY PROGRAM (the guide's laid-datum.mjs) off the statement by which the dump's own 'gosem.cut.vars' lays the variable. In a bare row this is a premise. The card (YtjebaagkomejaaaGreatDoorCards.lean) ties it to the program's text. -/
def laid_unicode_utf8_acceptRanges {H : Type} : DataW H := .agg [.agg [.lit (.int .u8 128), .lit (.int .u8 191)], .agg [.lit (.int .u8 160), .lit (.int .u8 191)], .agg [.lit (.int .u8 128), .lit (.int .u8 159)], .agg [.lit (.int .u8 144), .lit (.int .u8 191)], .agg [.lit (.int .u8 128), .lit (.int .u8 143)], .agg [.lit (.int .u8 0), .lit (.int .u8 0)], .agg [.lit (.int .u8 0), .lit (.int .u8 0)], .agg [.lit (.int .u8 0), .lit (.int .u8 0)], .agg [.lit (.int .u8 0), .lit (.int .u8 0)], .agg [.lit (.int .u8 0), .lit (.int .u8 0)], .agg [.lit (.int .u8 0), .lit (.int .u8 0)], .agg [.lit (.int .u8 0), .lit (.int .u8 0)], .agg [.lit (.int .u8 0), .lit (.int .u8 0)], .agg [.lit (.int .u8 0), .lit (.int .u8 0)], .agg [.lit (.int .u8 0), .lit (.int .u8 0)], .agg [.lit (.int .u8 0), .lit (.int .u8 0)]]
/-- One of Go's own tables, pinned by name: the form's constant. -/
def laid_unicode_utf8_first : DataW Unit := Go.Pinned.utf8First

/-- 'captionerlaw16.HistorySteps': WHATEVER THE INPUT: true; the input reads as it did. -/
def historyStepsSpec : ChangeSpec := { name := "historySteps", fn := fun _ => fun
  | [d1, d2, d3] => { results := [.lit (.bool true)], args := [d1, d2, d3] }
  | _ => none }
def historyStepsRow : OpenClaim := { program := "ytjebaagkomejaaagreatdoor", sum := "2209a31ca37401fe36921878b02d7cfec4eaa4e38b99ba47e78fda4102c9140d", func := "captioner/captionerlaw16.HistorySteps", spec := "historySteps", inPlace := ["internal/abi.NoEscape", "internal/bytealg.IndexByteString", "internal/bytealg.IndexString", "internal/bytealg.MakeNoZero", "slices.overlaps[captioner/api.Region]"], unfollowed := true, recurses := true, named := ["unicode/utf8.first", "unicode/utf8.acceptRanges", "internal/bytealg.MaxLen"], apart := false, laid := [("unicode/utf8.acceptRanges", laid_unicode_utf8_acceptRanges), ("unicode/utf8.first", laid_unicode_utf8_first)] }
def HistoryStepsSaid : Prop := historyStepsRow.holds Tryz.pinned (OpenSpec.ofChange historyStepsSpec)

/-- ITS FALSE NEIGHBOUR: 'it returns false'. Refute it at one input. -/
def historyStepsWrong : ChangeSpec := { name := "historySteps", fn := fun _ => fun
  | [d1, d2, d3] => { results := [.lit (.bool false)], args := [d1, d2, d3] }
  | _ => none }
def HistoryStepsWrongFalsely : Prop := historyStepsRow.holds Tryz.pinned (OpenSpec.ofChange historyStepsWrong)

/-- 'captionerlaw16.HistoryReturns': WHATEVER THE INPUT: true; the input reads as it did. -/
def historyReturnsSpec : ChangeSpec := { name := "historyReturns", fn := fun _ => fun
  | [d1, d2, d3] => { results := [.lit (.bool true)], args := [d1, d2, d3] }
  | _ => none }
def historyReturnsRow : OpenClaim := { program := "ytjebaagkomejaaagreatdoor", sum := "2209a31ca37401fe36921878b02d7cfec4eaa4e38b99ba47e78fda4102c9140d", func := "captioner/captionerlaw16.HistoryReturns", spec := "historyReturns", inPlace := ["internal/abi.NoEscape", "internal/bytealg.IndexByteString", "internal/bytealg.IndexString", "internal/bytealg.MakeNoZero", "slices.overlaps[captioner/api.Region]"], unfollowed := true, recurses := true, named := ["unicode/utf8.first", "unicode/utf8.acceptRanges", "internal/bytealg.MaxLen"], apart := false, laid := [("unicode/utf8.acceptRanges", laid_unicode_utf8_acceptRanges), ("unicode/utf8.first", laid_unicode_utf8_first)] }
def HistoryReturnsSaid : Prop := historyReturnsRow.holds Tryz.pinned (OpenSpec.ofChange historyReturnsSpec)

/-- ITS FALSE NEIGHBOUR: 'it returns false'. Refute it at one input. -/
def historyReturnsWrong : ChangeSpec := { name := "historyReturns", fn := fun _ => fun
  | [d1, d2, d3] => { results := [.lit (.bool false)], args := [d1, d2, d3] }
  | _ => none }
def HistoryReturnsWrongFalsely : Prop := historyReturnsRow.holds Tryz.pinned (OpenSpec.ofChange historyReturnsWrong)

/-- 'captionerlaw16.HistoryPlays': WHATEVER THE INPUT: true; the input reads as it did. -/
def historyPlaysSpec : ChangeSpec := { name := "historyPlays", fn := fun _ => fun
  | [d1, d2] => { results := [.lit (.bool true)], args := [d1, d2] }
  | _ => none }
def historyPlaysRow : OpenClaim := { program := "ytjebaagkomejaaagreatdoor", sum := "2209a31ca37401fe36921878b02d7cfec4eaa4e38b99ba47e78fda4102c9140d", func := "captioner/captionerlaw16.HistoryPlays", spec := "historyPlays", inPlace := ["internal/abi.NoEscape", "internal/bytealg.IndexByteString", "internal/bytealg.IndexString", "internal/bytealg.MakeNoZero", "slices.overlaps[captioner/api.Region]"], unfollowed := true, recurses := true, named := ["unicode/utf8.first", "unicode/utf8.acceptRanges", "internal/bytealg.MaxLen"], apart := false, laid := [("unicode/utf8.acceptRanges", laid_unicode_utf8_acceptRanges), ("unicode/utf8.first", laid_unicode_utf8_first)] }
def HistoryPlaysSaid : Prop := historyPlaysRow.holds Tryz.pinned (OpenSpec.ofChange historyPlaysSpec)

/-- ITS FALSE NEIGHBOUR: 'it returns false'. Refute it at one input. -/
def historyPlaysWrong : ChangeSpec := { name := "historyPlays", fn := fun _ => fun
  | [d1, d2] => { results := [.lit (.bool false)], args := [d1, d2] }
  | _ => none }
def HistoryPlaysWrongFalsely : Prop := historyPlaysRow.holds Tryz.pinned (OpenSpec.ofChange historyPlaysWrong)

/-- 'captionerlaw16.HistoryKeeps': WHATEVER THE INPUT: true; the input reads as it did. -/
def historyKeepsSpec : ChangeSpec := { name := "historyKeeps", fn := fun _ => fun
  | [d1, d2] => { results := [.lit (.bool true)], args := [d1, d2] }
  | _ => none }
def historyKeepsRow : OpenClaim := { program := "ytjebaagkomejaaagreatdoor", sum := "2209a31ca37401fe36921878b02d7cfec4eaa4e38b99ba47e78fda4102c9140d", func := "captioner/captionerlaw16.HistoryKeeps", spec := "historyKeeps", inPlace := ["internal/abi.NoEscape", "internal/bytealg.IndexByteString", "internal/bytealg.IndexString", "internal/bytealg.MakeNoZero", "slices.overlaps[captioner/api.Region]"], unfollowed := true, recurses := true, named := ["unicode/utf8.first", "unicode/utf8.acceptRanges", "internal/bytealg.MaxLen"], apart := false, laid := [("unicode/utf8.acceptRanges", laid_unicode_utf8_acceptRanges), ("unicode/utf8.first", laid_unicode_utf8_first)] }
def HistoryKeepsSaid : Prop := historyKeepsRow.holds Tryz.pinned (OpenSpec.ofChange historyKeepsSpec)

/-- ITS FALSE NEIGHBOUR: 'it returns false'. Refute it at one input. -/
def historyKeepsWrong : ChangeSpec := { name := "historyKeeps", fn := fun _ => fun
  | [d1, d2] => { results := [.lit (.bool false)], args := [d1, d2] }
  | _ => none }
def HistoryKeepsWrongFalsely : Prop := historyKeepsRow.holds Tryz.pinned (OpenSpec.ofChange historyKeepsWrong)

/- THE SECOND FORM. 'bulk': how many values and letters a reading holds, each counted each time it is reached (what is shared counts as often as it is met; a slice's spare places count too). A statement '..UptoSaid' is the law's where the arguments, and the package variables that the reading takes, are together of bulk at most 1048576: NARROWER than '..Said'. Prove '..Said' where nothing that the law and all that it calls make is longer than what came in: it says more and counts as full. Else prove '..UptoSaid'. A law counts once. -/
mutual
def uptoBulk {H : Type} : DataW H → Nat
  | .lit (.string bytes) => bytes.length + 1
  | .lit _ => 1
  | .nil => 1
  | .ptr d => uptoBulk d + 1
  | .slice elems spare => uptoBulkAll elems + uptoBulkAll spare + 1
  | .agg parts => uptoBulkAll parts + 1
  | .iface _ d => uptoBulk d + 1
  | .map entries => uptoBulkEntries entries + 1
  | .held _ => 1
def uptoBulkAll {H : Type} : List (DataW H) → Nat
  | [] => 0
  | d :: r => uptoBulk d + uptoBulkAll r
def uptoBulkEntries {H : Type} : List (Lit × DataW H) → Nat
  | [] => 0
  | x :: r => uptoBulkEntry x + uptoBulkEntries r
def uptoBulkEntry {H : Type} : Lit × DataW H → Nat
  | (.string bytes, d) => bytes.length + uptoBulk d + 1
  | (_, d) => uptoBulk d + 1
 end
def uptoSmall : (H : Type) → List (DataW H) → Bool := fun _ ds => decide (uptoBulkAll ds ≤ 1048576)
def OpenSpec.upto (s : _root_.Go.ChangeSpec) : _root_.Go.OpenSpec := { _root_.Go.OpenSpec.ofChange s with cond := some uptoSmall }

/-- 'captionerlaw16.HistorySteps', WHERE WHAT IT READS IS OF BULK AT MOST 1048576: true; the input reads as it did. -/
def historyStepsUptoRow : OpenClaim := { program := "ytjebaagkomejaaagreatdoor", sum := "2209a31ca37401fe36921878b02d7cfec4eaa4e38b99ba47e78fda4102c9140d", func := "captioner/captionerlaw16.HistorySteps", spec := "historySteps", inPlace := ["internal/abi.NoEscape", "internal/bytealg.IndexByteString", "internal/bytealg.IndexString", "internal/bytealg.MakeNoZero", "slices.overlaps[captioner/api.Region]"], unfollowed := true, recurses := true, named := ["unicode/utf8.first", "unicode/utf8.acceptRanges", "internal/bytealg.MaxLen"], apart := false, laid := [("unicode/utf8.acceptRanges", laid_unicode_utf8_acceptRanges), ("unicode/utf8.first", laid_unicode_utf8_first)], narrowed := true }
def HistoryStepsUptoSaid : Prop := historyStepsUptoRow.holds Tryz.pinned (OpenSpec.upto historyStepsSpec)

/-- 'captionerlaw16.HistoryReturns', WHERE WHAT IT READS IS OF BULK AT MOST 1048576: true; the input reads as it did. -/
def historyReturnsUptoRow : OpenClaim := { program := "ytjebaagkomejaaagreatdoor", sum := "2209a31ca37401fe36921878b02d7cfec4eaa4e38b99ba47e78fda4102c9140d", func := "captioner/captionerlaw16.HistoryReturns", spec := "historyReturns", inPlace := ["internal/abi.NoEscape", "internal/bytealg.IndexByteString", "internal/bytealg.IndexString", "internal/bytealg.MakeNoZero", "slices.overlaps[captioner/api.Region]"], unfollowed := true, recurses := true, named := ["unicode/utf8.first", "unicode/utf8.acceptRanges", "internal/bytealg.MaxLen"], apart := false, laid := [("unicode/utf8.acceptRanges", laid_unicode_utf8_acceptRanges), ("unicode/utf8.first", laid_unicode_utf8_first)], narrowed := true }
def HistoryReturnsUptoSaid : Prop := historyReturnsUptoRow.holds Tryz.pinned (OpenSpec.upto historyReturnsSpec)

/-- 'captionerlaw16.HistoryPlays', WHERE WHAT IT READS IS OF BULK AT MOST 1048576: true; the input reads as it did. -/
def historyPlaysUptoRow : OpenClaim := { program := "ytjebaagkomejaaagreatdoor", sum := "2209a31ca37401fe36921878b02d7cfec4eaa4e38b99ba47e78fda4102c9140d", func := "captioner/captionerlaw16.HistoryPlays", spec := "historyPlays", inPlace := ["internal/abi.NoEscape", "internal/bytealg.IndexByteString", "internal/bytealg.IndexString", "internal/bytealg.MakeNoZero", "slices.overlaps[captioner/api.Region]"], unfollowed := true, recurses := true, named := ["unicode/utf8.first", "unicode/utf8.acceptRanges", "internal/bytealg.MaxLen"], apart := false, laid := [("unicode/utf8.acceptRanges", laid_unicode_utf8_acceptRanges), ("unicode/utf8.first", laid_unicode_utf8_first)], narrowed := true }
def HistoryPlaysUptoSaid : Prop := historyPlaysUptoRow.holds Tryz.pinned (OpenSpec.upto historyPlaysSpec)

/-- 'captionerlaw16.HistoryKeeps', WHERE WHAT IT READS IS OF BULK AT MOST 1048576: true; the input reads as it did. -/
def historyKeepsUptoRow : OpenClaim := { program := "ytjebaagkomejaaagreatdoor", sum := "2209a31ca37401fe36921878b02d7cfec4eaa4e38b99ba47e78fda4102c9140d", func := "captioner/captionerlaw16.HistoryKeeps", spec := "historyKeeps", inPlace := ["internal/abi.NoEscape", "internal/bytealg.IndexByteString", "internal/bytealg.IndexString", "internal/bytealg.MakeNoZero", "slices.overlaps[captioner/api.Region]"], unfollowed := true, recurses := true, named := ["unicode/utf8.first", "unicode/utf8.acceptRanges", "internal/bytealg.MaxLen"], apart := false, laid := [("unicode/utf8.acceptRanges", laid_unicode_utf8_acceptRanges), ("unicode/utf8.first", laid_unicode_utf8_first)], narrowed := true }
def HistoryKeepsUptoSaid : Prop := historyKeepsUptoRow.holds Tryz.pinned (OpenSpec.upto historyKeepsSpec)

end Rows
end Go.Proofs.YtjebaagkomejaaaGreatDoor
