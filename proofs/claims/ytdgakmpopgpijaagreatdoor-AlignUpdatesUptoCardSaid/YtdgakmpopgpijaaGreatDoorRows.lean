/-
  NARROWER THAN 'FOR EVERY INPUT', by the rows' own cells (each row's printed sentence says how): AlignUpdates: laid · AlignStays: laid · AlignChecks: laid · AlignSets: laid.
  DERIVED. THE GIVEN ROWS OF THIS SEAT. 4 by the template 'for every input the law returns true; each argument reads behind the call as it read before'; 0 by the template 'total and deterministic' (their statements: YtdgakmpopgpijaaGreatDoorTotals.lean).
  GIVEN WITH THE SEED: the statements are not yours to turn. If you find one false, say at which input.
  Laid BY PROGRAM, IN A SANDBOX (cutbox-rows.mjs): the forced cells as the released guide's own fill.sh prints them over the translation 7519223b5b28ece0… (all of the seat's roots in one cut). By AI agents, Wed Nov 11 2026. No macro, syntax, notation, axiom, sorry.
-/
import Derived.Test.YtdgakmpopgpijaaGreatDoorChecked
import GoSem.PinnedTables
import GoSem.Claim
import GoSem.ClaimJoined
import GoSem.ClaimMapViews
import Derived.JoinedTies
import Derived.KernelRfl
namespace Go.Proofs.YtdgakmpopgpijaaGreatDoor
/- THE CELL 'sum', in the pinned program and in every row, IS THE sha256 OF THE DUMP (.gsa) THAT YtdgakmpopgpijaaGreatDoorProg.lean LOADS. Nothing in Lean hashes anything: it is a label: what it is worth is what the hold of that sum in a sandbox is worth. -/
noncomputable def Tryz.pinned : Pinned := { name := "ytdgakmpopgpijaagreatdoor", sum := "7519223b5b28ece0a85590e4f76a9a15f4aed7068d80bf54cc6d296389d1b57f", checked := Tryz.checked }
namespace Rows
def none {H : Type} : Left H := { results := [], args := [] }

/- WHAT THE LISTED PACKAGE-LEVEL VARIABLES READ AS WHEN THE CALL BEGINS. Each datum BY PROGRAM (the guide's laid-datum.mjs) off the statement by which the dump's own 'gosem.cut.vars' lays the variable. In a bare row this is a premise. The card (YtdgakmpopgpijaaGreatDoorCards.lean) ties it to the program's text. -/
def laid_unicode_utf8_acceptRanges {H : Type} : DataW H := .agg [.agg [.lit (.int .u8 128), .lit (.int .u8 191)], .agg [.lit (.int .u8 160), .lit (.int .u8 191)], .agg [.lit (.int .u8 128), .lit (.int .u8 159)], .agg [.lit (.int .u8 144), .lit (.int .u8 191)], .agg [.lit (.int .u8 128), .lit (.int .u8 143)], .agg [.lit (.int .u8 0), .lit (.int .u8 0)], .agg [.lit (.int .u8 0), .lit (.int .u8 0)], .agg [.lit (.int .u8 0), .lit (.int .u8 0)], .agg [.lit (.int .u8 0), .lit (.int .u8 0)], .agg [.lit (.int .u8 0), .lit (.int .u8 0)], .agg [.lit (.int .u8 0), .lit (.int .u8 0)], .agg [.lit (.int .u8 0), .lit (.int .u8 0)], .agg [.lit (.int .u8 0), .lit (.int .u8 0)], .agg [.lit (.int .u8 0), .lit (.int .u8 0)], .agg [.lit (.int .u8 0), .lit (.int .u8 0)], .agg [.lit (.int .u8 0), .lit (.int .u8 0)]]
/-- One of Go's own tables, pinned by name: the form's constant. -/
def laid_unicode_utf8_first : DataW Unit := Go.Pinned.utf8First

/-- 'captionerlaw52.AlignUpdates': WHATEVER THE INPUT: true; the input reads as it did. -/
def alignUpdatesSpec : ChangeSpec := { name := "alignUpdates", fn := fun _ => fun
  | [d1, d2] => { results := [.lit (.bool true)], args := [d1, d2] }
  | _ => none }
def alignUpdatesRow : OpenClaim := { program := "ytdgakmpopgpijaagreatdoor", sum := "7519223b5b28ece0a85590e4f76a9a15f4aed7068d80bf54cc6d296389d1b57f", func := "captioner/captionerlaw52.AlignUpdates", spec := "alignUpdates", inPlace := ["internal/abi.NoEscape", "internal/bytealg.IndexByteString", "internal/bytealg.IndexString"], unfollowed := true, recurses := true, named := ["unicode/utf8.first", "unicode/utf8.acceptRanges", "internal/bytealg.MaxLen"], apart := false, laid := [("unicode/utf8.acceptRanges", laid_unicode_utf8_acceptRanges), ("unicode/utf8.first", laid_unicode_utf8_first)] }
def AlignUpdatesSaid : Prop := alignUpdatesRow.holds Tryz.pinned (OpenSpec.ofChange alignUpdatesSpec)

/-- ITS FALSE NEIGHBOUR: 'it returns false'. Refute it at one input. -/
def alignUpdatesWrong : ChangeSpec := { name := "alignUpdates", fn := fun _ => fun
  | [d1, d2] => { results := [.lit (.bool false)], args := [d1, d2] }
  | _ => none }
def AlignUpdatesWrongFalsely : Prop := alignUpdatesRow.holds Tryz.pinned (OpenSpec.ofChange alignUpdatesWrong)

/-- 'captionerlaw52.AlignStays': WHATEVER THE INPUT: true; the input reads as it did. -/
def alignStaysSpec : ChangeSpec := { name := "alignStays", fn := fun _ => fun
  | [d1, d2, d3] => { results := [.lit (.bool true)], args := [d1, d2, d3] }
  | _ => none }
def alignStaysRow : OpenClaim := { program := "ytdgakmpopgpijaagreatdoor", sum := "7519223b5b28ece0a85590e4f76a9a15f4aed7068d80bf54cc6d296389d1b57f", func := "captioner/captionerlaw52.AlignStays", spec := "alignStays", inPlace := ["internal/abi.NoEscape", "internal/bytealg.IndexByteString", "internal/bytealg.IndexString"], unfollowed := true, recurses := true, named := ["unicode/utf8.first", "unicode/utf8.acceptRanges", "internal/bytealg.MaxLen"], apart := false, laid := [("unicode/utf8.acceptRanges", laid_unicode_utf8_acceptRanges), ("unicode/utf8.first", laid_unicode_utf8_first)] }
def AlignStaysSaid : Prop := alignStaysRow.holds Tryz.pinned (OpenSpec.ofChange alignStaysSpec)

/-- ITS FALSE NEIGHBOUR: 'it returns false'. Refute it at one input. -/
def alignStaysWrong : ChangeSpec := { name := "alignStays", fn := fun _ => fun
  | [d1, d2, d3] => { results := [.lit (.bool false)], args := [d1, d2, d3] }
  | _ => none }
def AlignStaysWrongFalsely : Prop := alignStaysRow.holds Tryz.pinned (OpenSpec.ofChange alignStaysWrong)

/-- 'captionerlaw52.AlignChecks': WHATEVER THE INPUT: true; the input reads as it did. -/
def alignChecksSpec : ChangeSpec := { name := "alignChecks", fn := fun _ => fun
  | [d1, d2, d3] => { results := [.lit (.bool true)], args := [d1, d2, d3] }
  | _ => none }
def alignChecksRow : OpenClaim := { program := "ytdgakmpopgpijaagreatdoor", sum := "7519223b5b28ece0a85590e4f76a9a15f4aed7068d80bf54cc6d296389d1b57f", func := "captioner/captionerlaw52.AlignChecks", spec := "alignChecks", inPlace := ["internal/abi.NoEscape", "internal/bytealg.IndexByteString", "internal/bytealg.IndexString"], unfollowed := true, recurses := true, named := ["unicode/utf8.first", "unicode/utf8.acceptRanges", "internal/bytealg.MaxLen"], apart := false, laid := [("unicode/utf8.acceptRanges", laid_unicode_utf8_acceptRanges), ("unicode/utf8.first", laid_unicode_utf8_first)] }
def AlignChecksSaid : Prop := alignChecksRow.holds Tryz.pinned (OpenSpec.ofChange alignChecksSpec)

/-- ITS FALSE NEIGHBOUR: 'it returns false'. Refute it at one input. -/
def alignChecksWrong : ChangeSpec := { name := "alignChecks", fn := fun _ => fun
  | [d1, d2, d3] => { results := [.lit (.bool false)], args := [d1, d2, d3] }
  | _ => none }
def AlignChecksWrongFalsely : Prop := alignChecksRow.holds Tryz.pinned (OpenSpec.ofChange alignChecksWrong)

/-- 'captionerlaw52.AlignSets': WHATEVER THE INPUT: true; the input reads as it did. -/
def alignSetsSpec : ChangeSpec := { name := "alignSets", fn := fun _ => fun
  | [d1, d2, d3] => { results := [.lit (.bool true)], args := [d1, d2, d3] }
  | _ => none }
def alignSetsRow : OpenClaim := { program := "ytdgakmpopgpijaagreatdoor", sum := "7519223b5b28ece0a85590e4f76a9a15f4aed7068d80bf54cc6d296389d1b57f", func := "captioner/captionerlaw52.AlignSets", spec := "alignSets", inPlace := ["internal/abi.NoEscape", "internal/bytealg.IndexByteString", "internal/bytealg.IndexString"], unfollowed := true, recurses := true, named := ["unicode/utf8.first", "unicode/utf8.acceptRanges", "internal/bytealg.MaxLen"], apart := false, laid := [("unicode/utf8.acceptRanges", laid_unicode_utf8_acceptRanges), ("unicode/utf8.first", laid_unicode_utf8_first)] }
def AlignSetsSaid : Prop := alignSetsRow.holds Tryz.pinned (OpenSpec.ofChange alignSetsSpec)

/-- ITS FALSE NEIGHBOUR: 'it returns false'. Refute it at one input. -/
def alignSetsWrong : ChangeSpec := { name := "alignSets", fn := fun _ => fun
  | [d1, d2, d3] => { results := [.lit (.bool false)], args := [d1, d2, d3] }
  | _ => none }
def AlignSetsWrongFalsely : Prop := alignSetsRow.holds Tryz.pinned (OpenSpec.ofChange alignSetsWrong)

/- THE SECOND FORM. 'bulk': how many values and letters a reading holds, each counted each time it is reached (what is shared counts as often as it is met; a slice's spare places count too). A statement '..UptoSaid' is the law's where the arguments, and the package variables that the reading takes, are together of bulk at most 1048576: NARROWER than '..Said'. Prove '..Said' where nothing that the law and all that it calls make is longer than what came in: it says more and counts as full. Else prove '..UptoSaid'. A law counts once. -/
mutual
def uptoBulk {H : Type} : DataW H → Nat
  | .lit (.string bytes) => bytes.length + 1
  | .lit _ => 1
  | .nil => 1
  | .ptr d => uptoBulk d + 1
  | .slice elems spare => uptoBulkAll elems + uptoBulkAll spare + 1
  | .agg parts => uptoBulkAll parts + 1
  | .iface _ d => uptoBulk d + 1
  | .map entries => uptoBulkEntries entries + 1
  | .held _ => 1
def uptoBulkAll {H : Type} : List (DataW H) → Nat
  | [] => 0
  | d :: r => uptoBulk d + uptoBulkAll r
def uptoBulkEntries {H : Type} : List (Lit × DataW H) → Nat
  | [] => 0
  | x :: r => uptoBulkEntry x + uptoBulkEntries r
def uptoBulkEntry {H : Type} : Lit × DataW H → Nat
  | (.string bytes, d) => bytes.length + uptoBulk d + 1
  | (_, d) => uptoBulk d + 1
 end
def uptoSmall : (H : Type) → List (DataW H) → Bool := fun _ ds => decide (uptoBulkAll ds ≤ 1048576)
def OpenSpec.upto (s : _root_.Go.ChangeSpec) : _root_.Go.OpenSpec := { _root_.Go.OpenSpec.ofChange s with cond := some uptoSmall }

/-- 'captionerlaw52.AlignUpdates', WHERE WHAT IT READS IS OF BULK AT MOST 1048576: true; the input reads as it did. -/
def alignUpdatesUptoRow : OpenClaim := { program := "ytdgakmpopgpijaagreatdoor", sum := "7519223b5b28ece0a85590e4f76a9a15f4aed7068d80bf54cc6d296389d1b57f", func := "captioner/captionerlaw52.AlignUpdates", spec := "alignUpdates", inPlace := ["internal/abi.NoEscape", "internal/bytealg.IndexByteString", "internal/bytealg.IndexString"], unfollowed := true, recurses := true, named := ["unicode/utf8.first", "unicode/utf8.acceptRanges", "internal/bytealg.MaxLen"], apart := false, laid := [("unicode/utf8.acceptRanges", laid_unicode_utf8_acceptRanges), ("unicode/utf8.first", laid_unicode_utf8_first)], narrowed := true }
def AlignUpdatesUptoSaid : Prop := alignUpdatesUptoRow.holds Tryz.pinned (OpenSpec.upto alignUpdatesSpec)

/-- 'captionerlaw52.AlignStays', WHERE WHAT IT READS IS OF BULK AT MOST 1048576: true; the input reads as it did. -/
def alignStaysUptoRow : OpenClaim := { program := "ytdgakmpopgpijaagreatdoor", sum := "7519223b5b28ece0a85590e4f76a9a15f4aed7068d80bf54cc6d296389d1b57f", func := "captioner/captionerlaw52.AlignStays", spec := "alignStays", inPlace := ["internal/abi.NoEscape", "internal/bytealg.IndexByteString", "internal/bytealg.IndexString"], unfollowed := true, recurses := true, named := ["unicode/utf8.first", "unicode/utf8.acceptRanges", "internal/bytealg.MaxLen"], apart := false, laid := [("unicode/utf8.acceptRanges", laid_unicode_utf8_acceptRanges), ("unicode/utf8.first", laid_unicode_utf8_first)], narrowed := true }
def AlignStaysUptoSaid : Prop := alignStaysUptoRow.holds Tryz.pinned (OpenSpec.upto alignStaysSpec)

/-- 'captionerlaw52.AlignChecks', WHERE WHAT IT READS IS OF BULK AT MOST 1048576: true; the input reads as it did. -/
def alignChecksUptoRow : OpenClaim := { program := "ytdgakmpopgpijaagreatdoor", sum := "7519223b5b28ece0a85590e4f76a9a15f4aed7068d80bf54cc6d296389d1b57f", func := "captioner/captionerlaw52.AlignChecks", spec := "alignChecks", inPlace := ["internal/abi.NoEscape", "internal/bytealg.IndexByteString", "internal/bytealg.IndexString"], unfollowed := true, recurses := true, named := ["unicode/utf8.first", "unicode/utf8.acceptRanges", "internal/bytealg.MaxLen"], apart := false, laid := [("unicode/utf8.acceptRanges", laid_unicode_utf8_acceptRanges), ("unicode/utf8.first", laid_unicode_utf8_first)], narrowed := true }
def AlignChecksUptoSaid : Prop := alignChecksUptoRow.holds Tryz.pinned (OpenSpec.upto alignChecksSpec)

/-- 'captionerlaw52.AlignSets', WHERE WHAT IT READS IS OF BULK AT MOST 1048576: true; the input reads as it did. -/
def alignSetsUptoRow : OpenClaim := { program := "ytdgakmpopgpijaagreatdoor", sum := "7519223b5b28ece0a85590e4f76a9a15f4aed7068d80bf54cc6d296389d1b57f", func := "captioner/captionerlaw52.AlignSets", spec := "alignSets", inPlace := ["internal/abi.NoEscape", "internal/bytealg.IndexByteString", "internal/bytealg.IndexString"], unfollowed := true, recurses := true, named := ["unicode/utf8.first", "unicode/utf8.acceptRanges", "internal/bytealg.MaxLen"], apart := false, laid := [("unicode/utf8.acceptRanges", laid_unicode_utf8_acceptRanges), ("unicode/utf8.first", laid_unicode_utf8_first)], narrowed := true }
def AlignSetsUptoSaid : Prop := alignSetsUptoRow.holds Tryz.pinned (OpenSpec.upto alignSetsSpec)

end Rows
end Go.Proofs.YtdgakmpopgpijaaGreatDoor
