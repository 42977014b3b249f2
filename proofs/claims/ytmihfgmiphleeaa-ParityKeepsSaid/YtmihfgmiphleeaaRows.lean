/-
  No cell of these rows narrows 'for every input' (looked for: loops, veiled, ifaces, maps, wideKeys, modest, calm, conditions, laid).
  DERIVED. THE GIVEN ROWS OF THIS SEAT. 5 by the template 'for every input the law returns true; each argument reads behind the call as it read before'; 0 by the template 'total and deterministic' (their statements: YtmihfgmiphleeaaTotals.lean).
  GIVEN WITH THE SEED: the statements are not yours to turn. If you find one false, say at which input.
  Laid BY PROGRAM, IN A SANDBOX (cutbox-rows.mjs): the forced cells as the released guide's own fill.sh prints them over the translation 7aaadfc52fec3b46… (all of the seat's roots in one cut). By AI agents, Wed Nov 11 2026. No macro, syntax, notation, axiom, sorry.
-/
import Derived.Test.YtmihfgmiphleeaaChecked
import GoSem.Claim
import GoSem.ClaimJoined
import GoSem.ClaimMapViews
import Derived.JoinedTies
import Derived.KernelRfl
namespace Go.Proofs.Ytmihfgmiphleeaa
/- THE CELL 'sum', in the pinned program and in every row, IS THE sha256 OF THE DUMP (.gsa) THAT YtmihfgmiphleeaaProg.lean LOADS. Nothing in Lean hashes anything: it is a label: what it is worth is what the hold of that sum in a sandbox is worth. -/
noncomputable def Try.pinned : Pinned := { name := "ytmihfgmiphleeaa", sum := "7aaadfc52fec3b4640a060dd20b9acf9de5075969a14e036e7d8c20e0830059c", checked := Try.checked }
namespace Rows
def none {H : Type} : Left H := { results := [], args := [] }

/-- 'captionerlaw25.ParityBits': WHATEVER THE INPUT: true; the input reads as it did. -/
def parityBitsSpec : ChangeSpec := { name := "parityBits", fn := fun _ => fun
  | [d] => { results := [.lit (.bool true)], args := [d] }
  | _ => none }
def parityBitsRow : OpenClaim := { program := "ytmihfgmiphleeaa", sum := "7aaadfc52fec3b4640a060dd20b9acf9de5075969a14e036e7d8c20e0830059c", func := "captioner/captionerlaw25.ParityBits", spec := "parityBits", apart := false }
def ParityBitsSaid : Prop := parityBitsRow.holds Try.pinned (OpenSpec.ofChange parityBitsSpec)

/-- ITS FALSE NEIGHBOUR: 'it returns false'. Refute it at one input. -/
def parityBitsWrong : ChangeSpec := { name := "parityBits", fn := fun _ => fun
  | [d] => { results := [.lit (.bool false)], args := [d] }
  | _ => none }
def ParityBitsWrongFalsely : Prop := parityBitsRow.holds Try.pinned (OpenSpec.ofChange parityBitsWrong)

/-- 'captionerlaw25.ParityFinds': WHATEVER THE INPUT: true; the input reads as it did. -/
def parityFindsSpec : ChangeSpec := { name := "parityFinds", fn := fun _ => fun
  | [d1, d2, d3] => { results := [.lit (.bool true)], args := [d1, d2, d3] }
  | _ => none }
def parityFindsRow : OpenClaim := { program := "ytmihfgmiphleeaa", sum := "7aaadfc52fec3b4640a060dd20b9acf9de5075969a14e036e7d8c20e0830059c", func := "captioner/captionerlaw25.ParityFinds", spec := "parityFinds", apart := false }
def ParityFindsSaid : Prop := parityFindsRow.holds Try.pinned (OpenSpec.ofChange parityFindsSpec)

/-- ITS FALSE NEIGHBOUR: 'it returns false'. Refute it at one input. -/
def parityFindsWrong : ChangeSpec := { name := "parityFinds", fn := fun _ => fun
  | [d1, d2, d3] => { results := [.lit (.bool false)], args := [d1, d2, d3] }
  | _ => none }
def ParityFindsWrongFalsely : Prop := parityFindsRow.holds Try.pinned (OpenSpec.ofChange parityFindsWrong)

/-- 'captionerlaw25.ParityStrings': WHATEVER THE INPUT: true; the input reads as it did. -/
def parityStringsSpec : ChangeSpec := { name := "parityStrings", fn := fun _ => fun
  | [d] => { results := [.lit (.bool true)], args := [d] }
  | _ => none }
def parityStringsRow : OpenClaim := { program := "ytmihfgmiphleeaa", sum := "7aaadfc52fec3b4640a060dd20b9acf9de5075969a14e036e7d8c20e0830059c", func := "captioner/captionerlaw25.ParityStrings", spec := "parityStrings", apart := false }
def ParityStringsSaid : Prop := parityStringsRow.holds Try.pinned (OpenSpec.ofChange parityStringsSpec)

/-- ITS FALSE NEIGHBOUR: 'it returns false'. Refute it at one input. -/
def parityStringsWrong : ChangeSpec := { name := "parityStrings", fn := fun _ => fun
  | [d] => { results := [.lit (.bool false)], args := [d] }
  | _ => none }
def ParityStringsWrongFalsely : Prop := parityStringsRow.holds Try.pinned (OpenSpec.ofChange parityStringsWrong)

/-- 'captionerlaw25.ParityAdds': WHATEVER THE INPUT: true; the input reads as it did. -/
def parityAddsSpec : ChangeSpec := { name := "parityAdds", fn := fun _ => fun
  | [d] => { results := [.lit (.bool true)], args := [d] }
  | _ => none }
def parityAddsRow : OpenClaim := { program := "ytmihfgmiphleeaa", sum := "7aaadfc52fec3b4640a060dd20b9acf9de5075969a14e036e7d8c20e0830059c", func := "captioner/captionerlaw25.ParityAdds", spec := "parityAdds", apart := false }
def ParityAddsSaid : Prop := parityAddsRow.holds Try.pinned (OpenSpec.ofChange parityAddsSpec)

/-- ITS FALSE NEIGHBOUR: 'it returns false'. Refute it at one input. -/
def parityAddsWrong : ChangeSpec := { name := "parityAdds", fn := fun _ => fun
  | [d] => { results := [.lit (.bool false)], args := [d] }
  | _ => none }
def ParityAddsWrongFalsely : Prop := parityAddsRow.holds Try.pinned (OpenSpec.ofChange parityAddsWrong)

/-- 'captionerlaw25.ParityKeeps': WHATEVER THE INPUT: true; the input reads as it did. -/
def parityKeepsSpec : ChangeSpec := { name := "parityKeeps", fn := fun _ => fun
  | [d] => { results := [.lit (.bool true)], args := [d] }
  | _ => none }
def parityKeepsRow : OpenClaim := { program := "ytmihfgmiphleeaa", sum := "7aaadfc52fec3b4640a060dd20b9acf9de5075969a14e036e7d8c20e0830059c", func := "captioner/captionerlaw25.ParityKeeps", spec := "parityKeeps", apart := false }
def ParityKeepsSaid : Prop := parityKeepsRow.holds Try.pinned (OpenSpec.ofChange parityKeepsSpec)

/-- ITS FALSE NEIGHBOUR: 'it returns false'. Refute it at one input. -/
def parityKeepsWrong : ChangeSpec := { name := "parityKeeps", fn := fun _ => fun
  | [d] => { results := [.lit (.bool false)], args := [d] }
  | _ => none }
def ParityKeepsWrongFalsely : Prop := parityKeepsRow.holds Try.pinned (OpenSpec.ofChange parityKeepsWrong)

/- THE SECOND FORM. 'bulk': how many values and letters a reading holds, each counted each time it is reached (what is shared counts as often as it is met; a slice's spare places count too). A statement '..UptoSaid' is the law's where the arguments, and the package variables that the reading takes, are together of bulk at most 1048576: NARROWER than '..Said'. Prove '..Said' where nothing that the law and all that it calls make is longer than what came in: it says more and counts as full. Else prove '..UptoSaid'. A law counts once. -/
mutual
def uptoBulk {H : Type} : DataW H → Nat
  | .lit (.string bytes) => bytes.length + 1
  | .lit _ => 1
  | .nil => 1
  | .ptr d => uptoBulk d + 1
  | .slice elems spare => uptoBulkAll elems + uptoBulkAll spare + 1
  | .agg parts => uptoBulkAll parts + 1
  | .iface _ d => uptoBulk d + 1
  | .map entries => uptoBulkEntries entries + 1
  | .held _ => 1
def uptoBulkAll {H : Type} : List (DataW H) → Nat
  | [] => 0
  | d :: r => uptoBulk d + uptoBulkAll r
def uptoBulkEntries {H : Type} : List (Lit × DataW H) → Nat
  | [] => 0
  | x :: r => uptoBulkEntry x + uptoBulkEntries r
def uptoBulkEntry {H : Type} : Lit × DataW H → Nat
  | (.string bytes, d) => bytes.length + uptoBulk d + 1
  | (_, d) => uptoBulk d + 1
 end
def uptoSmall : (H : Type) → List (DataW H) → Bool := fun _ ds => decide (uptoBulkAll ds ≤ 1048576)
def OpenSpec.upto (s : _root_.Go.ChangeSpec) : _root_.Go.OpenSpec := { _root_.Go.OpenSpec.ofChange s with cond := some uptoSmall }

/-- 'captionerlaw25.ParityBits', WHERE WHAT IT READS IS OF BULK AT MOST 1048576: true; the input reads as it did. -/
def parityBitsUptoRow : OpenClaim := { program := "ytmihfgmiphleeaa", sum := "7aaadfc52fec3b4640a060dd20b9acf9de5075969a14e036e7d8c20e0830059c", func := "captioner/captionerlaw25.ParityBits", spec := "parityBits", apart := false, narrowed := true }
def ParityBitsUptoSaid : Prop := parityBitsUptoRow.holds Try.pinned (OpenSpec.upto parityBitsSpec)

/-- 'captionerlaw25.ParityFinds', WHERE WHAT IT READS IS OF BULK AT MOST 1048576: true; the input reads as it did. -/
def parityFindsUptoRow : OpenClaim := { program := "ytmihfgmiphleeaa", sum := "7aaadfc52fec3b4640a060dd20b9acf9de5075969a14e036e7d8c20e0830059c", func := "captioner/captionerlaw25.ParityFinds", spec := "parityFinds", apart := false, narrowed := true }
def ParityFindsUptoSaid : Prop := parityFindsUptoRow.holds Try.pinned (OpenSpec.upto parityFindsSpec)

/-- 'captionerlaw25.ParityStrings', WHERE WHAT IT READS IS OF BULK AT MOST 1048576: true; the input reads as it did. -/
def parityStringsUptoRow : OpenClaim := { program := "ytmihfgmiphleeaa", sum := "7aaadfc52fec3b4640a060dd20b9acf9de5075969a14e036e7d8c20e0830059c", func := "captioner/captionerlaw25.ParityStrings", spec := "parityStrings", apart := false, narrowed := true }
def ParityStringsUptoSaid : Prop := parityStringsUptoRow.holds Try.pinned (OpenSpec.upto parityStringsSpec)

/-- 'captionerlaw25.ParityAdds', WHERE WHAT IT READS IS OF BULK AT MOST 1048576: true; the input reads as it did. -/
def parityAddsUptoRow : OpenClaim := { program := "ytmihfgmiphleeaa", sum := "7aaadfc52fec3b4640a060dd20b9acf9de5075969a14e036e7d8c20e0830059c", func := "captioner/captionerlaw25.ParityAdds", spec := "parityAdds", apart := false, narrowed := true }
def ParityAddsUptoSaid : Prop := parityAddsUptoRow.holds Try.pinned (OpenSpec.upto parityAddsSpec)

/-- 'captionerlaw25.ParityKeeps', WHERE WHAT IT READS IS OF BULK AT MOST 1048576: true; the input reads as it did. -/
def parityKeepsUptoRow : OpenClaim := { program := "ytmihfgmiphleeaa", sum := "7aaadfc52fec3b4640a060dd20b9acf9de5075969a14e036e7d8c20e0830059c", func := "captioner/captionerlaw25.ParityKeeps", spec := "parityKeeps", apart := false, narrowed := true }
def ParityKeepsUptoSaid : Prop := parityKeepsUptoRow.holds Try.pinned (OpenSpec.upto parityKeepsSpec)

end Rows
end Go.Proofs.Ytmihfgmiphleeaa
