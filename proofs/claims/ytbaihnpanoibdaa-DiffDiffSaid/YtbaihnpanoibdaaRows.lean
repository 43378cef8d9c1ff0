/-
  No cell of these rows narrows 'for every input' (looked for: loops, veiled, ifaces, maps, wideKeys, modest, calm, conditions, laid).
  DERIVED. THE GIVEN ROWS OF THIS SEAT. 5 by the template 'for every input the law returns true; each argument reads behind the call as it read before'; 0 by the template 'total and deterministic' (their statements: YtbaihnpanoibdaaTotals.lean).
  GIVEN WITH THE SEED: the statements are not yours to turn. If you find one false, say at which input.
  Laid BY PROGRAM, IN A SANDBOX (cutbox-rows.mjs): the forced cells as the released guide's own fill.sh prints them over the translation 48a07cb871c30368… (all of the seat's roots in one cut). By AI agents, Wed Nov 11 2026. No macro, syntax, notation, axiom, sorry.
-/
import Derived.Test.YtbaihnpanoibdaaChecked
import GoSem.Claim
import GoSem.ClaimJoined
import GoSem.ClaimMapViews
import Derived.JoinedTies
import Derived.KernelRfl
namespace Go.Proofs.Ytbaihnpanoibdaa
/- THE CELL 'sum', in the pinned program and in every row, IS THE sha256 OF THE DUMP (.gsa) THAT YtbaihnpanoibdaaProg.lean LOADS. Nothing in Lean hashes anything: it is a label: what it is worth is what the hold of that sum in a sandbox is worth. -/
noncomputable def Try.pinned : Pinned := { name := "ytbaihnpanoibdaa", sum := "48a07cb871c30368773eb404020102801e2d512c8c8da9b3f27dc5d00c8a3914", checked := Try.checked }
namespace Rows
def none {H : Type} : Left H := { results := [], args := [] }

/-- 'offshootlaw28.DiffDiff': WHATEVER THE INPUT: true; the input reads as it did. -/
def diffDiffSpec : ChangeSpec := { name := "diffDiff", fn := fun _ => fun
  | [d1, d2] => { results := [.lit (.bool true)], args := [d1, d2] }
  | _ => none }
def diffDiffRow : OpenClaim := { program := "ytbaihnpanoibdaa", sum := "48a07cb871c30368773eb404020102801e2d512c8c8da9b3f27dc5d00c8a3914", func := "offshoot/offshootlaw28.DiffDiff", spec := "diffDiff", unfollowed := true, recurses := true, plainKeys := false, apart := false }
def DiffDiffSaid : Prop := diffDiffRow.holds Try.pinned (OpenSpec.ofChange diffDiffSpec)

/-- ITS FALSE NEIGHBOUR: 'it returns false'. Refute it at one input. -/
def diffDiffWrong : ChangeSpec := { name := "diffDiff", fn := fun _ => fun
  | [d1, d2] => { results := [.lit (.bool false)], args := [d1, d2] }
  | _ => none }
def DiffDiffWrongFalsely : Prop := diffDiffRow.holds Try.pinned (OpenSpec.ofChange diffDiffWrong)

/-- 'offshootlaw28.DiffPatch': WHATEVER THE INPUT: true; the input reads as it did. -/
def diffPatchSpec : ChangeSpec := { name := "diffPatch", fn := fun _ => fun
  | [d1, d2] => { results := [.lit (.bool true)], args := [d1, d2] }
  | _ => none }
def diffPatchRow : OpenClaim := { program := "ytbaihnpanoibdaa", sum := "48a07cb871c30368773eb404020102801e2d512c8c8da9b3f27dc5d00c8a3914", func := "offshoot/offshootlaw28.DiffPatch", spec := "diffPatch", unfollowed := true, recurses := true, plainKeys := false, apart := false }
def DiffPatchSaid : Prop := diffPatchRow.holds Try.pinned (OpenSpec.ofChange diffPatchSpec)

/-- ITS FALSE NEIGHBOUR: 'it returns false'. Refute it at one input. -/
def diffPatchWrong : ChangeSpec := { name := "diffPatch", fn := fun _ => fun
  | [d1, d2] => { results := [.lit (.bool false)], args := [d1, d2] }
  | _ => none }
def DiffPatchWrongFalsely : Prop := diffPatchRow.holds Try.pinned (OpenSpec.ofChange diffPatchWrong)

/-- 'offshootlaw28.DiffFew': WHATEVER THE INPUT: true; the input reads as it did. -/
def diffFewSpec : ChangeSpec := { name := "diffFew", fn := fun _ => fun
  | [d1, d2] => { results := [.lit (.bool true)], args := [d1, d2] }
  | _ => none }
def diffFewRow : OpenClaim := { program := "ytbaihnpanoibdaa", sum := "48a07cb871c30368773eb404020102801e2d512c8c8da9b3f27dc5d00c8a3914", func := "offshoot/offshootlaw28.DiffFew", spec := "diffFew", unfollowed := true, recurses := true, plainKeys := false, apart := false }
def DiffFewSaid : Prop := diffFewRow.holds Try.pinned (OpenSpec.ofChange diffFewSpec)

/-- ITS FALSE NEIGHBOUR: 'it returns false'. Refute it at one input. -/
def diffFewWrong : ChangeSpec := { name := "diffFew", fn := fun _ => fun
  | [d1, d2] => { results := [.lit (.bool false)], args := [d1, d2] }
  | _ => none }
def DiffFewWrongFalsely : Prop := diffFewRow.holds Try.pinned (OpenSpec.ofChange diffFewWrong)

/-- 'offshootlaw28.DiffSplice': WHATEVER THE INPUT: true; the input reads as it did. -/
def diffSpliceSpec : ChangeSpec := { name := "diffSplice", fn := fun _ => fun
  | [d1, d2] => { results := [.lit (.bool true)], args := [d1, d2] }
  | _ => none }
def diffSpliceRow : OpenClaim := { program := "ytbaihnpanoibdaa", sum := "48a07cb871c30368773eb404020102801e2d512c8c8da9b3f27dc5d00c8a3914", func := "offshoot/offshootlaw28.DiffSplice", spec := "diffSplice", unfollowed := true, recurses := true, plainKeys := false, apart := false }
def DiffSpliceSaid : Prop := diffSpliceRow.holds Try.pinned (OpenSpec.ofChange diffSpliceSpec)

/-- ITS FALSE NEIGHBOUR: 'it returns false'. Refute it at one input. -/
def diffSpliceWrong : ChangeSpec := { name := "diffSplice", fn := fun _ => fun
  | [d1, d2] => { results := [.lit (.bool false)], args := [d1, d2] }
  | _ => none }
def DiffSpliceWrongFalsely : Prop := diffSpliceRow.holds Try.pinned (OpenSpec.ofChange diffSpliceWrong)

/-- 'offshootlaw28.DiffBack': WHATEVER THE INPUT: true; the input reads as it did. -/
def diffBackSpec : ChangeSpec := { name := "diffBack", fn := fun _ => fun
  | [d1, d2] => { results := [.lit (.bool true)], args := [d1, d2] }
  | _ => none }
def diffBackRow : OpenClaim := { program := "ytbaihnpanoibdaa", sum := "48a07cb871c30368773eb404020102801e2d512c8c8da9b3f27dc5d00c8a3914", func := "offshoot/offshootlaw28.DiffBack", spec := "diffBack", unfollowed := true, recurses := true, plainKeys := false, apart := false }
def DiffBackSaid : Prop := diffBackRow.holds Try.pinned (OpenSpec.ofChange diffBackSpec)

/-- ITS FALSE NEIGHBOUR: 'it returns false'. Refute it at one input. -/
def diffBackWrong : ChangeSpec := { name := "diffBack", fn := fun _ => fun
  | [d1, d2] => { results := [.lit (.bool false)], args := [d1, d2] }
  | _ => none }
def DiffBackWrongFalsely : Prop := diffBackRow.holds Try.pinned (OpenSpec.ofChange diffBackWrong)

/- THE SECOND FORM. 'bulk': how many values and letters a reading holds, each counted each time it is reached (what is shared counts as often as it is met; a slice's spare places count too). A statement '..UptoSaid' is the law's where the arguments, and the package variables that the reading takes, are together of bulk at most 1048576: NARROWER than '..Said'. Prove '..Said' where nothing that the law and all that it calls make is longer than what came in: it says more and counts as full. Else prove '..UptoSaid'. A law counts once. -/
mutual
def uptoBulk {H : Type} : DataW H → Nat
  | .lit (.string bytes) => bytes.length + 1
  | .lit _ => 1
  | .nil => 1
  | .ptr d => uptoBulk d + 1
  | .slice elems spare => uptoBulkAll elems + uptoBulkAll spare + 1
  | .agg parts => uptoBulkAll parts + 1
  | .iface _ d => uptoBulk d + 1
  | .map entries => uptoBulkEntries entries + 1
  | .held _ => 1
def uptoBulkAll {H : Type} : List (DataW H) → Nat
  | [] => 0
  | d :: r => uptoBulk d + uptoBulkAll r
def uptoBulkEntries {H : Type} : List (Lit × DataW H) → Nat
  | [] => 0
  | x :: r => uptoBulkEntry x + uptoBulkEntries r
def uptoBulkEntry {H : Type} : Lit × DataW H → Nat
  | (.string bytes, d) => bytes.length + uptoBulk d + 1
  | (_, d) => uptoBulk d + 1
 end
def uptoSmall : (H : Type) → List (DataW H) → Bool := fun _ ds => decide (uptoBulkAll ds ≤ 1048576)
def OpenSpec.upto (s : _root_.Go.ChangeSpec) : _root_.Go.OpenSpec := { _root_.Go.OpenSpec.ofChange s with cond := some uptoSmall }

/-- 'offshootlaw28.DiffDiff', WHERE WHAT IT READS IS OF BULK AT MOST 1048576: true; the input reads as it did. -/
def diffDiffUptoRow : OpenClaim := { program := "ytbaihnpanoibdaa", sum := "48a07cb871c30368773eb404020102801e2d512c8c8da9b3f27dc5d00c8a3914", func := "offshoot/offshootlaw28.DiffDiff", spec := "diffDiff", unfollowed := true, recurses := true, plainKeys := false, apart := false, narrowed := true }
def DiffDiffUptoSaid : Prop := diffDiffUptoRow.holds Try.pinned (OpenSpec.upto diffDiffSpec)

/-- 'offshootlaw28.DiffPatch', WHERE WHAT IT READS IS OF BULK AT MOST 1048576: true; the input reads as it did. -/
def diffPatchUptoRow : OpenClaim := { program := "ytbaihnpanoibdaa", sum := "48a07cb871c30368773eb404020102801e2d512c8c8da9b3f27dc5d00c8a3914", func := "offshoot/offshootlaw28.DiffPatch", spec := "diffPatch", unfollowed := true, recurses := true, plainKeys := false, apart := false, narrowed := true }
def DiffPatchUptoSaid : Prop := diffPatchUptoRow.holds Try.pinned (OpenSpec.upto diffPatchSpec)

/-- 'offshootlaw28.DiffFew', WHERE WHAT IT READS IS OF BULK AT MOST 1048576: true; the input reads as it did. -/
def diffFewUptoRow : OpenClaim := { program := "ytbaihnpanoibdaa", sum := "48a07cb871c30368773eb404020102801e2d512c8c8da9b3f27dc5d00c8a3914", func := "offshoot/offshootlaw28.DiffFew", spec := "diffFew", unfollowed := true, recurses := true, plainKeys := false, apart := false, narrowed := true }
def DiffFewUptoSaid : Prop := diffFewUptoRow.holds Try.pinned (OpenSpec.upto diffFewSpec)

/-- 'offshootlaw28.DiffSplice', WHERE WHAT IT READS IS OF BULK AT MOST 1048576: true; the input reads as it did. -/
def diffSpliceUptoRow : OpenClaim := { program := "ytbaihnpanoibdaa", sum := "48a07cb871c30368773eb404020102801e2d512c8c8da9b3f27dc5d00c8a3914", func := "offshoot/offshootlaw28.DiffSplice", spec := "diffSplice", unfollowed := true, recurses := true, plainKeys := false, apart := false, narrowed := true }
def DiffSpliceUptoSaid : Prop := diffSpliceUptoRow.holds Try.pinned (OpenSpec.upto diffSpliceSpec)

/-- 'offshootlaw28.DiffBack', WHERE WHAT IT READS IS OF BULK AT MOST 1048576: true; the input reads as it did. -/
def diffBackUptoRow : OpenClaim := { program := "ytbaihnpanoibdaa", sum := "48a07cb871c30368773eb404020102801e2d512c8c8da9b3f27dc5d00c8a3914", func := "offshoot/offshootlaw28.DiffBack", spec := "diffBack", unfollowed := true, recurses := true, plainKeys := false, apart := false, narrowed := true }
def DiffBackUptoSaid : Prop := diffBackUptoRow.holds Try.pinned (OpenSpec.upto diffBackSpec)

end Rows
end Go.Proofs.Ytbaihnpanoibdaa
