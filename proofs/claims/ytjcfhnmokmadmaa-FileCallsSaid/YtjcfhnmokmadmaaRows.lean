/-
  No cell of these rows narrows 'for every input' (looked for: loops, veiled, ifaces, maps, wideKeys, modest, calm, conditions, laid).
  DERIVED. THE GIVEN ROWS OF THIS SEAT. 4 by the template 'for every input the law returns true; each argument reads behind the call as it read before'; 0 by the template 'total and deterministic' (their statements: YtjcfhnmokmadmaaTotals.lean).
  GIVEN WITH THE SEED: the statements are not yours to turn. If you find one false, say at which input.
  Laid BY PROGRAM, IN A SANDBOX (cutbox-rows.mjs): the forced cells as the released guide's own fill.sh prints them over the translation c82b1e808499c3b7… (all of the seat's roots in one cut). By AI agents, Wed Nov 11 2026. No macro, syntax, notation, axiom, sorry.
-/
import Derived.Test.YtjcfhnmokmadmaaChecked
import GoSem.Claim
import GoSem.ClaimJoined
import GoSem.ClaimMapViews
import Derived.JoinedTies
import Derived.KernelRfl
namespace Go.Proofs.Ytjcfhnmokmadmaa
/- THE CELL 'sum', in the pinned program and in every row, IS THE sha256 OF THE DUMP (.gsa) THAT YtjcfhnmokmadmaaProg.lean LOADS. Nothing in Lean hashes anything: it is a label: what it is worth is what the hold of that sum in a sandbox is worth. -/
noncomputable def Try.pinned : Pinned := { name := "ytjcfhnmokmadmaa", sum := "c82b1e808499c3b79cb403fc5c02a3562e4276e7873a28420b6613de95d09dfd", checked := Try.checked }
namespace Rows
def none {H : Type} : Left H := { results := [], args := [] }

/-- 'offshootlaw06.FileWhole': WHATEVER THE INPUT: true; the input reads as it did. -/
def fileWholeSpec : ChangeSpec := { name := "fileWhole", fn := fun _ => fun
  | [d] => { results := [.lit (.bool true)], args := [d] }
  | _ => none }
def fileWholeRow : OpenClaim := { program := "ytjcfhnmokmadmaa", sum := "c82b1e808499c3b79cb403fc5c02a3562e4276e7873a28420b6613de95d09dfd", func := "offshoot/offshootlaw06.FileWhole", spec := "fileWhole", apart := false }
def FileWholeSaid : Prop := fileWholeRow.holds Try.pinned (OpenSpec.ofChange fileWholeSpec)

/-- ITS FALSE NEIGHBOUR: 'it returns false'. Refute it at one input. -/
def fileWholeWrong : ChangeSpec := { name := "fileWhole", fn := fun _ => fun
  | [d] => { results := [.lit (.bool false)], args := [d] }
  | _ => none }
def FileWholeWrongFalsely : Prop := fileWholeRow.holds Try.pinned (OpenSpec.ofChange fileWholeWrong)

/-- 'offshootlaw06.FileCalls': WHATEVER THE INPUT: true; the input reads as it did. -/
def fileCallsSpec : ChangeSpec := { name := "fileCalls", fn := fun _ => fun
  | [d1, d2] => { results := [.lit (.bool true)], args := [d1, d2] }
  | _ => none }
def fileCallsRow : OpenClaim := { program := "ytjcfhnmokmadmaa", sum := "c82b1e808499c3b79cb403fc5c02a3562e4276e7873a28420b6613de95d09dfd", func := "offshoot/offshootlaw06.FileCalls", spec := "fileCalls", apart := false }
def FileCallsSaid : Prop := fileCallsRow.holds Try.pinned (OpenSpec.ofChange fileCallsSpec)

/-- ITS FALSE NEIGHBOUR: 'it returns false'. Refute it at one input. -/
def fileCallsWrong : ChangeSpec := { name := "fileCalls", fn := fun _ => fun
  | [d1, d2] => { results := [.lit (.bool false)], args := [d1, d2] }
  | _ => none }
def FileCallsWrongFalsely : Prop := fileCallsRow.holds Try.pinned (OpenSpec.ofChange fileCallsWrong)

/-- 'offshootlaw06.FileCrash': WHATEVER THE INPUT: true; the input reads as it did. -/
def fileCrashSpec : ChangeSpec := { name := "fileCrash", fn := fun _ => fun
  | [d1, d2, d3] => { results := [.lit (.bool true)], args := [d1, d2, d3] }
  | _ => none }
def fileCrashRow : OpenClaim := { program := "ytjcfhnmokmadmaa", sum := "c82b1e808499c3b79cb403fc5c02a3562e4276e7873a28420b6613de95d09dfd", func := "offshoot/offshootlaw06.FileCrash", spec := "fileCrash", apart := false }
def FileCrashSaid : Prop := fileCrashRow.holds Try.pinned (OpenSpec.ofChange fileCrashSpec)

/-- ITS FALSE NEIGHBOUR: 'it returns false'. Refute it at one input. -/
def fileCrashWrong : ChangeSpec := { name := "fileCrash", fn := fun _ => fun
  | [d1, d2, d3] => { results := [.lit (.bool false)], args := [d1, d2, d3] }
  | _ => none }
def FileCrashWrongFalsely : Prop := fileCrashRow.holds Try.pinned (OpenSpec.ofChange fileCrashWrong)

/-- 'offshootlaw06.FileLoads': WHATEVER THE INPUT: true; the input reads as it did. -/
def fileLoadsSpec : ChangeSpec := { name := "fileLoads", fn := fun _ => fun
  | [d1, d2, d3] => { results := [.lit (.bool true)], args := [d1, d2, d3] }
  | _ => none }
def fileLoadsRow : OpenClaim := { program := "ytjcfhnmokmadmaa", sum := "c82b1e808499c3b79cb403fc5c02a3562e4276e7873a28420b6613de95d09dfd", func := "offshoot/offshootlaw06.FileLoads", spec := "fileLoads", apart := false }
def FileLoadsSaid : Prop := fileLoadsRow.holds Try.pinned (OpenSpec.ofChange fileLoadsSpec)

/-- ITS FALSE NEIGHBOUR: 'it returns false'. Refute it at one input. -/
def fileLoadsWrong : ChangeSpec := { name := "fileLoads", fn := fun _ => fun
  | [d1, d2, d3] => { results := [.lit (.bool false)], args := [d1, d2, d3] }
  | _ => none }
def FileLoadsWrongFalsely : Prop := fileLoadsRow.holds Try.pinned (OpenSpec.ofChange fileLoadsWrong)

/- THE SECOND FORM. 'bulk': how many values and letters a reading holds, each counted each time it is reached (what is shared counts as often as it is met; a slice's spare places count too). A statement '..UptoSaid' is the law's where the arguments, and the package variables that the reading takes, are together of bulk at most 1048576: NARROWER than '..Said'. Prove '..Said' where nothing that the law and all that it calls make is longer than what came in: it says more and counts as full. Else prove '..UptoSaid'. A law counts once. -/
mutual
def uptoBulk {H : Type} : DataW H → Nat
  | .lit (.string bytes) => bytes.length + 1
  | .lit _ => 1
  | .nil => 1
  | .ptr d => uptoBulk d + 1
  | .slice elems spare => uptoBulkAll elems + uptoBulkAll spare + 1
  | .agg parts => uptoBulkAll parts + 1
  | .iface _ d => uptoBulk d + 1
  | .map entries => uptoBulkEntries entries + 1
  | .held _ => 1
def uptoBulkAll {H : Type} : List (DataW H) → Nat
  | [] => 0
  | d :: r => uptoBulk d + uptoBulkAll r
def uptoBulkEntries {H : Type} : List (Lit × DataW H) → Nat
  | [] => 0
  | x :: r => uptoBulkEntry x + uptoBulkEntries r
def uptoBulkEntry {H : Type} : Lit × DataW H → Nat
  | (.string bytes, d) => bytes.length + uptoBulk d + 1
  | (_, d) => uptoBulk d + 1
 end
def uptoSmall : (H : Type) → List (DataW H) → Bool := fun _ ds => decide (uptoBulkAll ds ≤ 1048576)
def OpenSpec.upto (s : _root_.Go.ChangeSpec) : _root_.Go.OpenSpec := { _root_.Go.OpenSpec.ofChange s with cond := some uptoSmall }

/-- 'offshootlaw06.FileWhole', WHERE WHAT IT READS IS OF BULK AT MOST 1048576: true; the input reads as it did. -/
def fileWholeUptoRow : OpenClaim := { program := "ytjcfhnmokmadmaa", sum := "c82b1e808499c3b79cb403fc5c02a3562e4276e7873a28420b6613de95d09dfd", func := "offshoot/offshootlaw06.FileWhole", spec := "fileWhole", apart := false, narrowed := true }
def FileWholeUptoSaid : Prop := fileWholeUptoRow.holds Try.pinned (OpenSpec.upto fileWholeSpec)

/-- 'offshootlaw06.FileCalls', WHERE WHAT IT READS IS OF BULK AT MOST 1048576: true; the input reads as it did. -/
def fileCallsUptoRow : OpenClaim := { program := "ytjcfhnmokmadmaa", sum := "c82b1e808499c3b79cb403fc5c02a3562e4276e7873a28420b6613de95d09dfd", func := "offshoot/offshootlaw06.FileCalls", spec := "fileCalls", apart := false, narrowed := true }
def FileCallsUptoSaid : Prop := fileCallsUptoRow.holds Try.pinned (OpenSpec.upto fileCallsSpec)

/-- 'offshootlaw06.FileCrash', WHERE WHAT IT READS IS OF BULK AT MOST 1048576: true; the input reads as it did. -/
def fileCrashUptoRow : OpenClaim := { program := "ytjcfhnmokmadmaa", sum := "c82b1e808499c3b79cb403fc5c02a3562e4276e7873a28420b6613de95d09dfd", func := "offshoot/offshootlaw06.FileCrash", spec := "fileCrash", apart := false, narrowed := true }
def FileCrashUptoSaid : Prop := fileCrashUptoRow.holds Try.pinned (OpenSpec.upto fileCrashSpec)

/-- 'offshootlaw06.FileLoads', WHERE WHAT IT READS IS OF BULK AT MOST 1048576: true; the input reads as it did. -/
def fileLoadsUptoRow : OpenClaim := { program := "ytjcfhnmokmadmaa", sum := "c82b1e808499c3b79cb403fc5c02a3562e4276e7873a28420b6613de95d09dfd", func := "offshoot/offshootlaw06.FileLoads", spec := "fileLoads", apart := false, narrowed := true }
def FileLoadsUptoSaid : Prop := fileLoadsUptoRow.holds Try.pinned (OpenSpec.upto fileLoadsSpec)

end Rows
end Go.Proofs.Ytjcfhnmokmadmaa
