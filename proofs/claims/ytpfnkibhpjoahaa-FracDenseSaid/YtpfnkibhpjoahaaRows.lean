/-
  No cell of these rows narrows 'for every input' (looked for: loops, veiled, ifaces, maps, wideKeys, modest, calm, conditions, laid).
  DERIVED. THE GIVEN ROWS OF THIS SEAT. 4 by the template 'for every input the law returns true; each argument reads behind the call as it read before'; 0 by the template 'total and deterministic' (their statements: YtpfnkibhpjoahaaTotals.lean).
  GIVEN WITH THE SEED: the statements are not yours to turn. If you find one false, say at which input.
  Laid BY PROGRAM, IN A SANDBOX (cutbox-rows.mjs): the forced cells as the released guide's own fill.sh prints them over the translation a72c84bf4cd3a49c… (all of the seat's roots in one cut). By AI agents, Wed Nov 11 2026. No macro, syntax, notation, axiom, sorry.
-/
import Derived.Test.YtpfnkibhpjoahaaChecked
import GoSem.Claim
import GoSem.ClaimJoined
import GoSem.ClaimMapViews
import Derived.JoinedTies
import Derived.KernelRfl
namespace Go.Proofs.Ytpfnkibhpjoahaa
/- THE CELL 'sum', in the pinned program and in every row, IS THE sha256 OF THE DUMP (.gsa) THAT YtpfnkibhpjoahaaProg.lean LOADS. Nothing in Lean hashes anything: it is a label: what it is worth is what the hold of that sum in a sandbox is worth. -/
noncomputable def Try.pinned : Pinned := { name := "ytpfnkibhpjoahaa", sum := "a72c84bf4cd3a49c7ca67be60c25216ddf47b09705d76516bfc2ac84584eb970", checked := Try.checked }
namespace Rows
def none {H : Type} : Left H := { results := [], args := [] }

/-- 'offshootlaw04.FracAnswers': WHATEVER THE INPUT: true; the input reads as it did. -/
def fracAnswersSpec : ChangeSpec := { name := "fracAnswers", fn := fun _ => fun
  | [d1, d2, d3] => { results := [.lit (.bool true)], args := [d1, d2, d3] }
  | _ => none }
def fracAnswersRow : OpenClaim := { program := "ytpfnkibhpjoahaa", sum := "a72c84bf4cd3a49c7ca67be60c25216ddf47b09705d76516bfc2ac84584eb970", func := "offshoot/offshootlaw04.FracAnswers", spec := "fracAnswers", inPlace := ["internal/bytealg.abigen_runtime_cmpstring"], apart := false }
def FracAnswersSaid : Prop := fracAnswersRow.holds Try.pinned (OpenSpec.ofChange fracAnswersSpec)

/-- ITS FALSE NEIGHBOUR: 'it returns false'. Refute it at one input. -/
def fracAnswersWrong : ChangeSpec := { name := "fracAnswers", fn := fun _ => fun
  | [d1, d2, d3] => { results := [.lit (.bool false)], args := [d1, d2, d3] }
  | _ => none }
def FracAnswersWrongFalsely : Prop := fracAnswersRow.holds Try.pinned (OpenSpec.ofChange fracAnswersWrong)

/-- 'offshootlaw04.FracBetween': WHATEVER THE INPUT: true; the input reads as it did. -/
def fracBetweenSpec : ChangeSpec := { name := "fracBetween", fn := fun _ => fun
  | [d1, d2] => { results := [.lit (.bool true)], args := [d1, d2] }
  | _ => none }
def fracBetweenRow : OpenClaim := { program := "ytpfnkibhpjoahaa", sum := "a72c84bf4cd3a49c7ca67be60c25216ddf47b09705d76516bfc2ac84584eb970", func := "offshoot/offshootlaw04.FracBetween", spec := "fracBetween", inPlace := ["internal/bytealg.abigen_runtime_cmpstring"], apart := false }
def FracBetweenSaid : Prop := fracBetweenRow.holds Try.pinned (OpenSpec.ofChange fracBetweenSpec)

/-- ITS FALSE NEIGHBOUR: 'it returns false'. Refute it at one input. -/
def fracBetweenWrong : ChangeSpec := { name := "fracBetween", fn := fun _ => fun
  | [d1, d2] => { results := [.lit (.bool false)], args := [d1, d2] }
  | _ => none }
def FracBetweenWrongFalsely : Prop := fracBetweenRow.holds Try.pinned (OpenSpec.ofChange fracBetweenWrong)

/-- 'offshootlaw04.FracDense': WHATEVER THE INPUT: true; the input reads as it did. -/
def fracDenseSpec : ChangeSpec := { name := "fracDense", fn := fun _ => fun
  | [d] => { results := [.lit (.bool true)], args := [d] }
  | _ => none }
def fracDenseRow : OpenClaim := { program := "ytpfnkibhpjoahaa", sum := "a72c84bf4cd3a49c7ca67be60c25216ddf47b09705d76516bfc2ac84584eb970", func := "offshoot/offshootlaw04.FracDense", spec := "fracDense", inPlace := ["internal/bytealg.abigen_runtime_cmpstring"], apart := false }
def FracDenseSaid : Prop := fracDenseRow.holds Try.pinned (OpenSpec.ofChange fracDenseSpec)

/-- ITS FALSE NEIGHBOUR: 'it returns false'. Refute it at one input. -/
def fracDenseWrong : ChangeSpec := { name := "fracDense", fn := fun _ => fun
  | [d] => { results := [.lit (.bool false)], args := [d] }
  | _ => none }
def FracDenseWrongFalsely : Prop := fracDenseRow.holds Try.pinned (OpenSpec.ofChange fracDenseWrong)

/-- 'offshootlaw04.FracRow': WHATEVER THE INPUT: true; the input reads as it did. -/
def fracRowSpec : ChangeSpec := { name := "fracRow", fn := fun _ => fun
  | [d1, d2] => { results := [.lit (.bool true)], args := [d1, d2] }
  | _ => none }
def fracRowRow : OpenClaim := { program := "ytpfnkibhpjoahaa", sum := "a72c84bf4cd3a49c7ca67be60c25216ddf47b09705d76516bfc2ac84584eb970", func := "offshoot/offshootlaw04.FracRow", spec := "fracRow", inPlace := ["internal/bytealg.abigen_runtime_cmpstring"], apart := false }
def FracRowSaid : Prop := fracRowRow.holds Try.pinned (OpenSpec.ofChange fracRowSpec)

/-- ITS FALSE NEIGHBOUR: 'it returns false'. Refute it at one input. -/
def fracRowWrong : ChangeSpec := { name := "fracRow", fn := fun _ => fun
  | [d1, d2] => { results := [.lit (.bool false)], args := [d1, d2] }
  | _ => none }
def FracRowWrongFalsely : Prop := fracRowRow.holds Try.pinned (OpenSpec.ofChange fracRowWrong)

/- THE SECOND FORM. 'bulk': how many values and letters a reading holds, each counted each time it is reached (what is shared counts as often as it is met; a slice's spare places count too). A statement '..UptoSaid' is the law's where the arguments, and the package variables that the reading takes, are together of bulk at most 1048576: NARROWER than '..Said'. Prove '..Said' where nothing that the law and all that it calls make is longer than what came in: it says more and counts as full. Else prove '..UptoSaid'. A law counts once. -/
mutual
def uptoBulk {H : Type} : DataW H → Nat
  | .lit (.string bytes) => bytes.length + 1
  | .lit _ => 1
  | .nil => 1
  | .ptr d => uptoBulk d + 1
  | .slice elems spare => uptoBulkAll elems + uptoBulkAll spare + 1
  | .agg parts => uptoBulkAll parts + 1
  | .iface _ d => uptoBulk d + 1
  | .map entries => uptoBulkEntries entries + 1
  | .held _ => 1
def uptoBulkAll {H : Type} : List (DataW H) → Nat
  | [] => 0
  | d :: r => uptoBulk d + uptoBulkAll r
def uptoBulkEntries {H : Type} : List (Lit × DataW H) → Nat
  | [] => 0
  | x :: r => uptoBulkEntry x + uptoBulkEntries r
def uptoBulkEntry {H : Type} : Lit × DataW H → Nat
  | (.string bytes, d) => bytes.length + uptoBulk d + 1
  | (_, d) => uptoBulk d + 1
 end
def uptoSmall : (H : Type) → List (DataW H) → Bool := fun _ ds => decide (uptoBulkAll ds ≤ 1048576)
def OpenSpec.upto (s : _root_.Go.ChangeSpec) : _root_.Go.OpenSpec := { _root_.Go.OpenSpec.ofChange s with cond := some uptoSmall }

/-- 'offshootlaw04.FracAnswers', WHERE WHAT IT READS IS OF BULK AT MOST 1048576: true; the input reads as it did. -/
def fracAnswersUptoRow : OpenClaim := { program := "ytpfnkibhpjoahaa", sum := "a72c84bf4cd3a49c7ca67be60c25216ddf47b09705d76516bfc2ac84584eb970", func := "offshoot/offshootlaw04.FracAnswers", spec := "fracAnswers", inPlace := ["internal/bytealg.abigen_runtime_cmpstring"], apart := false, narrowed := true }
def FracAnswersUptoSaid : Prop := fracAnswersUptoRow.holds Try.pinned (OpenSpec.upto fracAnswersSpec)

/-- 'offshootlaw04.FracBetween', WHERE WHAT IT READS IS OF BULK AT MOST 1048576: true; the input reads as it did. -/
def fracBetweenUptoRow : OpenClaim := { program := "ytpfnkibhpjoahaa", sum := "a72c84bf4cd3a49c7ca67be60c25216ddf47b09705d76516bfc2ac84584eb970", func := "offshoot/offshootlaw04.FracBetween", spec := "fracBetween", inPlace := ["internal/bytealg.abigen_runtime_cmpstring"], apart := false, narrowed := true }
def FracBetweenUptoSaid : Prop := fracBetweenUptoRow.holds Try.pinned (OpenSpec.upto fracBetweenSpec)

/-- 'offshootlaw04.FracDense', WHERE WHAT IT READS IS OF BULK AT MOST 1048576: true; the input reads as it did. -/
def fracDenseUptoRow : OpenClaim := { program := "ytpfnkibhpjoahaa", sum := "a72c84bf4cd3a49c7ca67be60c25216ddf47b09705d76516bfc2ac84584eb970", func := "offshoot/offshootlaw04.FracDense", spec := "fracDense", inPlace := ["internal/bytealg.abigen_runtime_cmpstring"], apart := false, narrowed := true }
def FracDenseUptoSaid : Prop := fracDenseUptoRow.holds Try.pinned (OpenSpec.upto fracDenseSpec)

/-- 'offshootlaw04.FracRow', WHERE WHAT IT READS IS OF BULK AT MOST 1048576: true; the input reads as it did. -/
def fracRowUptoRow : OpenClaim := { program := "ytpfnkibhpjoahaa", sum := "a72c84bf4cd3a49c7ca67be60c25216ddf47b09705d76516bfc2ac84584eb970", func := "offshoot/offshootlaw04.FracRow", spec := "fracRow", inPlace := ["internal/bytealg.abigen_runtime_cmpstring"], apart := false, narrowed := true }
def FracRowUptoSaid : Prop := fracRowUptoRow.holds Try.pinned (OpenSpec.upto fracRowSpec)

end Rows
end Go.Proofs.Ytpfnkibhpjoahaa
