/-
  No cell of these rows narrows 'for every input' (looked for: loops, veiled, ifaces, maps, wideKeys, modest, calm, conditions, laid).
  DERIVED. THE GIVEN ROWS OF THIS SEAT. 5 by the template 'for every input the law returns true; each argument reads behind the call as it read before'; 0 by the template 'total and deterministic' (their statements: YtbnblddgnhdneaaTotals.lean).
  GIVEN WITH THE SEED: the statements are not yours to turn. If you find one false, say at which input.
  Laid BY PROGRAM, IN A SANDBOX (cutbox-rows.mjs): the forced cells as the released guide's own fill.sh prints them over the translation 8aea6986c647cd69… (all of the seat's roots in one cut). By AI agents, Wed Nov 11 2026. No macro, syntax, notation, axiom, sorry.
-/
import Derived.Test.YtbnblddgnhdneaaChecked
import GoSem.Claim
import GoSem.ClaimJoined
import GoSem.ClaimMapViews
import Derived.JoinedTies
import Derived.KernelRfl
namespace Go.Proofs.Ytbnblddgnhdneaa
/- THE CELL 'sum', in the pinned program and in every row, IS THE sha256 OF THE DUMP (.gsa) THAT YtbnblddgnhdneaaProg.lean LOADS. Nothing in Lean hashes anything: it is a label: what it is worth is what the hold of that sum in a sandbox is worth. -/
noncomputable def Try.pinned : Pinned := { name := "ytbnblddgnhdneaa", sum := "8aea6986c647cd691d9fcb46b6ffc3388c5af432926e669c727ca47a9ad7c042", checked := Try.checked }
namespace Rows
def none {H : Type} : Left H := { results := [], args := [] }

/-- 'offshootlaw08.VecMissing': WHATEVER THE INPUT: true; the input reads as it did. -/
def vecMissingSpec : ChangeSpec := { name := "vecMissing", fn := fun _ => fun
  | [d1, d2] => { results := [.lit (.bool true)], args := [d1, d2] }
  | _ => none }
def vecMissingRow : OpenClaim := { program := "ytbnblddgnhdneaa", sum := "8aea6986c647cd691d9fcb46b6ffc3388c5af432926e669c727ca47a9ad7c042", func := "offshoot/offshootlaw08.VecMissing", spec := "vecMissing", apart := false }
def VecMissingSaid : Prop := vecMissingRow.holds Try.pinned (OpenSpec.ofChange vecMissingSpec)

/-- ITS FALSE NEIGHBOUR: 'it returns false'. Refute it at one input. -/
def vecMissingWrong : ChangeSpec := { name := "vecMissing", fn := fun _ => fun
  | [d1, d2] => { results := [.lit (.bool false)], args := [d1, d2] }
  | _ => none }
def VecMissingWrongFalsely : Prop := vecMissingRow.holds Try.pinned (OpenSpec.ofChange vecMissingWrong)

/-- 'offshootlaw08.VecHas': WHATEVER THE INPUT: true; the input reads as it did. -/
def vecHasSpec : ChangeSpec := { name := "vecHas", fn := fun _ => fun
  | [d1, d2] => { results := [.lit (.bool true)], args := [d1, d2] }
  | _ => none }
def vecHasRow : OpenClaim := { program := "ytbnblddgnhdneaa", sum := "8aea6986c647cd691d9fcb46b6ffc3388c5af432926e669c727ca47a9ad7c042", func := "offshoot/offshootlaw08.VecHas", spec := "vecHas", apart := false }
def VecHasSaid : Prop := vecHasRow.holds Try.pinned (OpenSpec.ofChange vecHasSpec)

/-- ITS FALSE NEIGHBOUR: 'it returns false'. Refute it at one input. -/
def vecHasWrong : ChangeSpec := { name := "vecHas", fn := fun _ => fun
  | [d1, d2] => { results := [.lit (.bool false)], args := [d1, d2] }
  | _ => none }
def VecHasWrongFalsely : Prop := vecHasRow.holds Try.pinned (OpenSpec.ofChange vecHasWrong)

/-- 'offshootlaw08.VecAsks': WHATEVER THE INPUT: true; the input reads as it did. -/
def vecAsksSpec : ChangeSpec := { name := "vecAsks", fn := fun _ => fun
  | [d1, d2, d3, d4] => { results := [.lit (.bool true)], args := [d1, d2, d3, d4] }
  | _ => none }
def vecAsksRow : OpenClaim := { program := "ytbnblddgnhdneaa", sum := "8aea6986c647cd691d9fcb46b6ffc3388c5af432926e669c727ca47a9ad7c042", func := "offshoot/offshootlaw08.VecAsks", spec := "vecAsks", apart := false }
def VecAsksSaid : Prop := vecAsksRow.holds Try.pinned (OpenSpec.ofChange vecAsksSpec)

/-- ITS FALSE NEIGHBOUR: 'it returns false'. Refute it at one input. -/
def vecAsksWrong : ChangeSpec := { name := "vecAsks", fn := fun _ => fun
  | [d1, d2, d3, d4] => { results := [.lit (.bool false)], args := [d1, d2, d3, d4] }
  | _ => none }
def VecAsksWrongFalsely : Prop := vecAsksRow.holds Try.pinned (OpenSpec.ofChange vecAsksWrong)

/-- 'offshootlaw08.VecCalls': WHATEVER THE INPUT: true; the input reads as it did. -/
def vecCallsSpec : ChangeSpec := { name := "vecCalls", fn := fun _ => fun
  | [d1, d2] => { results := [.lit (.bool true)], args := [d1, d2] }
  | _ => none }
def vecCallsRow : OpenClaim := { program := "ytbnblddgnhdneaa", sum := "8aea6986c647cd691d9fcb46b6ffc3388c5af432926e669c727ca47a9ad7c042", func := "offshoot/offshootlaw08.VecCalls", spec := "vecCalls", apart := false }
def VecCallsSaid : Prop := vecCallsRow.holds Try.pinned (OpenSpec.ofChange vecCallsSpec)

/-- ITS FALSE NEIGHBOUR: 'it returns false'. Refute it at one input. -/
def vecCallsWrong : ChangeSpec := { name := "vecCalls", fn := fun _ => fun
  | [d1, d2] => { results := [.lit (.bool false)], args := [d1, d2] }
  | _ => none }
def VecCallsWrongFalsely : Prop := vecCallsRow.holds Try.pinned (OpenSpec.ofChange vecCallsWrong)

/-- 'offshootlaw08.VecJoin': WHATEVER THE INPUT: true; the input reads as it did. -/
def vecJoinSpec : ChangeSpec := { name := "vecJoin", fn := fun _ => fun
  | [d1, d2, d3] => { results := [.lit (.bool true)], args := [d1, d2, d3] }
  | _ => none }
def vecJoinRow : OpenClaim := { program := "ytbnblddgnhdneaa", sum := "8aea6986c647cd691d9fcb46b6ffc3388c5af432926e669c727ca47a9ad7c042", func := "offshoot/offshootlaw08.VecJoin", spec := "vecJoin", apart := false }
def VecJoinSaid : Prop := vecJoinRow.holds Try.pinned (OpenSpec.ofChange vecJoinSpec)

/-- ITS FALSE NEIGHBOUR: 'it returns false'. Refute it at one input. -/
def vecJoinWrong : ChangeSpec := { name := "vecJoin", fn := fun _ => fun
  | [d1, d2, d3] => { results := [.lit (.bool false)], args := [d1, d2, d3] }
  | _ => none }
def VecJoinWrongFalsely : Prop := vecJoinRow.holds Try.pinned (OpenSpec.ofChange vecJoinWrong)

/- THE SECOND FORM. 'bulk': how many values and letters a reading holds, each counted each time it is reached (what is shared counts as often as it is met; a slice's spare places count too). A statement '..UptoSaid' is the law's where the arguments, and the package variables that the reading takes, are together of bulk at most 1048576: NARROWER than '..Said'. Prove '..Said' where nothing that the law and all that it calls make is longer than what came in: it says more and counts as full. Else prove '..UptoSaid'. A law counts once. -/
mutual
def uptoBulk {H : Type} : DataW H → Nat
  | .lit (.string bytes) => bytes.length + 1
  | .lit _ => 1
  | .nil => 1
  | .ptr d => uptoBulk d + 1
  | .slice elems spare => uptoBulkAll elems + uptoBulkAll spare + 1
  | .agg parts => uptoBulkAll parts + 1
  | .iface _ d => uptoBulk d + 1
  | .map entries => uptoBulkEntries entries + 1
  | .held _ => 1
def uptoBulkAll {H : Type} : List (DataW H) → Nat
  | [] => 0
  | d :: r => uptoBulk d + uptoBulkAll r
def uptoBulkEntries {H : Type} : List (Lit × DataW H) → Nat
  | [] => 0
  | x :: r => uptoBulkEntry x + uptoBulkEntries r
def uptoBulkEntry {H : Type} : Lit × DataW H → Nat
  | (.string bytes, d) => bytes.length + uptoBulk d + 1
  | (_, d) => uptoBulk d + 1
 end
def uptoSmall : (H : Type) → List (DataW H) → Bool := fun _ ds => decide (uptoBulkAll ds ≤ 1048576)
def OpenSpec.upto (s : _root_.Go.ChangeSpec) : _root_.Go.OpenSpec := { _root_.Go.OpenSpec.ofChange s with cond := some uptoSmall }

/-- 'offshootlaw08.VecMissing', WHERE WHAT IT READS IS OF BULK AT MOST 1048576: true; the input reads as it did. -/
def vecMissingUptoRow : OpenClaim := { program := "ytbnblddgnhdneaa", sum := "8aea6986c647cd691d9fcb46b6ffc3388c5af432926e669c727ca47a9ad7c042", func := "offshoot/offshootlaw08.VecMissing", spec := "vecMissing", apart := false, narrowed := true }
def VecMissingUptoSaid : Prop := vecMissingUptoRow.holds Try.pinned (OpenSpec.upto vecMissingSpec)

/-- 'offshootlaw08.VecHas', WHERE WHAT IT READS IS OF BULK AT MOST 1048576: true; the input reads as it did. -/
def vecHasUptoRow : OpenClaim := { program := "ytbnblddgnhdneaa", sum := "8aea6986c647cd691d9fcb46b6ffc3388c5af432926e669c727ca47a9ad7c042", func := "offshoot/offshootlaw08.VecHas", spec := "vecHas", apart := false, narrowed := true }
def VecHasUptoSaid : Prop := vecHasUptoRow.holds Try.pinned (OpenSpec.upto vecHasSpec)

/-- 'offshootlaw08.VecAsks', WHERE WHAT IT READS IS OF BULK AT MOST 1048576: true; the input reads as it did. -/
def vecAsksUptoRow : OpenClaim := { program := "ytbnblddgnhdneaa", sum := "8aea6986c647cd691d9fcb46b6ffc3388c5af432926e669c727ca47a9ad7c042", func := "offshoot/offshootlaw08.VecAsks", spec := "vecAsks", apart := false, narrowed := true }
def VecAsksUptoSaid : Prop := vecAsksUptoRow.holds Try.pinned (OpenSpec.upto vecAsksSpec)

/-- 'offshootlaw08.VecCalls', WHERE WHAT IT READS IS OF BULK AT MOST 1048576: true; the input reads as it did. -/
def vecCallsUptoRow : OpenClaim := { program := "ytbnblddgnhdneaa", sum := "8aea6986c647cd691d9fcb46b6ffc3388c5af432926e669c727ca47a9ad7c042", func := "offshoot/offshootlaw08.VecCalls", spec := "vecCalls", apart := false, narrowed := true }
def VecCallsUptoSaid : Prop := vecCallsUptoRow.holds Try.pinned (OpenSpec.upto vecCallsSpec)

/-- 'offshootlaw08.VecJoin', WHERE WHAT IT READS IS OF BULK AT MOST 1048576: true; the input reads as it did. -/
def vecJoinUptoRow : OpenClaim := { program := "ytbnblddgnhdneaa", sum := "8aea6986c647cd691d9fcb46b6ffc3388c5af432926e669c727ca47a9ad7c042", func := "offshoot/offshootlaw08.VecJoin", spec := "vecJoin", apart := false, narrowed := true }
def VecJoinUptoSaid : Prop := vecJoinUptoRow.holds Try.pinned (OpenSpec.upto vecJoinSpec)

end Rows
end Go.Proofs.Ytbnblddgnhdneaa
