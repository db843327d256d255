/-
  No cell of these rows narrows 'for every input' (looked for: loops, veiled, ifaces, maps, wideKeys, modest, calm, conditions, laid).
  DERIVED. THE GIVEN ROWS OF THIS SEAT. 4 by the template 'for every input the law returns true; each argument reads behind the call as it read before'; 0 by the template 'total and deterministic' (their statements: YtjheocofbfmopaaTotals.lean).
  GIVEN WITH THE SEED: the statements are not yours to turn. If you find one false, say at which input.
  Laid BY PROGRAM, IN A SANDBOX (cutbox-rows.mjs): the forced cells as the released guide's own fill.sh prints them over the translation 886f2ea42beba477… (all of the seat's roots in one cut). By AI agents, Wed Nov 11 2026. No macro, syntax, notation, axiom, sorry.
-/
import Derived.Test.YtjheocofbfmopaaChecked
import GoSem.Claim
import GoSem.ClaimJoined
import GoSem.ClaimMapViews
import Derived.JoinedTies
import Derived.KernelRfl
namespace Go.Proofs.Ytjheocofbfmopaa
/- THE CELL 'sum', in the pinned program and in every row, IS THE sha256 OF THE DUMP (.gsa) THAT YtjheocofbfmopaaProg.lean LOADS. Nothing in Lean hashes anything: it is a label: what it is worth is what the hold of that sum in a sandbox is worth. -/
noncomputable def Try.pinned : Pinned := { name := "ytjheocofbfmopaa", sum := "886f2ea42beba477c482457ce90194c9d0cf353cb1802e921d5c97ce751f6c31", checked := Try.checked }
namespace Rows
def none {H : Type} : Left H := { results := [], args := [] }

/-- 'ropeladderlaw24.WorkersOnce': WHATEVER THE INPUT: true; the input reads as it did. -/
def workersOnceSpec : ChangeSpec := { name := "workersOnce", fn := fun _ => fun
  | [d1, d2, d3] => { results := [.lit (.bool true)], args := [d1, d2, d3] }
  | _ => none }
def workersOnceRow : OpenClaim := { program := "ytjheocofbfmopaa", sum := "886f2ea42beba477c482457ce90194c9d0cf353cb1802e921d5c97ce751f6c31", func := "ropeladder/ropeladderlaw24.WorkersOnce", spec := "workersOnce", unfollowed := true, recurses := true, apart := false }
def WorkersOnceSaid : Prop := workersOnceRow.holds Try.pinned (OpenSpec.ofChange workersOnceSpec)

/-- ITS FALSE NEIGHBOUR: 'it returns false'. Refute it at one input. -/
def workersOnceWrong : ChangeSpec := { name := "workersOnce", fn := fun _ => fun
  | [d1, d2, d3] => { results := [.lit (.bool false)], args := [d1, d2, d3] }
  | _ => none }
def WorkersOnceWrongFalsely : Prop := workersOnceRow.holds Try.pinned (OpenSpec.ofChange workersOnceWrong)

/-- 'ropeladderlaw24.WorkersBarrier': WHATEVER THE INPUT: true; the input reads as it did. -/
def workersBarrierSpec : ChangeSpec := { name := "workersBarrier", fn := fun _ => fun
  | [d1, d2, d3, d4] => { results := [.lit (.bool true)], args := [d1, d2, d3, d4] }
  | _ => none }
def workersBarrierRow : OpenClaim := { program := "ytjheocofbfmopaa", sum := "886f2ea42beba477c482457ce90194c9d0cf353cb1802e921d5c97ce751f6c31", func := "ropeladder/ropeladderlaw24.WorkersBarrier", spec := "workersBarrier", unfollowed := true, recurses := true, apart := false }
def WorkersBarrierSaid : Prop := workersBarrierRow.holds Try.pinned (OpenSpec.ofChange workersBarrierSpec)

/-- ITS FALSE NEIGHBOUR: 'it returns false'. Refute it at one input. -/
def workersBarrierWrong : ChangeSpec := { name := "workersBarrier", fn := fun _ => fun
  | [d1, d2, d3, d4] => { results := [.lit (.bool false)], args := [d1, d2, d3, d4] }
  | _ => none }
def WorkersBarrierWrongFalsely : Prop := workersBarrierRow.holds Try.pinned (OpenSpec.ofChange workersBarrierWrong)

/-- 'ropeladderlaw24.WorkersPrefix': WHATEVER THE INPUT: true; the input reads as it did. -/
def workersPrefixSpec : ChangeSpec := { name := "workersPrefix", fn := fun _ => fun
  | [d1, d2, d3, d4] => { results := [.lit (.bool true)], args := [d1, d2, d3, d4] }
  | _ => none }
def workersPrefixRow : OpenClaim := { program := "ytjheocofbfmopaa", sum := "886f2ea42beba477c482457ce90194c9d0cf353cb1802e921d5c97ce751f6c31", func := "ropeladder/ropeladderlaw24.WorkersPrefix", spec := "workersPrefix", unfollowed := true, recurses := true, apart := false }
def WorkersPrefixSaid : Prop := workersPrefixRow.holds Try.pinned (OpenSpec.ofChange workersPrefixSpec)

/-- ITS FALSE NEIGHBOUR: 'it returns false'. Refute it at one input. -/
def workersPrefixWrong : ChangeSpec := { name := "workersPrefix", fn := fun _ => fun
  | [d1, d2, d3, d4] => { results := [.lit (.bool false)], args := [d1, d2, d3, d4] }
  | _ => none }
def WorkersPrefixWrongFalsely : Prop := workersPrefixRow.holds Try.pinned (OpenSpec.ofChange workersPrefixWrong)

/-- 'ropeladderlaw24.WorkersTerminates': WHATEVER THE INPUT: true; the input reads as it did. -/
def workersTerminatesSpec : ChangeSpec := { name := "workersTerminates", fn := fun _ => fun
  | [d1, d2, d3, d4] => { results := [.lit (.bool true)], args := [d1, d2, d3, d4] }
  | _ => none }
def workersTerminatesRow : OpenClaim := { program := "ytjheocofbfmopaa", sum := "886f2ea42beba477c482457ce90194c9d0cf353cb1802e921d5c97ce751f6c31", func := "ropeladder/ropeladderlaw24.WorkersTerminates", spec := "workersTerminates", unfollowed := true, recurses := true, apart := false }
def WorkersTerminatesSaid : Prop := workersTerminatesRow.holds Try.pinned (OpenSpec.ofChange workersTerminatesSpec)

/-- ITS FALSE NEIGHBOUR: 'it returns false'. Refute it at one input. -/
def workersTerminatesWrong : ChangeSpec := { name := "workersTerminates", fn := fun _ => fun
  | [d1, d2, d3, d4] => { results := [.lit (.bool false)], args := [d1, d2, d3, d4] }
  | _ => none }
def WorkersTerminatesWrongFalsely : Prop := workersTerminatesRow.holds Try.pinned (OpenSpec.ofChange workersTerminatesWrong)

/- THE SECOND FORM. 'bulk': how many values and letters a reading holds, each counted each time it is reached (what is shared counts as often as it is met; a slice's spare places count too). A statement '..UptoSaid' is the law's where the arguments, and the package variables that the reading takes, are together of bulk at most 1048576: NARROWER than '..Said'. Prove '..Said' where nothing that the law and all that it calls make is longer than what came in: it says more and counts as full. Else prove '..UptoSaid'. A law counts once. -/
mutual
def uptoBulk {H : Type} : DataW H → Nat
  | .lit (.string bytes) => bytes.length + 1
  | .lit _ => 1
  | .nil => 1
  | .ptr d => uptoBulk d + 1
  | .slice elems spare => uptoBulkAll elems + uptoBulkAll spare + 1
  | .agg parts => uptoBulkAll parts + 1
  | .iface _ d => uptoBulk d + 1
  | .map entries => uptoBulkEntries entries + 1
  | .held _ => 1
def uptoBulkAll {H : Type} : List (DataW H) → Nat
  | [] => 0
  | d :: r => uptoBulk d + uptoBulkAll r
def uptoBulkEntries {H : Type} : List (Lit × DataW H) → Nat
  | [] => 0
  | x :: r => uptoBulkEntry x + uptoBulkEntries r
def uptoBulkEntry {H : Type} : Lit × DataW H → Nat
  | (.string bytes, d) => bytes.length + uptoBulk d + 1
  | (_, d) => uptoBulk d + 1
 end
def uptoSmall : (H : Type) → List (DataW H) → Bool := fun _ ds => decide (uptoBulkAll ds ≤ 1048576)
def OpenSpec.upto (s : _root_.Go.ChangeSpec) : _root_.Go.OpenSpec := { _root_.Go.OpenSpec.ofChange s with cond := some uptoSmall }

/-- 'ropeladderlaw24.WorkersOnce', WHERE WHAT IT READS IS OF BULK AT MOST 1048576: true; the input reads as it did. -/
def workersOnceUptoRow : OpenClaim := { program := "ytjheocofbfmopaa", sum := "886f2ea42beba477c482457ce90194c9d0cf353cb1802e921d5c97ce751f6c31", func := "ropeladder/ropeladderlaw24.WorkersOnce", spec := "workersOnce", unfollowed := true, recurses := true, apart := false, narrowed := true }
def WorkersOnceUptoSaid : Prop := workersOnceUptoRow.holds Try.pinned (OpenSpec.upto workersOnceSpec)

/-- 'ropeladderlaw24.WorkersBarrier', WHERE WHAT IT READS IS OF BULK AT MOST 1048576: true; the input reads as it did. -/
def workersBarrierUptoRow : OpenClaim := { program := "ytjheocofbfmopaa", sum := "886f2ea42beba477c482457ce90194c9d0cf353cb1802e921d5c97ce751f6c31", func := "ropeladder/ropeladderlaw24.WorkersBarrier", spec := "workersBarrier", unfollowed := true, recurses := true, apart := false, narrowed := true }
def WorkersBarrierUptoSaid : Prop := workersBarrierUptoRow.holds Try.pinned (OpenSpec.upto workersBarrierSpec)

/-- 'ropeladderlaw24.WorkersPrefix', WHERE WHAT IT READS IS OF BULK AT MOST 1048576: true; the input reads as it did. -/
def workersPrefixUptoRow : OpenClaim := { program := "ytjheocofbfmopaa", sum := "886f2ea42beba477c482457ce90194c9d0cf353cb1802e921d5c97ce751f6c31", func := "ropeladder/ropeladderlaw24.WorkersPrefix", spec := "workersPrefix", unfollowed := true, recurses := true, apart := false, narrowed := true }
def WorkersPrefixUptoSaid : Prop := workersPrefixUptoRow.holds Try.pinned (OpenSpec.upto workersPrefixSpec)

/-- 'ropeladderlaw24.WorkersTerminates', WHERE WHAT IT READS IS OF BULK AT MOST 1048576: true; the input reads as it did. -/
def workersTerminatesUptoRow : OpenClaim := { program := "ytjheocofbfmopaa", sum := "886f2ea42beba477c482457ce90194c9d0cf353cb1802e921d5c97ce751f6c31", func := "ropeladder/ropeladderlaw24.WorkersTerminates", spec := "workersTerminates", unfollowed := true, recurses := true, apart := false, narrowed := true }
def WorkersTerminatesUptoSaid : Prop := workersTerminatesUptoRow.holds Try.pinned (OpenSpec.upto workersTerminatesSpec)

end Rows
end Go.Proofs.Ytjheocofbfmopaa
