/-
  No cell of these rows narrows 'for every input' (looked for: loops, veiled, ifaces, maps, wideKeys, modest, calm, conditions, laid).
  DERIVED. THE GIVEN ROWS OF THIS SEAT. 6 by the template 'for every input the law returns true; each argument reads behind the call as it read before'; 0 by the template 'total and deterministic' (their statements: YtfkoehokjpcogaaTotals.lean).
  GIVEN WITH THE SEED: the statements are not yours to turn. If you find one false, say at which input.
  Laid BY PROGRAM, IN A SANDBOX (cutbox-rows.mjs): the forced cells as the released guide's own fill.sh prints them over the translation 8f9515263575635a… (all of the seat's roots in one cut). By AI agents, Wed Nov 11 2026. No macro, syntax, notation, axiom, sorry.
-/
import Derived.Test.YtfkoehokjpcogaaChecked
import GoSem.Claim
import GoSem.ClaimJoined
import GoSem.ClaimMapViews
import Derived.JoinedTies
import Derived.KernelRfl
namespace Go.Proofs.Ytfkoehokjpcogaa
/- THE CELL 'sum', in the pinned program and in every row, IS THE sha256 OF THE DUMP (.gsa) THAT YtfkoehokjpcogaaProg.lean LOADS. Nothing in Lean hashes anything: it is a label: what it is worth is what the hold of that sum in a sandbox is worth. -/
noncomputable def Try.pinned : Pinned := { name := "ytfkoehokjpcogaa", sum := "8f9515263575635ac3596b8a6c2a7597c02293703aa940271b067e269f8551b3", checked := Try.checked }
namespace Rows
def none {H : Type} : Left H := { results := [], args := [] }

/-- 'ropeladderlaw01.ShmemMatchesReference': WHATEVER THE INPUT: true; the input reads as it did. -/
def shmemMatchesReferenceSpec : ChangeSpec := { name := "shmemMatchesReference", fn := fun _ => fun
  | [d1, d2, d3] => { results := [.lit (.bool true)], args := [d1, d2, d3] }
  | _ => none }
def shmemMatchesReferenceRow : OpenClaim := { program := "ytfkoehokjpcogaa", sum := "8f9515263575635ac3596b8a6c2a7597c02293703aa940271b067e269f8551b3", func := "ropeladder/ropeladderlaw01.ShmemMatchesReference", spec := "shmemMatchesReference", unfollowed := true, recurses := true, apart := false }
def ShmemMatchesReferenceSaid : Prop := shmemMatchesReferenceRow.holds Try.pinned (OpenSpec.ofChange shmemMatchesReferenceSpec)

/-- ITS FALSE NEIGHBOUR: 'it returns false'. Refute it at one input. -/
def shmemMatchesReferenceWrong : ChangeSpec := { name := "shmemMatchesReference", fn := fun _ => fun
  | [d1, d2, d3] => { results := [.lit (.bool false)], args := [d1, d2, d3] }
  | _ => none }
def ShmemMatchesReferenceWrongFalsely : Prop := shmemMatchesReferenceRow.holds Try.pinned (OpenSpec.ofChange shmemMatchesReferenceWrong)

/-- 'ropeladderlaw01.ShmemReplay': WHATEVER THE INPUT: true; the input reads as it did. -/
def shmemReplaySpec : ChangeSpec := { name := "shmemReplay", fn := fun _ => fun
  | [d] => { results := [.lit (.bool true)], args := [d] }
  | _ => none }
def shmemReplayRow : OpenClaim := { program := "ytfkoehokjpcogaa", sum := "8f9515263575635ac3596b8a6c2a7597c02293703aa940271b067e269f8551b3", func := "ropeladder/ropeladderlaw01.ShmemReplay", spec := "shmemReplay", unfollowed := true, recurses := true, apart := false }
def ShmemReplaySaid : Prop := shmemReplayRow.holds Try.pinned (OpenSpec.ofChange shmemReplaySpec)

/-- ITS FALSE NEIGHBOUR: 'it returns false'. Refute it at one input. -/
def shmemReplayWrong : ChangeSpec := { name := "shmemReplay", fn := fun _ => fun
  | [d] => { results := [.lit (.bool false)], args := [d] }
  | _ => none }
def ShmemReplayWrongFalsely : Prop := shmemReplayRow.holds Try.pinned (OpenSpec.ofChange shmemReplayWrong)

/-- 'ropeladderlaw01.ShmemExclusive': WHATEVER THE INPUT: true; the input reads as it did. -/
def shmemExclusiveSpec : ChangeSpec := { name := "shmemExclusive", fn := fun _ => fun
  | [d] => { results := [.lit (.bool true)], args := [d] }
  | _ => none }
def shmemExclusiveRow : OpenClaim := { program := "ytfkoehokjpcogaa", sum := "8f9515263575635ac3596b8a6c2a7597c02293703aa940271b067e269f8551b3", func := "ropeladder/ropeladderlaw01.ShmemExclusive", spec := "shmemExclusive", unfollowed := true, recurses := true, apart := false }
def ShmemExclusiveSaid : Prop := shmemExclusiveRow.holds Try.pinned (OpenSpec.ofChange shmemExclusiveSpec)

/-- ITS FALSE NEIGHBOUR: 'it returns false'. Refute it at one input. -/
def shmemExclusiveWrong : ChangeSpec := { name := "shmemExclusive", fn := fun _ => fun
  | [d] => { results := [.lit (.bool false)], args := [d] }
  | _ => none }
def ShmemExclusiveWrongFalsely : Prop := shmemExclusiveRow.holds Try.pinned (OpenSpec.ofChange shmemExclusiveWrong)

/-- 'ropeladderlaw01.ShmemAtomic': WHATEVER THE INPUT: true; the input reads as it did. -/
def shmemAtomicSpec : ChangeSpec := { name := "shmemAtomic", fn := fun _ => fun
  | [d1, d2] => { results := [.lit (.bool true)], args := [d1, d2] }
  | _ => none }
def shmemAtomicRow : OpenClaim := { program := "ytfkoehokjpcogaa", sum := "8f9515263575635ac3596b8a6c2a7597c02293703aa940271b067e269f8551b3", func := "ropeladder/ropeladderlaw01.ShmemAtomic", spec := "shmemAtomic", unfollowed := true, recurses := true, apart := false }
def ShmemAtomicSaid : Prop := shmemAtomicRow.holds Try.pinned (OpenSpec.ofChange shmemAtomicSpec)

/-- ITS FALSE NEIGHBOUR: 'it returns false'. Refute it at one input. -/
def shmemAtomicWrong : ChangeSpec := { name := "shmemAtomic", fn := fun _ => fun
  | [d1, d2] => { results := [.lit (.bool false)], args := [d1, d2] }
  | _ => none }
def ShmemAtomicWrongFalsely : Prop := shmemAtomicRow.holds Try.pinned (OpenSpec.ofChange shmemAtomicWrong)

/-- 'ropeladderlaw01.ShmemViolations': WHATEVER THE INPUT: true; the input reads as it did. -/
def shmemViolationsSpec : ChangeSpec := { name := "shmemViolations", fn := fun _ => fun
  | [d] => { results := [.lit (.bool true)], args := [d] }
  | _ => none }
def shmemViolationsRow : OpenClaim := { program := "ytfkoehokjpcogaa", sum := "8f9515263575635ac3596b8a6c2a7597c02293703aa940271b067e269f8551b3", func := "ropeladder/ropeladderlaw01.ShmemViolations", spec := "shmemViolations", unfollowed := true, recurses := true, apart := false }
def ShmemViolationsSaid : Prop := shmemViolationsRow.holds Try.pinned (OpenSpec.ofChange shmemViolationsSpec)

/-- ITS FALSE NEIGHBOUR: 'it returns false'. Refute it at one input. -/
def shmemViolationsWrong : ChangeSpec := { name := "shmemViolations", fn := fun _ => fun
  | [d] => { results := [.lit (.bool false)], args := [d] }
  | _ => none }
def ShmemViolationsWrongFalsely : Prop := shmemViolationsRow.holds Try.pinned (OpenSpec.ofChange shmemViolationsWrong)

/-- 'ropeladderlaw01.ShmemSizes': WHATEVER THE INPUT: true; the input reads as it did. -/
def shmemSizesSpec : ChangeSpec := { name := "shmemSizes", fn := fun _ => fun
  | [d1, d2, d3] => { results := [.lit (.bool true)], args := [d1, d2, d3] }
  | _ => none }
def shmemSizesRow : OpenClaim := { program := "ytfkoehokjpcogaa", sum := "8f9515263575635ac3596b8a6c2a7597c02293703aa940271b067e269f8551b3", func := "ropeladder/ropeladderlaw01.ShmemSizes", spec := "shmemSizes", unfollowed := true, recurses := true, apart := false }
def ShmemSizesSaid : Prop := shmemSizesRow.holds Try.pinned (OpenSpec.ofChange shmemSizesSpec)

/-- ITS FALSE NEIGHBOUR: 'it returns false'. Refute it at one input. -/
def shmemSizesWrong : ChangeSpec := { name := "shmemSizes", fn := fun _ => fun
  | [d1, d2, d3] => { results := [.lit (.bool false)], args := [d1, d2, d3] }
  | _ => none }
def ShmemSizesWrongFalsely : Prop := shmemSizesRow.holds Try.pinned (OpenSpec.ofChange shmemSizesWrong)

/- THE SECOND FORM. 'bulk': how many values and letters a reading holds, each counted each time it is reached (what is shared counts as often as it is met; a slice's spare places count too). A statement '..UptoSaid' is the law's where the arguments, and the package variables that the reading takes, are together of bulk at most 1048576: NARROWER than '..Said'. Prove '..Said' where nothing that the law and all that it calls make is longer than what came in: it says more and counts as full. Else prove '..UptoSaid'. A law counts once. -/
mutual
def uptoBulk {H : Type} : DataW H → Nat
  | .lit (.string bytes) => bytes.length + 1
  | .lit _ => 1
  | .nil => 1
  | .ptr d => uptoBulk d + 1
  | .slice elems spare => uptoBulkAll elems + uptoBulkAll spare + 1
  | .agg parts => uptoBulkAll parts + 1
  | .iface _ d => uptoBulk d + 1
  | .map entries => uptoBulkEntries entries + 1
  | .held _ => 1
def uptoBulkAll {H : Type} : List (DataW H) → Nat
  | [] => 0
  | d :: r => uptoBulk d + uptoBulkAll r
def uptoBulkEntries {H : Type} : List (Lit × DataW H) → Nat
  | [] => 0
  | x :: r => uptoBulkEntry x + uptoBulkEntries r
def uptoBulkEntry {H : Type} : Lit × DataW H → Nat
  | (.string bytes, d) => bytes.length + uptoBulk d + 1
  | (_, d) => uptoBulk d + 1
 end
def uptoSmall : (H : Type) → List (DataW H) → Bool := fun _ ds => decide (uptoBulkAll ds ≤ 1048576)
def OpenSpec.upto (s : _root_.Go.ChangeSpec) : _root_.Go.OpenSpec := { _root_.Go.OpenSpec.ofChange s with cond := some uptoSmall }

/-- 'ropeladderlaw01.ShmemMatchesReference', WHERE WHAT IT READS IS OF BULK AT MOST 1048576: true; the input reads as it did. -/
def shmemMatchesReferenceUptoRow : OpenClaim := { program := "ytfkoehokjpcogaa", sum := "8f9515263575635ac3596b8a6c2a7597c02293703aa940271b067e269f8551b3", func := "ropeladder/ropeladderlaw01.ShmemMatchesReference", spec := "shmemMatchesReference", unfollowed := true, recurses := true, apart := false, narrowed := true }
def ShmemMatchesReferenceUptoSaid : Prop := shmemMatchesReferenceUptoRow.holds Try.pinned (OpenSpec.upto shmemMatchesReferenceSpec)

/-- 'ropeladderlaw01.ShmemReplay', WHERE WHAT IT READS IS OF BULK AT MOST 1048576: true; the input reads as it did. -/
def shmemReplayUptoRow : OpenClaim := { program := "ytfkoehokjpcogaa", sum := "8f9515263575635ac3596b8a6c2a7597c02293703aa940271b067e269f8551b3", func := "ropeladder/ropeladderlaw01.ShmemReplay", spec := "shmemReplay", unfollowed := true, recurses := true, apart := false, narrowed := true }
def ShmemReplayUptoSaid : Prop := shmemReplayUptoRow.holds Try.pinned (OpenSpec.upto shmemReplaySpec)

/-- 'ropeladderlaw01.ShmemExclusive', WHERE WHAT IT READS IS OF BULK AT MOST 1048576: true; the input reads as it did. -/
def shmemExclusiveUptoRow : OpenClaim := { program := "ytfkoehokjpcogaa", sum := "8f9515263575635ac3596b8a6c2a7597c02293703aa940271b067e269f8551b3", func := "ropeladder/ropeladderlaw01.ShmemExclusive", spec := "shmemExclusive", unfollowed := true, recurses := true, apart := false, narrowed := true }
def ShmemExclusiveUptoSaid : Prop := shmemExclusiveUptoRow.holds Try.pinned (OpenSpec.upto shmemExclusiveSpec)

/-- 'ropeladderlaw01.ShmemAtomic', WHERE WHAT IT READS IS OF BULK AT MOST 1048576: true; the input reads as it did. -/
def shmemAtomicUptoRow : OpenClaim := { program := "ytfkoehokjpcogaa", sum := "8f9515263575635ac3596b8a6c2a7597c02293703aa940271b067e269f8551b3", func := "ropeladder/ropeladderlaw01.ShmemAtomic", spec := "shmemAtomic", unfollowed := true, recurses := true, apart := false, narrowed := true }
def ShmemAtomicUptoSaid : Prop := shmemAtomicUptoRow.holds Try.pinned (OpenSpec.upto shmemAtomicSpec)

/-- 'ropeladderlaw01.ShmemViolations', WHERE WHAT IT READS IS OF BULK AT MOST 1048576: true; the input reads as it did. -/
def shmemViolationsUptoRow : OpenClaim := { program := "ytfkoehokjpcogaa", sum := "8f9515263575635ac3596b8a6c2a7597c02293703aa940271b067e269f8551b3", func := "ropeladder/ropeladderlaw01.ShmemViolations", spec := "shmemViolations", unfollowed := true, recurses := true, apart := false, narrowed := true }
def ShmemViolationsUptoSaid : Prop := shmemViolationsUptoRow.holds Try.pinned (OpenSpec.upto shmemViolationsSpec)

/-- 'ropeladderlaw01.ShmemSizes', WHERE WHAT IT READS IS OF BULK AT MOST 1048576: true; the input reads as it did. -/
def shmemSizesUptoRow : OpenClaim := { program := "ytfkoehokjpcogaa", sum := "8f9515263575635ac3596b8a6c2a7597c02293703aa940271b067e269f8551b3", func := "ropeladder/ropeladderlaw01.ShmemSizes", spec := "shmemSizes", unfollowed := true, recurses := true, apart := false, narrowed := true }
def ShmemSizesUptoSaid : Prop := shmemSizesUptoRow.holds Try.pinned (OpenSpec.upto shmemSizesSpec)

end Rows
end Go.Proofs.Ytfkoehokjpcogaa
