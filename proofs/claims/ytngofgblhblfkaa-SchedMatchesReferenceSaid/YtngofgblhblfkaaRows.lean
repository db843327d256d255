/-
  No cell of these rows narrows 'for every input' (looked for: loops, veiled, ifaces, maps, wideKeys, modest, calm, conditions, laid).
  DERIVED. THE GIVEN ROWS OF THIS SEAT. 6 by the template 'for every input the law returns true; each argument reads behind the call as it read before'; 0 by the template 'total and deterministic' (their statements: YtngofgblhblfkaaTotals.lean).
  GIVEN WITH THE SEED: the statements are not yours to turn. If you find one false, say at which input.
  Laid BY PROGRAM, IN A SANDBOX (cutbox-rows.mjs): the forced cells as the released guide's own fill.sh prints them over the translation 90f9988bb64f65fe… (all of the seat's roots in one cut). By AI agents, Wed Nov 11 2026. No macro, syntax, notation, axiom, sorry.
-/
import Derived.Test.YtngofgblhblfkaaChecked
import GoSem.Claim
import GoSem.ClaimJoined
import GoSem.ClaimMapViews
import Derived.JoinedTies
import Derived.KernelRfl
namespace Go.Proofs.Ytngofgblhblfkaa
/- THE CELL 'sum', in the pinned program and in every row, IS THE sha256 OF THE DUMP (.gsa) THAT YtngofgblhblfkaaProg.lean LOADS. Nothing in Lean hashes anything: it is a label: what it is worth is what the hold of that sum in a sandbox is worth. -/
noncomputable def Try.pinned : Pinned := { name := "ytngofgblhblfkaa", sum := "90f9988bb64f65feb414b344d454af6b5747df997e126a6c0e8f3163af9043de", checked := Try.checked }
namespace Rows
def none {H : Type} : Left H := { results := [], args := [] }

/-- 'ropeladderlaw02.SchedMatchesReference': WHATEVER THE INPUT: true; the input reads as it did. -/
def schedMatchesReferenceSpec : ChangeSpec := { name := "schedMatchesReference", fn := fun _ => fun
  | [d1, d2, d3, d4, d5] => { results := [.lit (.bool true)], args := [d1, d2, d3, d4, d5] }
  | _ => none }
def schedMatchesReferenceRow : OpenClaim := { program := "ytngofgblhblfkaa", sum := "90f9988bb64f65feb414b344d454af6b5747df997e126a6c0e8f3163af9043de", func := "ropeladder/ropeladderlaw02.SchedMatchesReference", spec := "schedMatchesReference", unfollowed := true, recurses := true, apart := false }
def SchedMatchesReferenceSaid : Prop := schedMatchesReferenceRow.holds Try.pinned (OpenSpec.ofChange schedMatchesReferenceSpec)

/-- ITS FALSE NEIGHBOUR: 'it returns false'. Refute it at one input. -/
def schedMatchesReferenceWrong : ChangeSpec := { name := "schedMatchesReference", fn := fun _ => fun
  | [d1, d2, d3, d4, d5] => { results := [.lit (.bool false)], args := [d1, d2, d3, d4, d5] }
  | _ => none }
def SchedMatchesReferenceWrongFalsely : Prop := schedMatchesReferenceRow.holds Try.pinned (OpenSpec.ofChange schedMatchesReferenceWrong)

/-- 'ropeladderlaw02.SchedWindows': WHATEVER THE INPUT: true; the input reads as it did. -/
def schedWindowsSpec : ChangeSpec := { name := "schedWindows", fn := fun _ => fun
  | [d1, d2, d3] => { results := [.lit (.bool true)], args := [d1, d2, d3] }
  | _ => none }
def schedWindowsRow : OpenClaim := { program := "ytngofgblhblfkaa", sum := "90f9988bb64f65feb414b344d454af6b5747df997e126a6c0e8f3163af9043de", func := "ropeladder/ropeladderlaw02.SchedWindows", spec := "schedWindows", unfollowed := true, recurses := true, apart := false }
def SchedWindowsSaid : Prop := schedWindowsRow.holds Try.pinned (OpenSpec.ofChange schedWindowsSpec)

/-- ITS FALSE NEIGHBOUR: 'it returns false'. Refute it at one input. -/
def schedWindowsWrong : ChangeSpec := { name := "schedWindows", fn := fun _ => fun
  | [d1, d2, d3] => { results := [.lit (.bool false)], args := [d1, d2, d3] }
  | _ => none }
def SchedWindowsWrongFalsely : Prop := schedWindowsRow.holds Try.pinned (OpenSpec.ofChange schedWindowsWrong)

/-- 'ropeladderlaw02.SchedRepairs': WHATEVER THE INPUT: true; the input reads as it did. -/
def schedRepairsSpec : ChangeSpec := { name := "schedRepairs", fn := fun _ => fun
  | [d1, d2, d3] => { results := [.lit (.bool true)], args := [d1, d2, d3] }
  | _ => none }
def schedRepairsRow : OpenClaim := { program := "ytngofgblhblfkaa", sum := "90f9988bb64f65feb414b344d454af6b5747df997e126a6c0e8f3163af9043de", func := "ropeladder/ropeladderlaw02.SchedRepairs", spec := "schedRepairs", unfollowed := true, recurses := true, apart := false }
def SchedRepairsSaid : Prop := schedRepairsRow.holds Try.pinned (OpenSpec.ofChange schedRepairsSpec)

/-- ITS FALSE NEIGHBOUR: 'it returns false'. Refute it at one input. -/
def schedRepairsWrong : ChangeSpec := { name := "schedRepairs", fn := fun _ => fun
  | [d1, d2, d3] => { results := [.lit (.bool false)], args := [d1, d2, d3] }
  | _ => none }
def SchedRepairsWrongFalsely : Prop := schedRepairsRow.holds Try.pinned (OpenSpec.ofChange schedRepairsWrong)

/-- 'ropeladderlaw02.SchedKeeps': WHATEVER THE INPUT: true; the input reads as it did. -/
def schedKeepsSpec : ChangeSpec := { name := "schedKeeps", fn := fun _ => fun
  | [d1, d2, d3] => { results := [.lit (.bool true)], args := [d1, d2, d3] }
  | _ => none }
def schedKeepsRow : OpenClaim := { program := "ytngofgblhblfkaa", sum := "90f9988bb64f65feb414b344d454af6b5747df997e126a6c0e8f3163af9043de", func := "ropeladder/ropeladderlaw02.SchedKeeps", spec := "schedKeeps", unfollowed := true, recurses := true, apart := false }
def SchedKeepsSaid : Prop := schedKeepsRow.holds Try.pinned (OpenSpec.ofChange schedKeepsSpec)

/-- ITS FALSE NEIGHBOUR: 'it returns false'. Refute it at one input. -/
def schedKeepsWrong : ChangeSpec := { name := "schedKeeps", fn := fun _ => fun
  | [d1, d2, d3] => { results := [.lit (.bool false)], args := [d1, d2, d3] }
  | _ => none }
def SchedKeepsWrongFalsely : Prop := schedKeepsRow.holds Try.pinned (OpenSpec.ofChange schedKeepsWrong)

/-- 'ropeladderlaw02.SchedRobin': WHATEVER THE INPUT: true; the input reads as it did. -/
def schedRobinSpec : ChangeSpec := { name := "schedRobin", fn := fun _ => fun
  | [d1, d2, d3, d4] => { results := [.lit (.bool true)], args := [d1, d2, d3, d4] }
  | _ => none }
def schedRobinRow : OpenClaim := { program := "ytngofgblhblfkaa", sum := "90f9988bb64f65feb414b344d454af6b5747df997e126a6c0e8f3163af9043de", func := "ropeladder/ropeladderlaw02.SchedRobin", spec := "schedRobin", unfollowed := true, recurses := true, apart := false }
def SchedRobinSaid : Prop := schedRobinRow.holds Try.pinned (OpenSpec.ofChange schedRobinSpec)

/-- ITS FALSE NEIGHBOUR: 'it returns false'. Refute it at one input. -/
def schedRobinWrong : ChangeSpec := { name := "schedRobin", fn := fun _ => fun
  | [d1, d2, d3, d4] => { results := [.lit (.bool false)], args := [d1, d2, d3, d4] }
  | _ => none }
def SchedRobinWrongFalsely : Prop := schedRobinRow.holds Try.pinned (OpenSpec.ofChange schedRobinWrong)

/-- 'ropeladderlaw02.SchedRandom': WHATEVER THE INPUT: true; the input reads as it did. -/
def schedRandomSpec : ChangeSpec := { name := "schedRandom", fn := fun _ => fun
  | [d1, d2, d3, d4] => { results := [.lit (.bool true)], args := [d1, d2, d3, d4] }
  | _ => none }
def schedRandomRow : OpenClaim := { program := "ytngofgblhblfkaa", sum := "90f9988bb64f65feb414b344d454af6b5747df997e126a6c0e8f3163af9043de", func := "ropeladder/ropeladderlaw02.SchedRandom", spec := "schedRandom", unfollowed := true, recurses := true, apart := false }
def SchedRandomSaid : Prop := schedRandomRow.holds Try.pinned (OpenSpec.ofChange schedRandomSpec)

/-- ITS FALSE NEIGHBOUR: 'it returns false'. Refute it at one input. -/
def schedRandomWrong : ChangeSpec := { name := "schedRandom", fn := fun _ => fun
  | [d1, d2, d3, d4] => { results := [.lit (.bool false)], args := [d1, d2, d3, d4] }
  | _ => none }
def SchedRandomWrongFalsely : Prop := schedRandomRow.holds Try.pinned (OpenSpec.ofChange schedRandomWrong)

/- THE SECOND FORM. 'bulk': how many values and letters a reading holds, each counted each time it is reached (what is shared counts as often as it is met; a slice's spare places count too). A statement '..UptoSaid' is the law's where the arguments, and the package variables that the reading takes, are together of bulk at most 1048576: NARROWER than '..Said'. Prove '..Said' where nothing that the law and all that it calls make is longer than what came in: it says more and counts as full. Else prove '..UptoSaid'. A law counts once. -/
mutual
def uptoBulk {H : Type} : DataW H → Nat
  | .lit (.string bytes) => bytes.length + 1
  | .lit _ => 1
  | .nil => 1
  | .ptr d => uptoBulk d + 1
  | .slice elems spare => uptoBulkAll elems + uptoBulkAll spare + 1
  | .agg parts => uptoBulkAll parts + 1
  | .iface _ d => uptoBulk d + 1
  | .map entries => uptoBulkEntries entries + 1
  | .held _ => 1
def uptoBulkAll {H : Type} : List (DataW H) → Nat
  | [] => 0
  | d :: r => uptoBulk d + uptoBulkAll r
def uptoBulkEntries {H : Type} : List (Lit × DataW H) → Nat
  | [] => 0
  | x :: r => uptoBulkEntry x + uptoBulkEntries r
def uptoBulkEntry {H : Type} : Lit × DataW H → Nat
  | (.string bytes, d) => bytes.length + uptoBulk d + 1
  | (_, d) => uptoBulk d + 1
 end
def uptoSmall : (H : Type) → List (DataW H) → Bool := fun _ ds => decide (uptoBulkAll ds ≤ 1048576)
def OpenSpec.upto (s : _root_.Go.ChangeSpec) : _root_.Go.OpenSpec := { _root_.Go.OpenSpec.ofChange s with cond := some uptoSmall }

/-- 'ropeladderlaw02.SchedMatchesReference', WHERE WHAT IT READS IS OF BULK AT MOST 1048576: true; the input reads as it did. -/
def schedMatchesReferenceUptoRow : OpenClaim := { program := "ytngofgblhblfkaa", sum := "90f9988bb64f65feb414b344d454af6b5747df997e126a6c0e8f3163af9043de", func := "ropeladder/ropeladderlaw02.SchedMatchesReference", spec := "schedMatchesReference", unfollowed := true, recurses := true, apart := false, narrowed := true }
def SchedMatchesReferenceUptoSaid : Prop := schedMatchesReferenceUptoRow.holds Try.pinned (OpenSpec.upto schedMatchesReferenceSpec)

/-- 'ropeladderlaw02.SchedWindows', WHERE WHAT IT READS IS OF BULK AT MOST 1048576: true; the input reads as it did. -/
def schedWindowsUptoRow : OpenClaim := { program := "ytngofgblhblfkaa", sum := "90f9988bb64f65feb414b344d454af6b5747df997e126a6c0e8f3163af9043de", func := "ropeladder/ropeladderlaw02.SchedWindows", spec := "schedWindows", unfollowed := true, recurses := true, apart := false, narrowed := true }
def SchedWindowsUptoSaid : Prop := schedWindowsUptoRow.holds Try.pinned (OpenSpec.upto schedWindowsSpec)

/-- 'ropeladderlaw02.SchedRepairs', WHERE WHAT IT READS IS OF BULK AT MOST 1048576: true; the input reads as it did. -/
def schedRepairsUptoRow : OpenClaim := { program := "ytngofgblhblfkaa", sum := "90f9988bb64f65feb414b344d454af6b5747df997e126a6c0e8f3163af9043de", func := "ropeladder/ropeladderlaw02.SchedRepairs", spec := "schedRepairs", unfollowed := true, recurses := true, apart := false, narrowed := true }
def SchedRepairsUptoSaid : Prop := schedRepairsUptoRow.holds Try.pinned (OpenSpec.upto schedRepairsSpec)

/-- 'ropeladderlaw02.SchedKeeps', WHERE WHAT IT READS IS OF BULK AT MOST 1048576: true; the input reads as it did. -/
def schedKeepsUptoRow : OpenClaim := { program := "ytngofgblhblfkaa", sum := "90f9988bb64f65feb414b344d454af6b5747df997e126a6c0e8f3163af9043de", func := "ropeladder/ropeladderlaw02.SchedKeeps", spec := "schedKeeps", unfollowed := true, recurses := true, apart := false, narrowed := true }
def SchedKeepsUptoSaid : Prop := schedKeepsUptoRow.holds Try.pinned (OpenSpec.upto schedKeepsSpec)

/-- 'ropeladderlaw02.SchedRobin', WHERE WHAT IT READS IS OF BULK AT MOST 1048576: true; the input reads as it did. -/
def schedRobinUptoRow : OpenClaim := { program := "ytngofgblhblfkaa", sum := "90f9988bb64f65feb414b344d454af6b5747df997e126a6c0e8f3163af9043de", func := "ropeladder/ropeladderlaw02.SchedRobin", spec := "schedRobin", unfollowed := true, recurses := true, apart := false, narrowed := true }
def SchedRobinUptoSaid : Prop := schedRobinUptoRow.holds Try.pinned (OpenSpec.upto schedRobinSpec)

/-- 'ropeladderlaw02.SchedRandom', WHERE WHAT IT READS IS OF BULK AT MOST 1048576: true; the input reads as it did. -/
def schedRandomUptoRow : OpenClaim := { program := "ytngofgblhblfkaa", sum := "90f9988bb64f65feb414b344d454af6b5747df997e126a6c0e8f3163af9043de", func := "ropeladder/ropeladderlaw02.SchedRandom", spec := "schedRandom", unfollowed := true, recurses := true, apart := false, narrowed := true }
def SchedRandomUptoSaid : Prop := schedRandomUptoRow.holds Try.pinned (OpenSpec.upto schedRandomSpec)

end Rows
end Go.Proofs.Ytngofgblhblfkaa
