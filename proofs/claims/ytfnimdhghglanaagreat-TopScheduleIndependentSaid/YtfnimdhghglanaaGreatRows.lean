/-
  No cell of these rows narrows 'for every input' (looked for: loops, veiled, ifaces, maps, wideKeys, modest, calm, conditions, laid).
  DERIVED. THE GIVEN ROWS OF THIS SEAT. 3 by the template 'for every input the law returns true; each argument reads behind the call as it read before'; 0 by the template 'total and deterministic' (their statements: YtfnimdhghglanaaGreatTotals.lean).
  GIVEN WITH THE SEED: the statements are not yours to turn. If you find one false, say at which input.
  Laid BY PROGRAM, IN A SANDBOX (cutbox-rows.mjs): the forced cells as the released guide's own fill.sh prints them over the translation c7d613e0ce406dbd… (all of the seat's roots in one cut). By AI agents, Wed Nov 11 2026. No macro, syntax, notation, axiom, sorry.
-/
import Derived.Test.YtfnimdhghglanaaGreatChecked
import GoSem.Claim
import GoSem.ClaimJoined
import GoSem.ClaimMapViews
import Derived.JoinedTies
import Derived.KernelRfl
namespace Go.Proofs.YtfnimdhghglanaaGreat
/- THE CELL 'sum', in the pinned program and in every row, IS THE sha256 OF THE DUMP (.gsa) THAT YtfnimdhghglanaaGreatProg.lean LOADS. Nothing in Lean hashes anything: it is a label: what it is worth is what the hold of that sum in a sandbox is worth. -/
noncomputable def Tryz.pinned : Pinned := { name := "ytfnimdhghglanaagreat", sum := "c7d613e0ce406dbde5ba843a933600b5d44c5791d4da70e4452e93c91fb0e9be", checked := Tryz.checked }
namespace Rows
def none {H : Type} : Left H := { results := [], args := [] }

/-- 'ropeladdertop.TopErrorPrefix': WHATEVER THE INPUT: true; the input reads as it did. -/
def topErrorPrefixSpec : ChangeSpec := { name := "topErrorPrefix", fn := fun _ => fun
  | [d1, d2, d3, d4, d5] => { results := [.lit (.bool true)], args := [d1, d2, d3, d4, d5] }
  | _ => none }
def topErrorPrefixRow : OpenClaim := { program := "ytfnimdhghglanaagreat", sum := "c7d613e0ce406dbde5ba843a933600b5d44c5791d4da70e4452e93c91fb0e9be", func := "ropeladder/ropeladdertop.TopErrorPrefix", spec := "topErrorPrefix", inPlace := ["slices.overlaps[ropeladder/api.SimEvent]"], unfollowed := true, recurses := true, apart := false }
def TopErrorPrefixSaid : Prop := topErrorPrefixRow.holds Tryz.pinned (OpenSpec.ofChange topErrorPrefixSpec)

/-- ITS FALSE NEIGHBOUR: 'it returns false'. Refute it at one input. -/
def topErrorPrefixWrong : ChangeSpec := { name := "topErrorPrefix", fn := fun _ => fun
  | [d1, d2, d3, d4, d5] => { results := [.lit (.bool false)], args := [d1, d2, d3, d4, d5] }
  | _ => none }
def TopErrorPrefixWrongFalsely : Prop := topErrorPrefixRow.holds Tryz.pinned (OpenSpec.ofChange topErrorPrefixWrong)

/-- 'ropeladdertop.TopWindows': WHATEVER THE INPUT: true; the input reads as it did. -/
def topWindowsSpec : ChangeSpec := { name := "topWindows", fn := fun _ => fun
  | [d1, d2, d3, d4] => { results := [.lit (.bool true)], args := [d1, d2, d3, d4] }
  | _ => none }
def topWindowsRow : OpenClaim := { program := "ytfnimdhghglanaagreat", sum := "c7d613e0ce406dbde5ba843a933600b5d44c5791d4da70e4452e93c91fb0e9be", func := "ropeladder/ropeladdertop.TopWindows", spec := "topWindows", inPlace := ["slices.overlaps[ropeladder/api.SimEvent]"], unfollowed := true, recurses := true, apart := false }
def TopWindowsSaid : Prop := topWindowsRow.holds Tryz.pinned (OpenSpec.ofChange topWindowsSpec)

/-- ITS FALSE NEIGHBOUR: 'it returns false'. Refute it at one input. -/
def topWindowsWrong : ChangeSpec := { name := "topWindows", fn := fun _ => fun
  | [d1, d2, d3, d4] => { results := [.lit (.bool false)], args := [d1, d2, d3, d4] }
  | _ => none }
def TopWindowsWrongFalsely : Prop := topWindowsRow.holds Tryz.pinned (OpenSpec.ofChange topWindowsWrong)

/-- 'ropeladdertop.TopScheduleIndependent': WHATEVER THE INPUT: true; the input reads as it did. -/
def topScheduleIndependentSpec : ChangeSpec := { name := "topScheduleIndependent", fn := fun _ => fun
  | [d1, d2, d3, d4, d5] => { results := [.lit (.bool true)], args := [d1, d2, d3, d4, d5] }
  | _ => none }
def topScheduleIndependentRow : OpenClaim := { program := "ytfnimdhghglanaagreat", sum := "c7d613e0ce406dbde5ba843a933600b5d44c5791d4da70e4452e93c91fb0e9be", func := "ropeladder/ropeladdertop.TopScheduleIndependent", spec := "topScheduleIndependent", inPlace := ["slices.overlaps[ropeladder/api.SimEvent]"], unfollowed := true, recurses := true, apart := false }
def TopScheduleIndependentSaid : Prop := topScheduleIndependentRow.holds Tryz.pinned (OpenSpec.ofChange topScheduleIndependentSpec)

/-- ITS FALSE NEIGHBOUR: 'it returns false'. Refute it at one input. -/
def topScheduleIndependentWrong : ChangeSpec := { name := "topScheduleIndependent", fn := fun _ => fun
  | [d1, d2, d3, d4, d5] => { results := [.lit (.bool false)], args := [d1, d2, d3, d4, d5] }
  | _ => none }
def TopScheduleIndependentWrongFalsely : Prop := topScheduleIndependentRow.holds Tryz.pinned (OpenSpec.ofChange topScheduleIndependentWrong)

/- THE SECOND FORM. 'bulk': how many values and letters a reading holds, each counted each time it is reached (what is shared counts as often as it is met; a slice's spare places count too). A statement '..UptoSaid' is the law's where the arguments, and the package variables that the reading takes, are together of bulk at most 1048576: NARROWER than '..Said'. Prove '..Said' where nothing that the law and all that it calls make is longer than what came in: it says more and counts as full. Else prove '..UptoSaid'. A law counts once. -/
mutual
def uptoBulk {H : Type} : DataW H → Nat
  | .lit (.string bytes) => bytes.length + 1
  | .lit _ => 1
  | .nil => 1
  | .ptr d => uptoBulk d + 1
  | .slice elems spare => uptoBulkAll elems + uptoBulkAll spare + 1
  | .agg parts => uptoBulkAll parts + 1
  | .iface _ d => uptoBulk d + 1
  | .map entries => uptoBulkEntries entries + 1
  | .held _ => 1
def uptoBulkAll {H : Type} : List (DataW H) → Nat
  | [] => 0
  | d :: r => uptoBulk d + uptoBulkAll r
def uptoBulkEntries {H : Type} : List (Lit × DataW H) → Nat
  | [] => 0
  | x :: r => uptoBulkEntry x + uptoBulkEntries r
def uptoBulkEntry {H : Type} : Lit × DataW H → Nat
  | (.string bytes, d) => bytes.length + uptoBulk d + 1
  | (_, d) => uptoBulk d + 1
 end
def uptoSmall : (H : Type) → List (DataW H) → Bool := fun _ ds => decide (uptoBulkAll ds ≤ 1048576)
def OpenSpec.upto (s : _root_.Go.ChangeSpec) : _root_.Go.OpenSpec := { _root_.Go.OpenSpec.ofChange s with cond := some uptoSmall }

/-- 'ropeladdertop.TopErrorPrefix', WHERE WHAT IT READS IS OF BULK AT MOST 1048576: true; the input reads as it did. -/
def topErrorPrefixUptoRow : OpenClaim := { program := "ytfnimdhghglanaagreat", sum := "c7d613e0ce406dbde5ba843a933600b5d44c5791d4da70e4452e93c91fb0e9be", func := "ropeladder/ropeladdertop.TopErrorPrefix", spec := "topErrorPrefix", inPlace := ["slices.overlaps[ropeladder/api.SimEvent]"], unfollowed := true, recurses := true, apart := false, narrowed := true }
def TopErrorPrefixUptoSaid : Prop := topErrorPrefixUptoRow.holds Tryz.pinned (OpenSpec.upto topErrorPrefixSpec)

/-- 'ropeladdertop.TopWindows', WHERE WHAT IT READS IS OF BULK AT MOST 1048576: true; the input reads as it did. -/
def topWindowsUptoRow : OpenClaim := { program := "ytfnimdhghglanaagreat", sum := "c7d613e0ce406dbde5ba843a933600b5d44c5791d4da70e4452e93c91fb0e9be", func := "ropeladder/ropeladdertop.TopWindows", spec := "topWindows", inPlace := ["slices.overlaps[ropeladder/api.SimEvent]"], unfollowed := true, recurses := true, apart := false, narrowed := true }
def TopWindowsUptoSaid : Prop := topWindowsUptoRow.holds Tryz.pinned (OpenSpec.upto topWindowsSpec)

/-- 'ropeladdertop.TopScheduleIndependent', WHERE WHAT IT READS IS OF BULK AT MOST 1048576: true; the input reads as it did. -/
def topScheduleIndependentUptoRow : OpenClaim := { program := "ytfnimdhghglanaagreat", sum := "c7d613e0ce406dbde5ba843a933600b5d44c5791d4da70e4452e93c91fb0e9be", func := "ropeladder/ropeladdertop.TopScheduleIndependent", spec := "topScheduleIndependent", inPlace := ["slices.overlaps[ropeladder/api.SimEvent]"], unfollowed := true, recurses := true, apart := false, narrowed := true }
def TopScheduleIndependentUptoSaid : Prop := topScheduleIndependentUptoRow.holds Tryz.pinned (OpenSpec.upto topScheduleIndependentSpec)

end Rows
end Go.Proofs.YtfnimdhghglanaaGreat
