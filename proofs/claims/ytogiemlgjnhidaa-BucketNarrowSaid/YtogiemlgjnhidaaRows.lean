/-
  No cell of these rows narrows 'for every input' (looked for: loops, veiled, ifaces, maps, wideKeys, modest, calm, conditions, laid).
  DERIVED. THE GIVEN ROWS OF THIS SEAT. 5 by the template 'for every input the law returns true; each argument reads behind the call as it read before'; 0 by the template 'total and deterministic' (their statements: YtogiemlgjnhidaaTotals.lean).
  GIVEN WITH THE SEED: the statements are not yours to turn. If you find one false, say at which input.
  Laid BY PROGRAM, IN A SANDBOX (cutbox-rows.mjs): the forced cells as the released guide's own fill.sh prints them over the translation 6448f32c7d482dc9… (all of the seat's roots in one cut). By AI agents, Wed Nov 11 2026. No macro, syntax, notation, axiom, sorry.
-/
import Derived.Test.YtogiemlgjnhidaaChecked
import GoSem.Claim
import GoSem.ClaimJoined
import GoSem.ClaimMapViews
import Derived.JoinedTies
import Derived.KernelRfl
namespace Go.Proofs.Ytogiemlgjnhidaa
/- THE CELL 'sum', in the pinned program and in every row, IS THE sha256 OF THE DUMP (.gsa) THAT YtogiemlgjnhidaaProg.lean LOADS. Nothing in Lean hashes anything: it is a label: what it is worth is what the hold of that sum in a sandbox is worth. -/
noncomputable def Try.pinned : Pinned := { name := "ytogiemlgjnhidaa", sum := "6448f32c7d482dc9d05fa5cb011da4b2d155f28329fb417bd0a3382d51204d69", checked := Try.checked }
namespace Rows
def none {H : Type} : Left H := { results := [], args := [] }

/-- 'ropeladderlaw06.BucketMatchesReference': WHATEVER THE INPUT: true; the input reads as it did. -/
def bucketMatchesReferenceSpec : ChangeSpec := { name := "bucketMatchesReference", fn := fun _ => fun
  | [d1, d2, d3, d4] => { results := [.lit (.bool true)], args := [d1, d2, d3, d4] }
  | _ => none }
def bucketMatchesReferenceRow : OpenClaim := { program := "ytogiemlgjnhidaa", sum := "6448f32c7d482dc9d05fa5cb011da4b2d155f28329fb417bd0a3382d51204d69", func := "ropeladder/ropeladderlaw06.BucketMatchesReference", spec := "bucketMatchesReference", apart := false }
def BucketMatchesReferenceSaid : Prop := bucketMatchesReferenceRow.holds Try.pinned (OpenSpec.ofChange bucketMatchesReferenceSpec)

/-- ITS FALSE NEIGHBOUR: 'it returns false'. Refute it at one input. -/
def bucketMatchesReferenceWrong : ChangeSpec := { name := "bucketMatchesReference", fn := fun _ => fun
  | [d1, d2, d3, d4] => { results := [.lit (.bool false)], args := [d1, d2, d3, d4] }
  | _ => none }
def BucketMatchesReferenceWrongFalsely : Prop := bucketMatchesReferenceRow.holds Try.pinned (OpenSpec.ofChange bucketMatchesReferenceWrong)

/-- 'ropeladderlaw06.BucketCovers': WHATEVER THE INPUT: true; the input reads as it did. -/
def bucketCoversSpec : ChangeSpec := { name := "bucketCovers", fn := fun _ => fun
  | [d1, d2, d3] => { results := [.lit (.bool true)], args := [d1, d2, d3] }
  | _ => none }
def bucketCoversRow : OpenClaim := { program := "ytogiemlgjnhidaa", sum := "6448f32c7d482dc9d05fa5cb011da4b2d155f28329fb417bd0a3382d51204d69", func := "ropeladder/ropeladderlaw06.BucketCovers", spec := "bucketCovers", apart := false }
def BucketCoversSaid : Prop := bucketCoversRow.holds Try.pinned (OpenSpec.ofChange bucketCoversSpec)

/-- ITS FALSE NEIGHBOUR: 'it returns false'. Refute it at one input. -/
def bucketCoversWrong : ChangeSpec := { name := "bucketCovers", fn := fun _ => fun
  | [d1, d2, d3] => { results := [.lit (.bool false)], args := [d1, d2, d3] }
  | _ => none }
def BucketCoversWrongFalsely : Prop := bucketCoversRow.holds Try.pinned (OpenSpec.ofChange bucketCoversWrong)

/-- 'ropeladderlaw06.BucketNarrow': WHATEVER THE INPUT: true; the input reads as it did. -/
def bucketNarrowSpec : ChangeSpec := { name := "bucketNarrow", fn := fun _ => fun
  | [d1, d2, d3] => { results := [.lit (.bool true)], args := [d1, d2, d3] }
  | _ => none }
def bucketNarrowRow : OpenClaim := { program := "ytogiemlgjnhidaa", sum := "6448f32c7d482dc9d05fa5cb011da4b2d155f28329fb417bd0a3382d51204d69", func := "ropeladder/ropeladderlaw06.BucketNarrow", spec := "bucketNarrow", apart := false }
def BucketNarrowSaid : Prop := bucketNarrowRow.holds Try.pinned (OpenSpec.ofChange bucketNarrowSpec)

/-- ITS FALSE NEIGHBOUR: 'it returns false'. Refute it at one input. -/
def bucketNarrowWrong : ChangeSpec := { name := "bucketNarrow", fn := fun _ => fun
  | [d1, d2, d3] => { results := [.lit (.bool false)], args := [d1, d2, d3] }
  | _ => none }
def BucketNarrowWrongFalsely : Prop := bucketNarrowRow.holds Try.pinned (OpenSpec.ofChange bucketNarrowWrong)

/-- 'ropeladderlaw06.BucketOrder': WHATEVER THE INPUT: true; the input reads as it did. -/
def bucketOrderSpec : ChangeSpec := { name := "bucketOrder", fn := fun _ => fun
  | [d1, d2, d3, d4] => { results := [.lit (.bool true)], args := [d1, d2, d3, d4] }
  | _ => none }
def bucketOrderRow : OpenClaim := { program := "ytogiemlgjnhidaa", sum := "6448f32c7d482dc9d05fa5cb011da4b2d155f28329fb417bd0a3382d51204d69", func := "ropeladder/ropeladderlaw06.BucketOrder", spec := "bucketOrder", apart := false }
def BucketOrderSaid : Prop := bucketOrderRow.holds Try.pinned (OpenSpec.ofChange bucketOrderSpec)

/-- ITS FALSE NEIGHBOUR: 'it returns false'. Refute it at one input. -/
def bucketOrderWrong : ChangeSpec := { name := "bucketOrder", fn := fun _ => fun
  | [d1, d2, d3, d4] => { results := [.lit (.bool false)], args := [d1, d2, d3, d4] }
  | _ => none }
def BucketOrderWrongFalsely : Prop := bucketOrderRow.holds Try.pinned (OpenSpec.ofChange bucketOrderWrong)

/-- 'ropeladderlaw06.BucketStarts': WHATEVER THE INPUT: true; the input reads as it did. -/
def bucketStartsSpec : ChangeSpec := { name := "bucketStarts", fn := fun _ => fun
  | [d1, d2, d3] => { results := [.lit (.bool true)], args := [d1, d2, d3] }
  | _ => none }
def bucketStartsRow : OpenClaim := { program := "ytogiemlgjnhidaa", sum := "6448f32c7d482dc9d05fa5cb011da4b2d155f28329fb417bd0a3382d51204d69", func := "ropeladder/ropeladderlaw06.BucketStarts", spec := "bucketStarts", apart := false }
def BucketStartsSaid : Prop := bucketStartsRow.holds Try.pinned (OpenSpec.ofChange bucketStartsSpec)

/-- ITS FALSE NEIGHBOUR: 'it returns false'. Refute it at one input. -/
def bucketStartsWrong : ChangeSpec := { name := "bucketStarts", fn := fun _ => fun
  | [d1, d2, d3] => { results := [.lit (.bool false)], args := [d1, d2, d3] }
  | _ => none }
def BucketStartsWrongFalsely : Prop := bucketStartsRow.holds Try.pinned (OpenSpec.ofChange bucketStartsWrong)

/- THE SECOND FORM. 'bulk': how many values and letters a reading holds, each counted each time it is reached (what is shared counts as often as it is met; a slice's spare places count too). A statement '..UptoSaid' is the law's where the arguments, and the package variables that the reading takes, are together of bulk at most 1048576: NARROWER than '..Said'. Prove '..Said' where nothing that the law and all that it calls make is longer than what came in: it says more and counts as full. Else prove '..UptoSaid'. A law counts once. -/
mutual
def uptoBulk {H : Type} : DataW H → Nat
  | .lit (.string bytes) => bytes.length + 1
  | .lit _ => 1
  | .nil => 1
  | .ptr d => uptoBulk d + 1
  | .slice elems spare => uptoBulkAll elems + uptoBulkAll spare + 1
  | .agg parts => uptoBulkAll parts + 1
  | .iface _ d => uptoBulk d + 1
  | .map entries => uptoBulkEntries entries + 1
  | .held _ => 1
def uptoBulkAll {H : Type} : List (DataW H) → Nat
  | [] => 0
  | d :: r => uptoBulk d + uptoBulkAll r
def uptoBulkEntries {H : Type} : List (Lit × DataW H) → Nat
  | [] => 0
  | x :: r => uptoBulkEntry x + uptoBulkEntries r
def uptoBulkEntry {H : Type} : Lit × DataW H → Nat
  | (.string bytes, d) => bytes.length + uptoBulk d + 1
  | (_, d) => uptoBulk d + 1
 end
def uptoSmall : (H : Type) → List (DataW H) → Bool := fun _ ds => decide (uptoBulkAll ds ≤ 1048576)
def OpenSpec.upto (s : _root_.Go.ChangeSpec) : _root_.Go.OpenSpec := { _root_.Go.OpenSpec.ofChange s with cond := some uptoSmall }

/-- 'ropeladderlaw06.BucketMatchesReference', WHERE WHAT IT READS IS OF BULK AT MOST 1048576: true; the input reads as it did. -/
def bucketMatchesReferenceUptoRow : OpenClaim := { program := "ytogiemlgjnhidaa", sum := "6448f32c7d482dc9d05fa5cb011da4b2d155f28329fb417bd0a3382d51204d69", func := "ropeladder/ropeladderlaw06.BucketMatchesReference", spec := "bucketMatchesReference", apart := false, narrowed := true }
def BucketMatchesReferenceUptoSaid : Prop := bucketMatchesReferenceUptoRow.holds Try.pinned (OpenSpec.upto bucketMatchesReferenceSpec)

/-- 'ropeladderlaw06.BucketCovers', WHERE WHAT IT READS IS OF BULK AT MOST 1048576: true; the input reads as it did. -/
def bucketCoversUptoRow : OpenClaim := { program := "ytogiemlgjnhidaa", sum := "6448f32c7d482dc9d05fa5cb011da4b2d155f28329fb417bd0a3382d51204d69", func := "ropeladder/ropeladderlaw06.BucketCovers", spec := "bucketCovers", apart := false, narrowed := true }
def BucketCoversUptoSaid : Prop := bucketCoversUptoRow.holds Try.pinned (OpenSpec.upto bucketCoversSpec)

/-- 'ropeladderlaw06.BucketNarrow', WHERE WHAT IT READS IS OF BULK AT MOST 1048576: true; the input reads as it did. -/
def bucketNarrowUptoRow : OpenClaim := { program := "ytogiemlgjnhidaa", sum := "6448f32c7d482dc9d05fa5cb011da4b2d155f28329fb417bd0a3382d51204d69", func := "ropeladder/ropeladderlaw06.BucketNarrow", spec := "bucketNarrow", apart := false, narrowed := true }
def BucketNarrowUptoSaid : Prop := bucketNarrowUptoRow.holds Try.pinned (OpenSpec.upto bucketNarrowSpec)

/-- 'ropeladderlaw06.BucketOrder', WHERE WHAT IT READS IS OF BULK AT MOST 1048576: true; the input reads as it did. -/
def bucketOrderUptoRow : OpenClaim := { program := "ytogiemlgjnhidaa", sum := "6448f32c7d482dc9d05fa5cb011da4b2d155f28329fb417bd0a3382d51204d69", func := "ropeladder/ropeladderlaw06.BucketOrder", spec := "bucketOrder", apart := false, narrowed := true }
def BucketOrderUptoSaid : Prop := bucketOrderUptoRow.holds Try.pinned (OpenSpec.upto bucketOrderSpec)

/-- 'ropeladderlaw06.BucketStarts', WHERE WHAT IT READS IS OF BULK AT MOST 1048576: true; the input reads as it did. -/
def bucketStartsUptoRow : OpenClaim := { program := "ytogiemlgjnhidaa", sum := "6448f32c7d482dc9d05fa5cb011da4b2d155f28329fb417bd0a3382d51204d69", func := "ropeladder/ropeladderlaw06.BucketStarts", spec := "bucketStarts", apart := false, narrowed := true }
def BucketStartsUptoSaid : Prop := bucketStartsUptoRow.holds Try.pinned (OpenSpec.upto bucketStartsSpec)

end Rows
end Go.Proofs.Ytogiemlgjnhidaa
