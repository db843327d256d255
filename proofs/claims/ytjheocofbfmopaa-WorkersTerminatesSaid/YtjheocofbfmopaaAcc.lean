/- The two structs of package shmem as kinds of values: an access of the log, a mutex; no condition. -/
import Derived.Test.YtjheocofbfmopaaWWords
import Derived.Test.YtjheocofbfmopaaWLast
import Derived.Test.YtjheocofbfmopaaWMore
namespace Go.Proofs.Ytjheocofbfmopaa.Hand
open Go.RowKit Go.Proofs.YtjheocofbfmopaaW.PrintWords Go.Proofs.YtjheocofbfmopaaW.PrintLast Go.Proofs.YtjheocofbfmopaaW.PrintMore

/-- An access: thread, kind, index, old, new, ok. -/
structure Acc where
  th : Int
  kd : Int
  ix : Int
  old : Int
  new : Int
  ok : Bool
def Acc.cells (x : Acc) : List Value := [.int .i64 x.th, .int .i64 x.kd, .int .i64 x.ix, .int .i64 x.old, .int .i64 x.new, .bool x.ok]
def Acc.zero : Acc := ⟨0, 0, 0, 0, 0, false⟩
def kA : Kd Acc := Kd.iso (Kd.pair (Kd.int .i64) (Kd.pair (Kd.int .i64) (Kd.pair (Kd.int .i64) (Kd.pair (Kd.int .i64) (Kd.pair (Kd.int .i64) Kd.bool))))) (fun x : Acc => (x.th, x.kd, x.ix, x.old, x.new, x.ok))
theorem kA_open {w : World} {x : Acc} {cs : List Value} (h : kA.K w x cs) : cs = x.cells := by
  obtain ⟨_, _, rfl, rfl, ⟨_, _, rfl, rfl, ⟨_, _, rfl, rfl, ⟨_, _, rfl, rfl, ⟨_, _, rfl, rfl, rfl⟩⟩⟩⟩⟩ := h
  exact rfl
theorem kA_mk (w : World) (x : Acc) : kA.K w x x.cells :=
  ⟨[.int .i64 x.th], [.int .i64 x.kd, .int .i64 x.ix, .int .i64 x.old, .int .i64 x.new, .bool x.ok], rfl, rfl, ⟨[.int .i64 x.kd], [.int .i64 x.ix, .int .i64 x.old, .int .i64 x.new, .bool x.ok], rfl, rfl, ⟨[.int .i64 x.ix], [.int .i64 x.old, .int .i64 x.new, .bool x.ok], rfl, rfl, ⟨[.int .i64 x.old], [.int .i64 x.new, .bool x.ok], rfl, rfl, ⟨[.int .i64 x.new], [.bool x.ok], rfl, rfl, rfl⟩⟩⟩⟩⟩
theorem kA_mkM (w : World) (base : Nat) (ok : Nat → Prop) (x : Acc) : kA.M w base ok x x.cells :=
  ⟨[.int .i64 x.th], [.int .i64 x.kd, .int .i64 x.ix, .int .i64 x.old, .int .i64 x.new, .bool x.ok], rfl, rfl, ⟨[.int .i64 x.kd], [.int .i64 x.ix, .int .i64 x.old, .int .i64 x.new, .bool x.ok], rfl, rfl, ⟨[.int .i64 x.ix], [.int .i64 x.old, .int .i64 x.new, .bool x.ok], rfl, rfl, ⟨[.int .i64 x.old], [.int .i64 x.new, .bool x.ok], rfl, rfl, ⟨[.int .i64 x.new], [.bool x.ok], rfl, rfl, rfl⟩⟩⟩⟩⟩
/-- A mutex: whether it is held, and by which thread. -/
structure Mut where
  held : Bool
  th : Int
def Mut.cells (x : Mut) : List Value := [.bool x.held, .int .i64 x.th]
def kM : Kd Mut := Kd.iso (Kd.pair Kd.bool (Kd.int .i64)) (fun x : Mut => (x.held, x.th))
theorem kM_open {w : World} {x : Mut} {cs : List Value} (h : kM.K w x cs) : cs = x.cells := by
  obtain ⟨_, _, rfl, rfl, rfl⟩ := h
  exact rfl
theorem kM_openM {w : World} {base : Nat} {ok : Nat → Prop} {x : Mut} {cs : List Value} (h : kM.M w base ok x cs) : cs = x.cells := by
  obtain ⟨_, _, rfl, rfl, rfl⟩ := h
  exact rfl
theorem kM_mkM (w : World) (base : Nat) (ok : Nat → Prop) (x : Mut) : kM.M w base ok x x.cells := ⟨[.bool x.held], [.int .i64 x.th], rfl, rfl, rfl⟩
end Go.Proofs.Ytjheocofbfmopaa.Hand
