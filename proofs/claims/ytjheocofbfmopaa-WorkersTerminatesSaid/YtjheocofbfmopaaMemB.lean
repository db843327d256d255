/- shmem: a memory as a state, its operations as plain functions, and that the calls compute them; the conditions: the sizes are at most 256, the log and the violations at most 1000000. -/
import Derived.Test.YtjheocofbfmopaaMemA
import Derived.Deep.RegionWith
import Derived.Lib.SliceRun
import Derived.Test.YtjheocofbfmopaaWEqStruct
namespace Go.Proofs.Ytjheocofbfmopaa.Hand
open Go.RowKit Go.Proofs.YtjheocofbfmopaaW.PrintWords Go.Proofs.YtjheocofbfmopaaW.PrintLast Go.Proofs.YtjheocofbfmopaaW.PrintMore
set_option linter.unusedVariables false
attribute [local go_sem] max2_int min2_int max_two min_two max_three min_three max_four min_four

structure St where
  log : List Acc
  V : Int
  ws : List Int
  ms : List Mut
def St.fit (s : St) : Prop := s.ws.length ≤ 256 ∧ s.ms.length ≤ 256 ∧ s.log.length ≤ 1000000 ∧ 0 ≤ s.V ∧ s.V ≤ 1000000
abbrev inL {α : Type} (l : List α) (i : Int) : Prop := 0 ≤ i ∧ i < l.length
def rdM (l : List Mut) (i : Int) : Mut := l.getD i.toNat ⟨false, 0⟩
def St.upd (s : St) (th kd i a : Int) (ok : Bool) : St := { s with log := s.log ++ [⟨th, kd, i, rd s.ws i, a, ok⟩], ws := s.ws.set i.toNat a }
def St.load (s : St) (th i : Int) : St × Int := if inL s.ws i then (s.upd th 1 i (rd s.ws i) true, rd s.ws i) else (s, 0)
def St.store (s : St) (th i v : Int) : St := if inL s.ws i then s.upd th 4 i v true else s
def St.add (s : St) (th i d : Int) : St × Int := if inL s.ws i then (s.upd th 2 i (wrap64 (rd s.ws i + d)) true, wrap64 (rd s.ws i + d)) else (s, 0)
def St.cas (s : St) (th i old new : Int) : St × Bool :=
  if inL s.ws i then (if rd s.ws i = old then (s.upd th 3 i new true, true) else (s.upd th 3 i (rd s.ws i) false, false)) else (s, false)
def bit (b : Bool) : Int := if b then 1 else 0
def St.tryLock (s : St) (th i : Int) : St × Bool :=
  if inL s.ms i then
    (if (rdM s.ms i).held then ({ s with log := s.log ++ [⟨th, 5, i, 1, 1, false⟩] }, false) else ({ s with log := s.log ++ [⟨th, 5, i, 0, 1, true⟩], ms := s.ms.set i.toNat ⟨true, th⟩ }, true))
  else (s, false)
def St.unlock (s : St) (th i : Int) : St × Bool :=
  if inL s.ms i then
    (if (rdM s.ms i).held = true ∧ (rdM s.ms i).th = th then ({ s with log := s.log ++ [⟨th, 6, i, 1, 0, true⟩], ms := s.ms.set i.toNat ⟨false, 0⟩ }, true)
     else ({ s with log := s.log ++ [⟨th, 6, i, bit (rdM s.ms i).held, bit (rdM s.ms i).held, false⟩], V := s.V + 1 }, false))
  else (s, false)
def St.touch (s : St) (th i : Int) : St × Bool :=
  if inL s.ms i ∧ (rdM s.ms i).held = true ∧ (rdM s.ms i).th = th then (s, true) else ({ s with V := s.V + 1 }, false)
def St.word (s : St) (i : Int) : Int := if inL s.ws i then rd s.ws i else 0
def St.holder (s : St) (i : Int) : Int := if inL s.ms i ∧ (rdM s.ms i).held = true then (rdM s.ms i).th else -1
def Is (W : World) (base g gw gm : Nat) (s : St) : Prop := IsMem W base g gw gm s.log s.V s.ws s.ms

/-- What every operation leaves. -/
structure Left (W W' : World) (base g gw gm : Nat) (s : St) : Prop where
  is : Is W' base g gw gm s
  mf : MF W W' g gw gm
  bl : Below base W W'

section
variable {W : World} {base g gw gm : Nat} {s : St}
theorem Is.bs (h : Is W base g gw gm s) : base ≤ W.heap.size := by
  obtain ⟨_, _, _, h⟩ := h
  exact Nat.le_trans h.hg (Nat.le_of_lt h.lt)
theorem Is.lt (h : Is W base g gw gm s) : g < W.heap.size := by
  obtain ⟨_, _, _, h⟩ := h
  exact h.lt
theorem Is.left {W' : World} (h : Is W base g gw gm s) (hb : Below W.heap.size W W') : Left W W' base g gw gm s := ⟨IsMem.below h hb, MF.below h.lt hb, hb.mono h.bs⟩
theorem Is.here (h : Is W base g gw gm s) : Left W W base g gw gm s := ⟨h, MF.refl _ _ _ _, Below.refl _ _⟩
theorem Left.trans {A B C : World} {s t : St} (h : Left A B base g gw gm s) (k : Left B C base g gw gm t) : Left A C base g gw gm t := ⟨k.is, h.mf.trans k.mf, h.bl.trans k.bl⟩
end
end Go.Proofs.Ytjheocofbfmopaa.Hand
