/- Blocks that are none of a memory's; no condition. -/
import Derived.Test.YtjheocofbfmopaaMemE
namespace Go.Proofs.Ytjheocofbfmopaa.Hand
open Go.RowKit Go.Proofs.YtjheocofbfmopaaW.PrintWords Go.Proofs.YtjheocofbfmopaaW.PrintLast Go.Proofs.YtjheocofbfmopaaW.PrintMore
set_option linter.unusedVariables false
/-- Block k is none of the memory's, nor its log's. -/
structure Far (w : World) (g gw gm k : Nat) : Prop where
  lt : k < w.heap.size
  hg : k ≠ g
  hw : k ≠ gw
  hm : k ≠ gm
  hl : ∃ v, w.cell? ⟨g, 0, none⟩ = some v ∧ v.ownBlock ≠ some k
theorem MF.far {w w' : World} {g gw gm k : Nat} (h : MF w w' g gw gm) (f : Far w g gw gm k) : Far w' g gw gm k ∧ w'.heap[k]? = w.heap[k]? := by
  refine ⟨⟨Nat.lt_of_lt_of_le f.lt h.size, f.hg, f.hw, f.hm, ?_⟩, h.block k f.lt f.hg f.hw f.hm f.hl⟩
  obtain ⟨v, hv, hn⟩ := f.hl
  obtain ⟨v', hv', ho⟩ := h.log v hv
  refine ⟨v', hv', fun e => ?_⟩
  rcases ho with ho | ⟨b, hb, hle⟩
  · exact hn (ho ▸ e)
  · rw [hb] at e
    injection e with e
    have := f.lt
    omega
/-- A block made behind the memory. -/
theorem Is.far {W w' : World} {base g gw gm k : Nat} {s : St} (h : Is W base g gw gm s) (hb : Below W.heap.size W w') (h1 : W.heap.size ≤ k) (h2 : k < w'.heap.size) : Far w' g gw gm k := by
  obtain ⟨vl, cw, cm, h⟩ := h
  have e1 := h.lt
  have e2 := h.wlt
  have e3 := h.mlt
  refine ⟨h2, by omega, by omega, by omega, vl, (hb.cell (p := ⟨g, 0, none⟩) h.lt).trans h.cell.1, fun e => ?_⟩
  have := Kd.R_lt h.lo k e
  omega
end Go.Proofs.Ytjheocofbfmopaa.Hand
