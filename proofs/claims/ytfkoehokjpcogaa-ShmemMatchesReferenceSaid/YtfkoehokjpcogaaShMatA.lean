/- ropeladderlaw01.ShmemMatchesReference computes true; the argument is a row of Raw. -/
import Derived.Test.YtfkoehokjpcogaaRefH
import Derived.Test.YtfkoehokjpcogaaShReplay
namespace Go.Proofs.Ytfkoehokjpcogaa.Hand
open Go.RowKit Go.Proofs.YtfkoehokjpcogaaW.PrintWords Go.Proofs.YtfkoehokjpcogaaW.PrintLast Go.Proofs.YtfkoehokjpcogaaW.PrintMore
set_option linter.unusedVariables false
set_option linter.unusedSimpArgs false
attribute [local go_sem] max2_int min2_int max_two min_two max_three min_three max_four min_four

theorem runs_ok (l : List Raw) (hl : ∀ k (h : k < l.length), l[k].ok) : ∀ k, k ≤ l.length → ((sz 4 4).runs (l.take k)).Ok
  | 0, _ => by
    intro i hi hd
    simp [St.runs, sz] at hi
    have e : i = 0 ∨ i = 1 ∨ i = 2 ∨ i = 3 := by omega
    rcases e with rfl | rfl | rfl | rfl <;> simp [St.runs, sz, rdM] at hd
  | k + 1, h => by
    rw [runs_succ _ _ _ h]
    refine run1_ok (runs_ok l hl k (by omega)) ?_
    have h1 := (hl k h).t0
    simp only [opOf]
    omega
section
variable {w : World} {base g gw gm rb rw rm : Nat} {s : St}
theorem logJ (h : Jt w base g gw gm rb rw rm s s) (hf : s.fit) :
    Calls Try.prog 18 #[.pointer (some ⟨g, 0, none⟩)] w fun e w' => ∃ A c, e = .returned (.slice A s.log.length c) ∧ Kd.C kA w' A s.log.length s.log ∧ Jt w' base g gw gm rb rw rm s s ∧ Below w.heap.size w w' := by
  refine (log_calls h.is hf).mono ?_
  rintro e w' ⟨v, rfl, hv, hb⟩
  obtain ⟨A, c, rfl, _, hC⟩ := Kd.R_reads hv
  exact ⟨A, c, rfl, hC, h.below hb, hb⟩
theorem Jt.log (h : Jt w base g gw gm rb rw rm s s) : ∃ A c, w.cell? ⟨rb, 2, none⟩ = some (.slice A s.log.length c) ∧ w.cell? ⟨rb, 3, none⟩ = some (.int .i64 s.V) ∧ Kd.C kA w A s.log.length s.log ∧ rb < w.heap.size ∧ ∀ w', Below w.heap.size w w' → Kd.C kA w' A s.log.length s.log := by
  obtain ⟨vl, cw, cm, hB⟩ := h.rf
  obtain ⟨A, c, rfl, _, hC⟩ := Kd.R_reads hB.lo
  exact ⟨A, c, hB.cell.2.2.1, hB.cell.2.2.2, hC, hB.lt, fun w' hb => Kd.C_below hC hb⟩
/-- What the second loop reads: the words and the holders, in both memories. -/
theorem Jt.reads (h : Jt w base g gw gm rb rw rm s s) {n : Nat} (hi : s.In n) (k : Nat) (hk : k < 4) : ∃ cw cm v u, w.cell? ⟨rb, 0, none⟩ = some (.slice (some ⟨rw, 0, none⟩) 4 cw) ∧ w.cell? ⟨rb, 1, none⟩ = some (.slice (some ⟨rm, 0, none⟩) 4 cm) ∧
    w.cell? ⟨rw, k, none⟩ = some (.int .i64 v) ∧ w.cell? ⟨rm, k, none⟩ = some (.int .i64 u) ∧ s.word k = v ∧ s.holder k = u := by
  obtain ⟨vl, cw, cm, hB⟩ := h.rf
  obtain ⟨e0, e1, _, _⟩ := hB.cell
  rw [hi.w] at e0
  rw [holds_len, hi.m] at e1
  obtain ⟨hx0, _⟩ := Kd.R_celln 0 hB.words (k : Int) (by omega) (by rw [hi.w]; omega)
  obtain ⟨hy0, _⟩ := Kd.R_celln 0 hB.hold (k : Int) (by omega) (by rw [holds_len, hi.m]; omega)
  have hx : w.cell? ⟨rw, (k : Int).toNat, none⟩ = some (.int .i64 (rd s.ws k)) := hx0
  have hy : w.cell? ⟨rm, (k : Int).toNat, none⟩ = some (.int .i64 (rd (holdsOf s.ms) k)) := hy0
  rw [Int.toNat_natCast] at hx hy
  refine ⟨cw, cm, _, _, e0, e1, hx, hy, ?_, ?_⟩
  · unfold St.word
    rw [if_pos (by rw [inL, hi.w]; omega)]
  · rw [rd_holds (by omega) (by rw [hi.m]; omega)]
    unfold St.holder holdOf
    by_cases hh : (rdM s.ms k).held = true
    · rw [if_pos ⟨by rw [inL, hi.m]; omega, hh⟩, if_pos hh]
    · rw [if_neg (fun q => hh q.2), if_neg hh]
theorem viol_callsN {W : World} (h : Is W base g gw gm s) (hf : s.fit) (n : Nat) :
    Calls Try.prog 19 #[.pointer (some ⟨g, 0, none⟩)] (W.drewN n) fun e w' => e = .returned (.int .i64 s.V) ∧ w' = W.drewN n := violations_calls (h.left (pw_below_drewN (Below.refl _ _) n)).is hf
end
set_option maxHeartbeats 4000000 in
theorem match_long (A : Option Addr) (n c : Nat) (a b : Int) (W : World) (h200 : (200 : Int) < n) (hn : n ≤ 9223372036854775807) :
    Calls Try.prog 3 #[.int .i64 a, .int .i64 b, .slice A n c] W fun e w' => e = .returned (.bool true) ∧ Below W.heap.size W w' := by
  have d1 : decide ((200 : Int) < n) = true := decide_eq_true h200
  go_enter Try.func3, Try.ntmps3
  go_wp2_with (first | (go_at_call 9; (with_reducible refine (head_calls W).mono ?_); rintro e w1 ⟨rfl, hb⟩; have B1 := Aside0.mk hb; clear hb))
  go_ret
  exact ⟨rfl, B1.out⟩
end Go.Proofs.Ytfkoehokjpcogaa.Hand
