/- ropeladderlaw24.WorkersOnce computes true; the arguments are bytes and a row of bytes. -/
import Derived.Test.YtjheocofbfmopaaWkPre
namespace Go.Proofs.Ytjheocofbfmopaa.Hand
open Go.RowKit Go.Proofs.YtjheocofbfmopaaW.PrintWords Go.Proofs.YtjheocofbfmopaaW.PrintLast Go.Proofs.YtjheocofbfmopaaW.PrintMore
set_option linter.unusedVariables false
set_option linter.unusedSimpArgs false
attribute [local go_sem] max2_int min2_int max_two min_two max_three min_three max_four min_four

theorem info4 : (Try.prog.info? 4).map (fun i => (i.zero, i.size, i.bytes)) = some (some (.bool false), 1, 1) := by kernel_rfl
/-- The two arrays behind k pairs: a task that is marked was met; a worker's last task is -1, or one that it had. -/
structure OnceSt (ps : List (Int × Int)) (k n w : Nat) (met : List Bool) (last : List Int) : Prop where
  lm : met.length = n
  ll : last.length = w
  m : ∀ j : Nat, met.getD j false = true → ∃ p ∈ ps.take k, p.1 = (j : Int)
  l : ∀ j : Nat, j < w → last.getD j 0 = -1 ∨ ∃ p ∈ ps.take k, p.2 = (j : Int) ∧ p.1 = last.getD j 0
theorem once_start (ps : List (Int × Int)) (n w : Nat) : OnceSt ps 0 n w (List.replicate n false) (List.replicate w (-1)) :=
  ⟨by simp, by simp, fun j h => by simp [List.getD_eq_getElem?_getD, List.getElem?_replicate] at h; split at h <;> simp at h, fun j h => by simp [List.getD_eq_getElem?_getD, List.getElem?_replicate, h]⟩
/-- The next pair: its task is new, and later than its worker's last. -/
theorem once_next {x : Ph} {w : Nat} (ho : x.Once w) (k : Nat) (hk : k < x.pairs.length) : 0 ≤ x.pairs[k].1 ∧ x.pairs[k].1 < x.n ∧ 0 ≤ x.pairs[k].2 ∧ x.pairs[k].2 < w ∧ ∀ p ∈ x.pairs.take k, p.1 ≠ x.pairs[k].1 ∧ (p.2 = x.pairs[k].2 → p.1 < x.pairs[k].1) := by
  have h1 := ho.rng _ (List.getElem_mem hk)
  refine ⟨h1.1, h1.2.2.1, h1.2.2.2.1, h1.2.2.2.2, fun p hp => ?_⟩
  obtain ⟨j, hj, rfl⟩ := List.getElem_of_mem hp
  rw [List.length_take] at hj
  rw [List.getElem_take]
  exact (List.pairwise_iff_getElem.1 ho.incr) j k (by omega) hk (by omega)
theorem once_step {ps : List (Int × Int)} {k n w : Nat} {met : List Bool} {last : List Int} (h : OnceSt ps k n w met last) (hk : k < ps.length) {t u : Int} (e : ps[k] = (t, u)) (t0 : 0 ≤ t) (t1 : t < n) (u0 : 0 ≤ u) (u1 : u < w)
    (hp : ∀ p ∈ ps.take k, p.1 ≠ t ∧ (p.2 = u → p.1 < t)) : met.getD t.toNat false = false ∧ last.getD u.toNat 0 < t ∧ OnceSt ps (k + 1) n w (met.set t.toNat true) (last.set u.toNat t) := by
  have htake : ps.take (k + 1) = ps.take k ++ [(t, u)] := by rw [List.take_succ_eq_append_getElem hk, e]
  refine ⟨?_, ?_, by rw [List.length_set]; exact h.lm, by rw [List.length_set]; exact h.ll, fun j hj => ?_, fun j hj => ?_⟩
  · cases hb : met.getD t.toNat false with
    | false => rfl
    | true =>
      obtain ⟨p, h1, h2⟩ := h.m _ hb
      exact absurd (h2.trans (Int.toNat_of_nonneg t0)) (hp p h1).1
  · rcases h.l u.toNat (by omega) with h1 | ⟨p, h1, h2, h3⟩
    · rw [h1]; omega
    · have := (hp p h1).2 (h2.trans (Int.toNat_of_nonneg u0))
      omega
  · rw [htake]
    by_cases e2 : t.toNat = j
    · exact ⟨(t, u), by simp, by simp only; omega⟩
    · rw [List.getD_eq_getElem?_getD, List.getElem?_set_ne e2, ← List.getD_eq_getElem?_getD] at hj
      obtain ⟨p, h1, h2⟩ := h.m j hj
      exact ⟨p, List.mem_append_left _ h1, h2⟩
  · rw [htake]
    by_cases e2 : u.toNat = j
    · right
      refine ⟨(t, u), by simp, by simp only; omega, ?_⟩
      subst e2
      have : u.toNat < last.length := by rw [h.ll]; exact hj
      simp [List.getD_eq_getElem?_getD, this]
    · rw [List.getD_eq_getElem?_getD, List.getElem?_set_ne e2, ← List.getD_eq_getElem?_getD]
      rcases h.l j hj with h1 | ⟨p, h1, h2, h3⟩
      · exact .inl h1
      · exact .inr ⟨p, List.mem_append_left _ h1, h2, h3⟩
theorem fill_succ (w k : Nat) (hk : k < w) : (List.replicate k (-1 : Int) ++ List.replicate (w - k) 0).set k (-1) = List.replicate (k + 1) (-1) ++ List.replicate (w - (k + 1)) 0 := by
  rw [List.set_append_right _ _ (by simp)]
  obtain ⟨m, hm⟩ : ∃ m, w - k = m + 1 := ⟨w - k - 1, by omega⟩
  rw [hm, show w - (k + 1) = m by omega, List.length_replicate, Nat.sub_self, List.replicate_succ, List.set_cons_zero, List.replicate_succ']
  simp
/-- The two rows, and what lay before. -/
structure Two (w4 w' : World) (b n w : Nat) (met : List Bool) (last : List Int) : Prop where
  rm : Kd.R Kd.bool 4 w' w4.heap.size (fun _ => True) (.slice (some ⟨b, 0, none⟩) n n) met
  rl : Kd.R (Kd.int .i64) 3 w' w4.heap.size (fun _ => True) (.slice (some ⟨b + 1, 0, none⟩) w w) last
  bl : Below w4.heap.size w4 w'
  hb : w4.heap.size ≤ b
section
variable {w4 W : World} {b n w : Nat} {met : List Bool} {last : List Int}
theorem set_grown (W : World) (b j : Nat) (u : Value) : W.grownBy (W.setCell ⟨b, j, none⟩ u) (some b) :=
  ⟨rfl, rfl, rfl, by simp [World.setCell], fun k _ hk => Below.heap_setCell W ⟨b, j, none⟩ u k (fun e => hk (by rw [e]))⟩
theorem Two.setL (h : Two w4 W b n w met last) (i : Nat) (u : Int) : Two w4 (W.setCell ⟨b + 1, i, none⟩ (.int .i64 u)) b n w met (last.set i u) := by
  have h1 := (Kd.R_putg h.rl (i : Int) u).1
  rw [Int.toNat_natCast] at h1
  exact ⟨Kd.R_grown1 h.rm (by rfl) (set_grown _ _ _ _) (by simp [Value.ownBlock]), h1, below_set h.bl (by have := h.hb; omega), h.hb⟩
theorem Two.setM (h : Two w4 W b n w met last) (i : Nat) (u : Bool) : Two w4 (W.setCell ⟨b, i, none⟩ (.bool u)) b n w (met.set i u) last := by
  have h1 := (Kd.R_putg h.rm (i : Int) u).1
  rw [Int.toNat_natCast] at h1
  exact ⟨h1, Kd.R_grown1 h.rl (by rfl) (set_grown _ _ _ _) (by simp [Value.ownBlock]), below_set h.bl h.hb, h.hb⟩
theorem Two.cells (h : Two w4 W b n w met last) : (∀ i : Nat, i < n → W.cell? ⟨b, i, none⟩ = some (.bool (met.getD i false)) ∧ W.frozen? ⟨b, i, none⟩ = false) ∧ ∀ i : Nat, i < w → W.cell? ⟨b + 1, i, none⟩ = some (.int .i64 (last.getD i 0)) ∧ W.frozen? ⟨b + 1, i, none⟩ = false := by
  refine ⟨fun i hi => ?_, fun i hi => ?_⟩
  · have := Kd.R_celln false h.rm (i : Int) (by omega) (by omega)
    rw [Int.toNat_natCast] at this
    simpa [rdOf] using this
  · have := Kd.R_celln 0 h.rl (i : Int) (by omega) (by omega)
    rw [Int.toNat_natCast] at this
    simpa [rdOf] using this
end
set_option maxHeartbeats 4000000 in
theorem once_long (t c : Int) (A : Option Addr) (m cc : Nat) (W : World) (h300 : (300 : Int) < m) (hm : m ≤ 140737488351232) :
    Calls Try.prog 3 #[.int .u8 t, .int .u8 c, .slice A m cc] W fun e w' => e = .returned (.bool true) ∧ Below W.heap.size W w' := by
  have d1 : decide ((300 : Int) < m) = true := decide_eq_true h300
  go_enter Try.func3, Try.ntmps3
  go_wp2_with (first | (go_at_call 7; (with_reducible refine (head_calls W).mono ?_); rintro e w1 ⟨rfl, hb⟩; have B1 := Aside0.mk hb; clear hb))
  go_ret
  exact ⟨rfl, B1.out⟩
set_option maxHeartbeats 16000000 in
set_option maxRecDepth 100000 in
theorem once_walk (t c : Int) (A : Option Addr) (m cc : Nat) (l : List Int) (W : World) (ht : 0 ≤ t ∧ t ≤ 255) (hc : 0 ≤ c ∧ c ≤ 255) (hl : IsBytes W A m l) :
    Calls Try.prog 3 #[.int .u8 t, .int .u8 c, .slice A m cc] W fun e w' => e = .returned (.bool true) ∧ Below W.heap.size W w' := by
  by_cases h300 : (300 : Int) < m
  · exact once_long t c A m cc W h300 hl.max
  · obtain ⟨n, hn⟩ : ∃ n : Nat, (n : Int) = t % 10 := ⟨(t % 10).toNat, by omega⟩
    obtain ⟨w, hw⟩ : ∃ w : Nat, (w : Int) = c % 6 + 1 := ⟨(c % 6 + 1).toNat, by omega⟩
    have hs : Sz t c n w := ⟨ht.1, ht.2, hc.1, hc.2, hn, hw⟩
    obtain ⟨b0, b1, b2, b3⟩ := hs.bd
    have hpk := pk_map hl b2
    obtain ⟨ps, hps⟩ : ∃ ps, l.map (· % (w : Int)) = ps := ⟨_, rfl⟩
    rw [hps] at hpk
    obtain ⟨N, hN, hz0, hNlt⟩ := finish_ends n w ps b0 b2 hpk.rng
    have hNm : N ≤ 80000 := by
      have e1 : (2 * (n : Int) + 3 * w + 1) * (w : Int) ≤ 100 * 6 := Int.mul_le_mul (by omega) (by omega) (by omega) (by omega)
      rw [hpk.len] at hN
      omega
    have hf := pickAt_lt b2 hpk.rng
    have hi := (steps_inv (inv0 (n : Int) w b0) hf N)
    have hon := steps_once (inv0 (n : Int) w b0) (once0 n w) hf N
    have hlen := ended_all hi.1 b2 hz0
    rw [hi.2.2] at hlen
    have hnx0 : ∀ pf : List (Int × Int), ((ph0 n w).steps (pickAt ps w) N).pairs = pf → ∀ (k : Nat) (hk : k < pf.length), 0 ≤ pf[k].1 ∧ pf[k].1 < (n : Int) ∧ 0 ≤ pf[k].2 ∧ pf[k].2 < w ∧ ∀ p ∈ pf.take k, p.1 ≠ pf[k].1 ∧ (p.2 = pf[k].2 → p.1 < pf[k].1) := by
      rintro _ rfl k hk
      have := once_next hon k hk
      rw [hi.2.2] at this
      exact this
    obtain ⟨pf, hpf⟩ : ∃ pb, ((ph0 n w).steps (pickAt ps w) N).pairs = pb := ⟨_, rfl⟩
    have hnx := hnx0 pf hpf
    rw [hpf] at hlen
    have hqf : pf.length = n := by have : (ph0 (n : Int) w).n = (n : Int) := rfl; omega
    obtain ⟨CA, hA, hRA⟩ := make_run Kd.bool 31 4 (.bool false) 1 false Try.underlying31 info4 rfl (by decide) (by omega) (fun _ _ => rfl) n (by omega)
    obtain ⟨CB, hB, hRB⟩ := make_run (Kd.int .i64) 29 3 (.int .i64 0) 8 0 Try.underlying29 info3 rfl (by decide) (by omega) (fun _ _ => rfl) w (by omega)
    have HRA := Aside0.mk hRA
    have HRB := Aside0.mk hRB
    have HNX := Aside0.mk hnx
    have HS := Aside0.mk hs
    have HL := Aside0.mk hl
    have HW := Aside0.mk b2
    have HW1 := Aside0.mk (show w ≤ 64 by omega)
    have HM3 := Aside0.mk (show m ≤ 300 by omega)
    have HMM := Aside0.mk (show m ≤ 20000 by omega)
    have HPS := Aside0.mk hps
    have HPK := Aside0.mk hpk
    have HPF := Aside0.mk hpf
    have HQF := Aside0.mk hqf
    have HNM := Aside0.mk hNm
    have HZ0 := Aside0.mk hz0
    have HNL := Aside0.mk hNlt
    have d1 : decide ((300 : Int) < m) = false := decide_eq_false h300
    have hm3 : (m : Int) ≤ 300 := by omega
    have hn9 : n ≤ 9 := by omega
    have hw6 : w ≤ 6 := by omega
    clear hs hl hpk hpf hqf hi hon hnx hnx0 hlen h300 ht hc hn hw hps hNm hz0 hNlt hf hN hRA hRB b0 b1 b3
    go_enter Try.func3, Try.ntmps3
    go_wp2_with (first | (go_at_call 7; (with_reducible refine (head_calls W).mono ?_); rintro e w1 ⟨rfl, hb⟩; have B1 := Aside0.mk hb; clear hb) | (go_at_call 8; (with_reducible refine (sizesM HS.out _).mono ?_); rintro e w1 ⟨rfl, rfl⟩) | (go_at_call 10; (with_reducible refine (picksM A cc m l w _ (HL.out.below B1.out) HW.out HW1.out HM3.out).mono ?_); rintro e w2 ⟨A2, c2, rfl, hc2, hC2, hb2⟩; have HC2 := Aside0.mk hC2; have B2 := Aside0.mk hb2; clear hC2 hb2) | (go_at_call 9; (with_reducible refine (finM HS.out HPK.out HMM.out A2 c2 w2 _ (by rw [← HPS.out]; exact HC2.out) (Below.refl _ _) HPF.out HQF.out HNM.out HZ0.out HNL.out).mono ?_); rintro e w4 ⟨A4, k4, rfl, hk4, hC4, hb4⟩; have HC4 := Aside0.mk hC4; have B4 := Aside0.mk hb4; clear hC4 hb4))
    have h2 : Two w4 ((w4.alloc (.cells CA 4)).alloc (.cells CB 3)) w4.heap.size n w (List.replicate n false) (List.replicate w 0) :=
      ⟨Kd.R_alloc (HRA.out w4 w4.heap.size (Nat.le_refl _)) _, by have := HRB.out (w4.alloc (.cells CA 4)) w4.heap.size (by simp); rwa [show (w4.alloc (.cells CA 4)).heap.size = w4.heap.size + 1 by simp] at this, below_alloc (below_alloc (Below.refl _ _) _) _, Nat.le_refl _⟩
    have H2 := Aside0.mk h2
    have B0 := Aside0.mk (Below.then B1.out (Below.then B2.out B4.out))
    obtain ⟨b, hb⟩ : ∃ b, w4.heap.size = b := ⟨_, rfl⟩
    obtain ⟨w5, hw5⟩ : ∃ w5, (w4.alloc (.cells CA 4)).alloc (.cells CB 3) = w5 := ⟨_, rfl⟩
    have H3 := Aside0.mk (show Two w4 w5 b n w (List.replicate n false) (List.replicate w 0) by rw [← hw5, ← hb]; exact H2.out)
    simp only [hw5, hb]
    clear h2 H2 hb hw5 hA hB HRA HRB HC2 B1 B2 B4
    go_loopw [14] (fun i w' => ∃ k : Nat, k ≤ w ∧ i = .int .i64 k ∧ Aside0 (Two w4 w' b n w (List.replicate n false) (List.replicate k (-1) ++ List.replicate (w - k) 0))) (fun i _ => w - (intOf i).toNat)
    case atStart => exact ⟨0, Nat.zero_le _, rfl, by simpa using H3⟩
    case round =>
      clear H3
      obtain ⟨k, hk, rfl, HT⟩ := hrel
      by_cases hlt : k < w
      · obtain ⟨cl, fl⟩ := HT.out.cells.2 k hlt
        go_wp2_with (fail)
        go_roundw
        case rel => exact ⟨k + 1, by omega, by go_num, ⟨by have := HT.out.setL k (-1); rwa [fill_succ w k hlt] at this⟩⟩
        case measure => simp [intOf]; omega
      · obtain rfl : k = w := by omega
        have HT2 := Aside0.mk (show Two w4 wr b n k (List.replicate n false) (List.replicate k (-1)) by have := HT.out; simpa using this)
        clear HT hk hlt
        go_wp2_with (fail)
        go_loopw [15] (fun i w' => ∃ j : Nat, j ≤ n ∧ i = .int .i64 j ∧ ∃ met last, Aside0 (Two w4 w' b n k met last) ∧ Aside0 (OnceSt pf j n k met last)) (fun i _ => n - (intOf i).toNat)
        case atStart => exact ⟨0, Nat.zero_le _, rfl, _, _, HT2, ⟨once_start pf n k⟩⟩
        case round =>
          clear HT2
          obtain ⟨j, hj, rfl, met, last, HT, HO⟩ := hrel
          by_cases hlt : j < n
          · have hjl : j < pf.length := by rw [HQF.out]; exact hlt
            obtain ⟨t0, t1, u0, u1, hp⟩ := HNX.out j hjl
            obtain ⟨x, hx⟩ : ∃ x, pf[j] = x := ⟨_, rfl⟩
            obtain ⟨ad, e2, a0, a1⟩ := rowP_cells (by rw [HQF.out]; exact Kd.C_below HC4.out HT.out.bl) j hjl hx
            cases e2
            rw [hx] at t0 t1 u0 u1 hp
            obtain ⟨t, u⟩ := x
            simp only at t0 t1 u0 u1 hp a0 a1
            obtain ⟨s1, s2, s3⟩ := once_step HO.out hjl hx t0 t1 u0 u1 hp
            obtain ⟨tn, rfl⟩ : ∃ tn : Nat, t = tn := ⟨t.toNat, by omega⟩
            obtain ⟨un, rfl⟩ : ∃ un : Nat, u = un := ⟨u.toNat, by omega⟩
            rw [Int.toNat_natCast] at s1 s2 s3
            rw [Int.toNat_natCast] at s3
            have tl : tn < n := by have : (ph0 (n : Int) k).n = (n : Int) := rfl; omega
            have ul : un < k := by omega
            obtain ⟨cm, fm⟩ := HT.out.cells.1 tn tl
            obtain ⟨cl, fl⟩ := HT.out.cells.2 un ul
            rw [s1] at cm
            obtain ⟨z, hz⟩ : ∃ z, last.getD un 0 = z := ⟨_, rfl⟩
            rw [hz] at cl s2
            have g1 : decide ((tn : Int) < 0) = false := decide_eq_false (by omega)
            have g2 : decide ((n : Int) ≤ tn) = false := decide_eq_false (by omega)
            have g3 : decide ((un : Int) < 0) = false := decide_eq_false (by omega)
            have g4 : decide ((k : Int) ≤ un) = false := decide_eq_false (by omega)
            have g5 : decide ((tn : Int) ≤ z) = false := decide_eq_false (by omega)
            have g6 : decide (n ≤ tn) = false := decide_eq_false (by omega)
            have g7 : decide (k ≤ un) = false := decide_eq_false (by omega)
            have HS3 := Aside0.mk s3
            have HT3 := Aside0.mk ((HT.out.setM tn true).setL un tn)
            have nb : ¬ b = b + 1 := by omega
            have nb2 : ¬ b + 1 = b := by omega
            clear s1 s2 s3 hp hx hz t0 t1 u0 u1 hjl
            go_wp2_with (fail)
            go_roundw
            case rel => exact ⟨j + 1, by omega, by go_num, _, _, HT3, HS3⟩
            case measure => simp [intOf]; omega
          · obtain rfl : j = n := by omega
            go_wp2_with (fail)
            go_ret
            exact ⟨rfl, Below.then B0.out HT.out.bl⟩
end Go.Proofs.Ytjheocofbfmopaa.Hand
