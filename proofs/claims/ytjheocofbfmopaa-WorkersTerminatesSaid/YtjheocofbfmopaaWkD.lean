/- workers: start, valid, Run, Finish, Bound compute the phase's plain functions; at most 64 tasks and workers, at most 80000 picks. -/
import Derived.Test.YtjheocofbfmopaaWkC
namespace Go.Proofs.Ytjheocofbfmopaa.Hand
open Go.RowKit Go.Proofs.YtjheocofbfmopaaW.PrintWords Go.Proofs.YtjheocofbfmopaaW.PrintLast Go.Proofs.YtjheocofbfmopaaW.PrintMore
set_option linter.unusedVariables false
set_option linter.unusedSimpArgs false
attribute [local go_sem] max2_int min2_int max_two min_two max_three min_three max_four min_four
attribute [local go_sem] st_func st_nilF

section
variable {W W' : World} {base g gw gm gp gn L : Nat} {vp : Value} {x : Ph}
theorem pick_calls (h : Pool W base g gw gm gp gn vp L x) {w : Nat} (hi : x.Inv w) (hL : L ≤ 90000) (k : Nat) (hk : k < w) (hw : w ≤ 64) (hn : x.n ≤ 64) (hp : x.picks ≤ 100000) :
    Calls Try.prog 19 #[.pointer (some ⟨gp, 0, none⟩), .int .i64 k] W fun e w' => e = .returned (.tuple #[]) ∧ Picked W w' base g gw gm gp gn (L + 1) (x.pick k) := by
  have hk' : k < x.st.length := by rw [hi.len]; exact hk
  have hs : x.st.length ≤ 64 := by rw [hi.len]; exact hw
  have hp0 := hi.p0
  have e1 := hi.cp
  have e2 := hi.a
  have e3 := List.countP_le_length (p := Stp.past) (l := x.st)
  have e4 := List.countP_le_length (p := Stp.isDone) (l := x.st)
  have e5 := hi.left
  have e6 := hi.held
  unfold Ph.pick
  rw [getD_of hk']
  cases e : x.st[k] with
  | claim =>
    simp only
    by_cases hc : x.c + 1 ≤ x.n
    · rw [if_pos hc]
      exact pick_claim_yes h hL k hk' e hs hp0 hp hi.c0 (by omega) hc
    · rw [if_neg hc]
      exact pick_claim_no h hL k hk' e hs hp0 hp hi.c0 (by omega) hc
  | work t => exact pick_work t h hL k hk' e hs hp0 hp (by omega)
  | arrive => exact pick_arrive h hL k hk' e hs hp0 hp (by omega) (by omega)
  | wait =>
    simp only
    by_cases hc : x.a = x.st.length
    · rw [if_pos hc]
      exact pick_wait_yes h hL k hk' e hs hp0 hp hc (by rw [hi.len] at e4; omega) (by omega)
    · rw [if_neg hc]
      have h2 := pick_wait_no h hL k hk' e hs hp0 hp hc
      have e7 : x.st.set k Stp.wait = x.st := by rw [← e]; exact List.set_getElem_self hk'
      rw [e7] at h2
      exact h2
  | done => exact pick_done h hL k hk' e hs hp0 hp
theorem Far.under {log : List Acc} {c a : Int} {k b : Nat} (h : Is W b g gw gm ⟨log, 0, [c, a], []⟩) (hk : k < b) (hlt : k < W.heap.size) : Far W g gw gm k := by
  obtain ⟨vl, cw, cm, hB⟩ := h
  have h1 := hB.hg
  have h2 := hB.wlt.1
  have h3 := hB.mlt.1
  exact ⟨hlt, by omega, by omega, by omega, vl, hB.cell.1, fun e => by have := Kd.R_base hB.lo k e; omega⟩
end
theorem infoStep : (Try.prog.info? TStep).map (fun i => (i.zero, i.size, i.bytes)) = some (some .nilFunc, 1, 8) := by kernel_rfl
theorem make_steps (n : Nat) (hn : n ≤ 64) : ∃ C : Array Value, C.size = n ∧ (∀ i, i < n → C[i]? = some .nilFunc) ∧ ∀ w, (Instr.makeSlice 50 (.int .i64 n) (.int .i64 n)).run Try.prog w = .ok (.slice (some ⟨w.heap.size, 0, none⟩) n n) (w.alloc (.cells C TStep)) := by
  obtain ⟨i0, hi, hzz⟩ := Option.map_eq_some_iff.1 infoStep
  simp only [Prod.mk.injEq] at hzz
  obtain ⟨hz0, hz1, hz2⟩ := hzz
  refine ⟨madeCells (Value.cells .nilFunc) (n * 1), by rw [size_madeCells, Nat.mul_one], fun i hi => ?_, fun w => ?_⟩
  · simp [madeCells, Value.cells, hi, Nat.mod_one]
  · have hr := run_make (P := Try.prog) w 50 TStep i0 .nilFunc Try.underlying50 hi hz0 .i64 .i64 (n : Int) (n : Int) (by omega) (by omega)
      (by rw [hz2]; omega) (by omega)
    simp only [Int.toNat_natCast] at hr
    rw [hz1] at hr
    exact hr
/-- A phase whose first k workers have their first step. -/
def phK (n : Int) (w k : Nat) : Ph := ⟨n, 0, 0, List.replicate k .claim ++ List.replicate (w - k) .done, [], w, 0⟩
theorem phK_set (n : Int) (w k : Nat) (hk : k < w) : { phK n w k with st := (phK n w k).st.set k .claim } = phK n w (k + 1) := by
  unfold phK
  simp only
  congr 1
  rw [List.set_append_right _ _ (by simp)]
  obtain ⟨m, hm⟩ : ∃ m, w - k = m + 1 := ⟨w - k - 1, by omega⟩
  rw [hm, show w - (k + 1) = m by omega, List.length_replicate, Nat.sub_self, List.replicate_succ, List.set_cons_zero, List.replicate_succ']
  simp
theorem mkPool {W : World} {base g gw gm gp gn : Nat} {C : Array Value} {n : Int} {w : Nat} (hC : C.size = w) (hz : ∀ i, i < w → C[i]? = some .nilFunc) (hi : Is W base g gw gm ⟨[], 0, [0, 0], []⟩)
    (hb : W.heap[gp]? = some (.cells #[.pointer (some ⟨g, 0, none⟩), .int .i64 n, .slice (some ⟨gn, 0, none⟩) w w, .slice none 0 0, .int .i64 w, .int .i64 0] TPool (0, 0))) (hn : W.heap[gn]? = some (.cells C TStep (0, 0))) (f1 : Far W g gw gm gp) (f2 : Far W g gw gm gn) (b1 : base ≤ gp) (b2 : base ≤ gn) :
    Pool W base g gw gm gp gn (.slice none 0 0) 0 (phK n w 0) := by
  refine ⟨⟨[], Nat.le_refl _, hi⟩, ?_, Kd.R_nil _ _ _ _ _, ⟨C, hn, by simp [phK, hC], fun i hi => ⟨_, hz i (by simpa [phK] using hi), ?_⟩⟩, f1, f2, fun k hk => by simp [Value.ownBlock] at hk, b1, b2⟩
  · simpa [phK] using hb
  · simp [phK]
    rfl
theorem new20 (W : World) : Calls Try.prog 26 #[.int .i64 2, .int .i64 0] W fun e w' => ∃ g gw gm, e = .returned (.pointer (some ⟨g, 0, none⟩)) ∧ Is w' W.heap.size g gw gm ⟨[], 0, [0, 0], []⟩ ∧ Below W.heap.size W w' := new_calls 2 0 W (by decide) (by decide)
def Started (W w' : World) (n : Int) (w k : Nat) (v : Value) : Prop := ∃ gp g gw gm gn vp, v = .pointer (some ⟨gp, 0, none⟩) ∧ Pool w' W.heap.size g gw gm gp gn vp 0 (phK n w k) ∧ Below W.heap.size W w'
set_option maxHeartbeats 4000000 in
set_option maxRecDepth 100000 in
theorem start_calls (n : Int) (w : Nat) (W : World) (hw : w ≤ 64) (hn : 0 ≤ n) (hn1 : n ≤ 64) :
    Calls Try.prog 18 #[.int .i64 n, .int .i64 w] W fun e w' => ∃ v, e = .returned v ∧ Started W w' n w w v := by
  obtain ⟨C, hC, hCz, hA⟩ := make_steps w hw
  have HC := Aside0.mk hC
  have HCZ := Aside0.mk hCz
  clear hC hCz
  go_enter Try.func18, Try.ntmps18
  go_upto_region 2 with (fail)
  go_region_with (first | (go_at_call 26; (with_reducible refine (new20 _).mono ?_); rintro e w1 ⟨g, gw, gm, rfl, hi, hb⟩; have HI := Aside0.mk hi; have HB := Aside0.mk hb; clear hi hb))
  · have hi : Is w1 W.heap.size g gw gm ⟨[], 0, [0, 0], []⟩ := HI.out
    have hb1 : Below W.heap.size W w1 := below_ofDrew HB.out
    have hbb := below_alloc (below_alloc (Below.refl w1.heap.size w1) (.cells C TStep)) (.cells #[.pointer (some ⟨g, 0, none⟩), .int .i64 n, .slice (some ⟨w1.heap.size, 0, none⟩) w w, .slice none 0 0, .int .i64 w, .int .i64 0] TPool)
    have hp := mkPool (gp := w1.heap.size + 1) (gn := w1.heap.size) (n := n) HC.out HCZ.out (hi.left hbb).is (by show ((w1.heap.push _).push _)[_]? = _; exact push_get (by simp)) (by show ((w1.heap.push _).push _)[_]? = _; rw [Array.getElem?_push, if_neg (by simp)]; exact push_get rfl) (hi.far hbb (by omega) (by simp)) (hi.far hbb (Nat.le_refl _) (by simp; omega)) (by have := hb1.size; omega) hb1.size
    have hb2 := hb1.trans (hbb.mono hb1.size)
    obtain ⟨w2, hw2⟩ : ∃ w2, (w1.alloc (.cells C TStep)).alloc (.cells #[.pointer (some ⟨g, 0, none⟩), .int .i64 n, .slice (some ⟨w1.heap.size, 0, none⟩) w w, .slice none 0 0, .int .i64 w, .int .i64 0] TPool) = w2 := ⟨_, rfl⟩
    rw [hw2] at hp hb2 ⊢
    clear hw2 hbb hi hb1 HI HB
    obtain ⟨gp, hgp⟩ : ∃ gp, w1.heap.size + 1 = gp := ⟨_, rfl⟩
    rw [hgp] at hp ⊢
    clear hgp
    obtain ⟨gn, hgn⟩ : ∃ gn, w1.heap.size = gn := ⟨_, rfl⟩
    rw [hgn] at hp ⊢
    clear hgn
    have HP := Aside0.mk hp
    have HB2 := Aside0.mk hb2
    have c2 := hp.cells.2.2.1
    have hll : (phK n w 0).st.length = w := by simp [phK]
    rw [hll] at c2
    clear hp hb2 hll hA
    go_wp2_with (fail)
    go_loopw [19] (fun i w' => ∃ k : Nat, k ≤ w ∧ i = .int .i64 k ∧ ∃ vp, Aside0 (Pool w' W.heap.size g gw gm gp gn vp 0 (phK n w k)) ∧ Aside0 (Below W.heap.size W w')) (fun i _ => w - (intOf i).toNat)
    case atStart => exact ⟨0, Nat.zero_le _, rfl, _, HP, HB2⟩
    case round =>
      clear HP HB2 c2
      obtain ⟨k, hk, rfl, vp, HP, HB⟩ := hrel
      have hll : (phK n w k).st.length = w := by simp [phK]; omega
      have HLL := Aside0.mk hll
      have c2 := HP.out.cells.2.2.1
      rw [hll] at c2
      clear hll
      by_cases hlt : k < w
      · obtain ⟨v, cn, fn, _⟩ := HP.out.step k (by rw [HLL.out]; exact hlt) rfl
        go_wp2_with (fail)
        go_roundw
        case rel =>
          have h5 := HP.out.setStep k (by rw [HLL.out]; exact hlt) (st := .claim) rfl
          rw [phK_set n w k hlt] at h5
          exact ⟨k + 1, by omega, by go_num, vp, ⟨h5⟩, ⟨below_set HB.out HP.out.b2⟩⟩
        case measure => simp [intOf]; omega
      · obtain rfl : k = w := by omega
        go_wp2_with (fail)
        go_ret
        exact ⟨_, rfl, gp, g, gw, gm, gn, vp, rfl, HP.out, HB.out⟩
  · have hi : Is w1 (W.heap.size + 1) g gw gm ⟨[], 0, [0, 0], []⟩ := by have := HI.out; simpa using this
    have hb1 : Below W.heap.size W w1 := (below_alloc (below_ofDrew (Below.refl W.heap.size W.drew)) (.cells C TStep)).trans (HB.out.mono (by simp))
    have hgn : w1.heap[W.heap.size]? = some (.cells C TStep (0, 0)) := by
      rw [HB.out.block W.heap.size (by simp)]
      exact push_get rfl
    have hlt : W.heap.size < w1.heap.size := by have := HB.out.size; simp at this; omega
    have hbb := below_alloc (Below.refl w1.heap.size w1) (.cells #[.pointer (some ⟨g, 0, none⟩), .int .i64 n, .slice (some ⟨W.heap.size, 0, none⟩) w w, .slice none 0 0, .int .i64 w, .int .i64 0] TPool)
    have hp := mkPool (gp := w1.heap.size) (gn := W.heap.size) (n := n) HC.out HCZ.out (IsMem.lower (hi.left hbb).is (Nat.le_succ _)) (by show (w1.heap.push _)[_]? = _; exact push_get rfl) (by show (w1.heap.push _)[_]? = _; rw [Array.getElem?_push, if_neg (by omega)]; exact hgn) (hi.far hbb (Nat.le_refl _) (by simp)) (Far.under (hi.left hbb).is (by omega) (by simp; omega)) hb1.size (Nat.le_refl _)
    have hb2 := hb1.trans (hbb.mono hb1.size)
    obtain ⟨w2, hw2⟩ : ∃ w2, w1.alloc (.cells #[.pointer (some ⟨g, 0, none⟩), .int .i64 n, .slice (some ⟨W.heap.size, 0, none⟩) w w, .slice none 0 0, .int .i64 w, .int .i64 0] TPool) = w2 := ⟨_, rfl⟩
    rw [hw2] at hp hb2 ⊢
    clear hw2 hbb hi hb1 HI HB hlt
    obtain ⟨gp, hgp⟩ : ∃ gp, w1.heap.size = gp := ⟨_, rfl⟩
    rw [hgp] at hp ⊢
    clear hgp
    obtain ⟨gn, hgn2⟩ : ∃ gn, W.heap.size = gn ∧ True := ⟨_, rfl, trivial⟩
    have hp2 : Pool w2 W.heap.size g gw gm gp gn (.slice none 0 0) 0 (phK n w 0) := by rw [← hgn2.1]; exact hp
    rw [hgn2.1]
    clear hgn hgn2 hp
    have hp := hp2
    clear hp2
    have HP := Aside0.mk hp
    have HB2 := Aside0.mk hb2
    have c2 := hp.cells.2.2.1
    have hll : (phK n w 0).st.length = w := by simp [phK]
    rw [hll] at c2
    clear hp hb2 hll hA
    go_wp2_with (fail)
    go_loopw [19] (fun i w' => ∃ k : Nat, k ≤ w ∧ i = .int .i64 k ∧ ∃ vp, Aside0 (Pool w' W.heap.size g gw gm gp gn vp 0 (phK n w k)) ∧ Aside0 (Below W.heap.size W w')) (fun i _ => w - (intOf i).toNat)
    case atStart => exact ⟨0, Nat.zero_le _, rfl, _, HP, HB2⟩
    case round =>
      clear HP HB2 c2
      obtain ⟨k, hk, rfl, vp, HP, HB⟩ := hrel
      have hll : (phK n w k).st.length = w := by simp [phK]; omega
      have HLL := Aside0.mk hll
      have c2 := HP.out.cells.2.2.1
      rw [hll] at c2
      clear hll
      by_cases hlt : k < w
      · obtain ⟨v, cn, fn, _⟩ := HP.out.step k (by rw [HLL.out]; exact hlt) rfl
        go_wp2_with (fail)
        go_roundw
        case rel =>
          have h5 := HP.out.setStep k (by rw [HLL.out]; exact hlt) (st := .claim) rfl
          rw [phK_set n w k hlt] at h5
          exact ⟨k + 1, by omega, by go_num, vp, ⟨h5⟩, ⟨below_set HB.out HP.out.b2⟩⟩
        case measure => simp [intOf]; omega
      · obtain rfl : k = w := by omega
        go_wp2_with (fail)
        go_ret
        exact ⟨_, rfl, gp, g, gw, gm, gn, vp, rfl, HP.out, HB.out⟩
theorem valid_yes (t w : Int) (W : World) (h0 : 0 ≤ t) (h1 : t ≤ 64) (h2 : 1 ≤ w) (h3 : w ≤ 64) :
    Calls Try.prog 17 #[.int .i64 t, .int .i64 w] W fun e w' => e = .returned (.bool true) ∧ w' = W := by
  have d0 : decide (0 ≤ t) = true := decide_eq_true h0
  have d1 : decide (t ≤ 64) = true := decide_eq_true h1
  have d2 : decide (1 ≤ w) = true := decide_eq_true h2
  have d3 : decide (w ≤ 64) = true := decide_eq_true h3
  go_enter Try.func17, Try.ntmps17
  go_wp2
  go_ret
  exact ⟨by simp, rfl⟩
theorem valid_no (t w : Int) (W : World) (h0 : 0 ≤ t) (h1 : t ≤ 64) (h2 : w < 1) :
    Calls Try.prog 17 #[.int .i64 t, .int .i64 w] W fun e w' => e = .returned (.bool false) ∧ w' = W := by
  have d0 : decide (0 ≤ t) = true := decide_eq_true h0
  have d1 : decide (t ≤ 64) = true := decide_eq_true h1
  have d2 : decide (1 ≤ w) = false := decide_eq_false (by omega)
  go_enter Try.func17, Try.ntmps17
  go_wp2
  go_ret
  exact ⟨by simp, rfl⟩
theorem started0 (n : Int) (w : Nat) : phK n w w = ph0 n w := by simp [phK, ph0]
theorem row_int {w : World} {A : Option Addr} {l : List Int} (h : Kd.C (Kd.int .i64) w A l.length l) (k : Nat) (hk : k < l.length) : ∃ ad, A = some ad ∧ w.cell? (ad.add k) = some (.int .i64 l[k]) := by
  obtain ⟨ad, c, e1, _, hK, hc0⟩ := Kd.C_get h 0 (k : Int) (by omega) (by omega)
  rw [Int.toNat_natCast] at hK hc0
  have e4 : l.getD k 0 = l[k] := by simp [List.getD_eq_getElem?_getD, List.getElem?_eq_getElem hk]
  rw [e4] at hK
  obtain rfl : c = [.int .i64 l[k]] := hK
  refine ⟨ad, e1, ?_⟩
  have := hc0 0 _ rfl
  simpa [Kd.int, Kd.scalar] using this
theorem run_succ (x : Ph) (l : List Int) (k : Nat) (h : k < l.length) : x.run (l.take (k + 1)) = (x.run (l.take k)).pick l[k].toNat := by
  unfold Ph.run
  rw [List.take_succ_eq_append_getElem h, List.foldl_append]
  rfl
theorem run_inv {x : Ph} {w : Nat} (h : x.Inv w) (l : List Int) (hl : ∀ p ∈ l, 0 ≤ p ∧ p < w) : (x.run l).Inv w ∧ (x.run l).picks = x.picks + l.length ∧ (x.run l).n = x.n := by
  induction l generalizing x with
  | nil => simpa [Ph.run] using h
  | cons p l ih =>
    have hp := hl p (by simp)
    obtain ⟨_, e2, e3⟩ := pick_st (x := x) p.toNat
    have := ih (pick_inv h p.toNat (by omega)) (fun q hq => hl q (by simp [hq]))
    obtain ⟨i1, i2, i3⟩ := this
    exact ⟨i1, by simp only [Ph.run, List.foldl_cons, List.length_cons] at i2 ⊢; omega, i3.trans e3⟩
theorem take_mem {l : List Int} {w : Nat} (hl : ∀ p ∈ l, 0 ≤ p ∧ p < w) (k : Nat) : ∀ p ∈ l.take k, 0 ≤ p ∧ p < w := fun p hp => hl p (List.mem_of_mem_take hp)
/-- What Run and Finish hand back. -/
def Out (W w' : World) (pairs : List (Int × Int)) (u : Value) (e : Ending) : Prop := ∃ v, e = .returned (.tuple #[v, u]) ∧ Kd.R kP TPair w' W.heap.size (fun _ => True) v pairs ∧ Below W.heap.size W w'
set_option maxHeartbeats 4000000 in
set_option maxRecDepth 100000 in
theorem run_calls (n : Int) (w : Nat) (l : List Int) (A : Option Addr) (c : Nat) (W : World) (hn : 0 ≤ n) (hn1 : n ≤ 64) (hw0 : 1 ≤ w) (hw : w ≤ 64) (hl : l.length ≤ 80000) (hr : ∀ p ∈ l, 0 ≤ p ∧ p < w) (hC : Kd.C (Kd.int .i64) W A l.length l) :
    Calls Try.prog 11 #[.int .i64 n, .int .i64 w, .slice A l.length c] W fun e w' => Out W w' ((ph0 n w).run l).pairs (.bool (decide (((ph0 n w).run l).left = 0))) e := by
  have HR := Aside0.mk hr
  have HC := Aside0.mk hC
  have HW0 := Aside0.mk hw0
  have HW := Aside0.mk hw
  have HN := Aside0.mk hn
  have HN1 := Aside0.mk hn1
  obtain ⟨lf, hlf⟩ : ∃ z, ((ph0 n w).run l).left = z := ⟨_, rfl⟩
  rw [hlf]
  have HLF := Aside0.mk hlf
  clear hr hC hw0 hw hn hn1 hlf
  go_enter Try.func11, Try.ntmps11
  go_wp2_with (first | (go_at_call 17; (with_reducible refine (valid_yes n w _ HN.out HN1.out (by have := HW0.out; omega) (by have := HW.out; omega)).mono ?_); rintro e w1 ⟨rfl, rfl⟩) | (go_at_call 18; (with_reducible refine (start_calls n w _ HW.out HN.out HN1.out).mono ?_); rintro e w2 ⟨v, rfl, gp, g, gw, gm, gn, vp, rfl, hp, hb⟩; rw [started0] at hp; have HP0 := Aside0.mk hp; have HB0 := Aside0.mk hb; clear hp hb))
  go_loopw [20] (fun i w' => ∃ k : Nat, k ≤ l.length ∧ i = .int .i64 k ∧ ∃ vp, Aside0 (Pool w' w1.heap.size g gw gm gp gn vp k ((ph0 n w).run (l.take k))) ∧ Aside0 (Below w1.heap.size w1 w')) (fun i _ => l.length - (intOf i).toNat)
  case atStart => exact ⟨0, Nat.zero_le _, rfl, _, by simpa [Ph.run] using HP0, HB0⟩
  case round =>
    clear HP0 HB0
    obtain ⟨k, hk, rfl, vp, HP, HB⟩ := hrel
    by_cases hlt : k < l.length
    · obtain ⟨ad, e2, hc⟩ := row_int (Kd.C_below HC.out HB.out) k hlt
      cases e2
      have hin := HR.out l[k] (List.getElem_mem hlt)
      have hinv := run_inv (inv0 n w HN.out) (l.take k) (take_mem HR.out k)
      obtain ⟨q1, q2, q3⟩ := hinv
      have hlk : (l.take k).length = k := by rw [List.length_take]; omega
      rw [hlk] at q2
      have HSU := Aside0.mk (run_succ (ph0 n w) l k hlt)
      obtain ⟨p, hp⟩ : ∃ p : Nat, l[k] = (p : Int) := ⟨l[k].toNat, by omega⟩
      rw [hp] at hc hin HSU
      have HIN := Aside0.mk hin
      have HINV := Aside0.mk q1
      have HPK := Aside0.mk (show ((ph0 n w).run (l.take k)).picks ≤ 100000 by rw [q2]; simp only [ph0]; omega)
      have HNX := Aside0.mk (show ((ph0 n w).run (l.take k)).n ≤ 64 by rw [q3]; exact HN1.out)
      have HPW := Aside0.mk (show p < w by omega)
      have HKL := Aside0.mk (show k ≤ 90000 by omega)
      clear q1 q2 q3 hp hlk hin
      go_wp2_with (first | (go_at_call 19; (with_reducible refine (pick_calls HP.out HINV.out HKL.out p HPW.out HW.out HNX.out HPK.out).mono ?_); rintro e w4 ⟨rfl, hpk⟩; have HPI := Aside0.mk hpk; clear hpk))
      go_roundw
      case rel =>
        obtain ⟨⟨vp2, hq⟩, hb⟩ := HPI.out
        refine ⟨k + 1, by omega, by go_num, vp2, ⟨?_⟩, ⟨HB.out.trans hb⟩⟩
        rw [HSU.out]
        simpa using hq
      case measure => simp [intOf]; omega
    · obtain rfl : k = l.length := by omega
      have HP' : Pool wr w1.heap.size g gw gm gp gn vp l.length ((ph0 n w).run l) := by have := HP.out; rwa [List.take_length] at this
      obtain ⟨_, _, _, c3, c4, _⟩ := HP'.cells
      rw [HLF.out] at c4
      have HQ := Aside0.mk HP'
      clear HP' HP hlt hk
      go_wp2_with (fail)
      go_quiet (fail)
      go_wp2_with (fail)
      go_ret2
      exact ⟨_, rfl, Kd.R_below HQ.out.prs (pw_below_drewN (Below.refl _ _) _), pw_below_drewN HB.out _⟩
/-- The worker that Finish picks at index i. -/
def pickAt (l : List Int) (w i : Nat) : Nat := if i < l.length then (l.getD i 0).toNat else (i - l.length) % w
def Ph.steps (x : Ph) (f : Nat → Nat) : Nat → Ph
  | 0 => x
  | k + 1 => (x.steps f k).pick (f k)
theorem steps_inv {x : Ph} {w : Nat} (h : x.Inv w) {f : Nat → Nat} (hf : ∀ k, f k < w) : ∀ k, (x.steps f k).Inv w ∧ (x.steps f k).picks = x.picks + k ∧ (x.steps f k).n = x.n
  | 0 => ⟨h, by simp [Ph.steps], rfl⟩
  | k + 1 => by
    obtain ⟨i1, i2, i3⟩ := steps_inv h hf k
    obtain ⟨_, e2, e3⟩ := pick_st (x := x.steps f k) (f k)
    exact ⟨pick_inv i1 _ (hf k), by simp only [Ph.steps]; omega, e3.trans i3⟩
theorem pickAt_lt {l : List Int} {w : Nat} (hw : 1 ≤ w) (hr : ∀ p ∈ l, 0 ≤ p ∧ p < w) (k : Nat) : pickAt l w k < w := by
  unfold pickAt
  split
  · rename_i h
    have := hr l[k] (List.getElem_mem h)
    rw [show l.getD k 0 = l[k] by simp [List.getD_eq_getElem?_getD, List.getElem?_eq_getElem h]]
    omega
  · exact Nat.mod_lt _ (by omega)
set_option maxHeartbeats 4000000 in
set_option maxRecDepth 100000 in
theorem finish_calls (n : Int) (w : Nat) (l : List Int) (A : Option Addr) (c : Nat) (W : World) (hn : 0 ≤ n) (hn1 : n ≤ 64) (hw0 : 1 ≤ w) (hw : w ≤ 64) (hl : l.length ≤ 80000) (hr : ∀ p ∈ l, 0 ≤ p ∧ p < w) (hC : Kd.C (Kd.int .i64) W A l.length l)
    (N : Nat) (hN : N ≤ 80000) (hz : ((ph0 n w).steps (pickAt l w) N).left = 0) (hlt : ∀ j, j < N → 0 < ((ph0 n w).steps (pickAt l w) j).left) :
    Calls Try.prog 9 #[.int .i64 n, .int .i64 w, .slice A l.length c] W fun e w' => Out W w' ((ph0 n w).steps (pickAt l w) N).pairs (.int .i64 N) e := by
  have HR := Aside0.mk hr
  have HC := Aside0.mk hC
  have HW0 := Aside0.mk hw0
  have HW := Aside0.mk hw
  have HN := Aside0.mk hn
  have HN1 := Aside0.mk hn1
  have HZ := Aside0.mk hz
  have HLT := Aside0.mk hlt
  have HPL := Aside0.mk (pickAt_lt hw0 hr)
  clear hr hC hw0 hw hn hn1 hz hlt
  go_enter Try.func9, Try.ntmps9
  go_wp2_with (first | (go_at_call 17; (with_reducible refine (valid_yes n w _ HN.out HN1.out (by have := HW0.out; omega) (by have := HW.out; omega)).mono ?_); rintro e w1 ⟨rfl, rfl⟩) | (go_at_call 18; (with_reducible refine (start_calls n w _ HW.out HN.out HN1.out).mono ?_); rintro e w2 ⟨v, rfl, gp, g, gw, gm, gn, vp, rfl, hp, hb⟩; rw [started0] at hp; have HP0 := Aside0.mk hp; have HB0 := Aside0.mk hb; clear hp hb))
  go_loopw [9] (fun i w' => ∃ k : Nat, k ≤ N ∧ i = .int .i64 k ∧ ∃ vp, Aside0 (Pool w' w1.heap.size g gw gm gp gn vp k ((ph0 n w).steps (pickAt l w) k)) ∧ Aside0 (Below w1.heap.size w1 w')) (fun i _ => N - (intOf i).toNat)
  case atStart => exact ⟨0, Nat.zero_le _, rfl, _, HP0, HB0⟩
  case round =>
    clear HP0 HB0
    obtain ⟨k, hk, rfl, vp, HP, HB⟩ := hrel
    have c4 := HP.out.cells.2.2.2.2.1
    obtain ⟨q1, q2, q3⟩ := steps_inv (inv0 n w HN.out) HPL.out k
    have HINV := Aside0.mk q1
    have HPK := Aside0.mk (show ((ph0 n w).steps (pickAt l w) k).picks = k by rw [q2]; simp [ph0])
    have HPK2 := Aside0.mk (show ((ph0 n w).steps (pickAt l w) k).picks ≤ 100000 by rw [q2]; simp only [ph0]; omega)
    have HNX := Aside0.mk (show ((ph0 n w).steps (pickAt l w) k).n ≤ 64 by rw [q3]; exact HN1.out)
    have HKL := Aside0.mk (show k ≤ 90000 by omega)
    clear q1 q2 q3
    by_cases hlt : k < N
    · obtain ⟨lf, hlf⟩ : ∃ z, ((ph0 n w).steps (pickAt l w) k).left = z := ⟨_, rfl⟩
      have hpos := HLT.out k hlt
      rw [hlf] at c4 hpos
      have d4 : decide (0 < lf) = true := decide_eq_true hpos
      clear hlf hpos
      by_cases hkl : k < l.length
      · obtain ⟨ad, e2, hc⟩ := row_int (Kd.C_below HC.out HB.out) k hkl
        cases e2
        have hin := HR.out l[k] (List.getElem_mem hkl)
        obtain ⟨p, hp⟩ : ∃ p : Nat, l[k] = (p : Int) := ⟨l[k].toNat, by omega⟩
        rw [hp] at hc hin
        have HPA := Aside0.mk (show pickAt l w k = p by unfold pickAt; rw [if_pos hkl, show l.getD k 0 = l[k] by simp [List.getD_eq_getElem?_getD, List.getElem?_eq_getElem hkl], hp]; simp)
        have HPW := Aside0.mk (show p < w by omega)
        have dk : decide ((k : Int) < (l.length : Int)) = true := decide_eq_true (by omega)
        clear hp hin
        go_wp2_with (first | (go_at_call 19; (with_reducible refine (pick_calls HP.out HINV.out HKL.out p HPW.out HW.out HNX.out HPK2.out).mono ?_); rintro e w4 ⟨rfl, hpk⟩; have HPI := Aside0.mk hpk; clear hpk))
        go_roundw
        case rel =>
          obtain ⟨⟨vp2, hq⟩, hb⟩ := HPI.out
          refine ⟨k + 1, by omega, by go_num, vp2, ⟨?_⟩, ⟨HB.out.trans hb⟩⟩
          rw [show (ph0 n w).steps (pickAt l w) (k + 1) = ((ph0 n w).steps (pickAt l w) k).pick p by rw [← HPA.out]; rfl]
          exact hq
        case measure => simp [intOf]; omega
      · have hw1 := HW0.out
        have hw2 := HW.out
        obtain ⟨p, hp⟩ : ∃ p : Nat, (k - l.length) % w = p := ⟨_, rfl⟩
        have hpe : ((k : Int) - (l.length : Int)) % (w : Int) = (p : Int) := by rw [← hp]; rw [Int.natCast_emod]; congr 1; omega
        have HPA := Aside0.mk (show pickAt l w k = p by unfold pickAt; rw [if_neg hkl]; exact hp)
        have HPW := Aside0.mk (show p < w by rw [← hp]; exact Nat.mod_lt _ (by omega))
        have dk : decide ((k : Int) < (l.length : Int)) = false := decide_eq_false (by omega)
        have hge : (0 : Int) ≤ (k : Int) - (l.length : Int) := by omega
        clear hp
        go_wp2_with (first | (go_at_call 19; (with_reducible refine (pick_calls HP.out HINV.out HKL.out p HPW.out HW.out HNX.out HPK2.out).mono ?_); rintro e w4 ⟨rfl, hpk⟩; have HPI := Aside0.mk hpk; clear hpk))
        go_roundw
        case rel =>
          obtain ⟨⟨vp2, hq⟩, hb⟩ := HPI.out
          refine ⟨k + 1, by omega, by go_num, vp2, ⟨?_⟩, ⟨HB.out.trans hb⟩⟩
          rw [show (ph0 n w).steps (pickAt l w) (k + 1) = ((ph0 n w).steps (pickAt l w) k).pick p by rw [← HPA.out]; rfl]
          exact hq
        case measure => simp [intOf]; omega
    · obtain rfl : k = N := by omega
      rw [HZ.out] at c4
      have c3 := HP.out.cells.2.2.2.1
      have c5 := HP.out.cells.2.2.2.2.2
      rw [HPK.out] at c5
      have HQ := Aside0.mk HP.out.prs
      clear HP
      go_wp2_with (fail)
      go_quiet (fail)
      go_wp2_with (fail)
      go_ret2
      exact ⟨_, rfl, Kd.R_below HQ.out (pw_below_drewN (Below.refl _ _) _), pw_below_drewN HB.out _⟩
theorem finish_no (n w : Int) (A : Option Addr) (m c : Nat) (W : World) (hn : 0 ≤ n) (hn1 : n ≤ 64) (hw : w < 1) :
    Calls Try.prog 9 #[.int .i64 n, .int .i64 w, .slice A m c] W fun e w' => e = .returned (.tuple #[.slice none 0 0, .int .i64 0]) ∧ w' = W := by
  have HN := Aside0.mk hn
  have HN1 := Aside0.mk hn1
  have HW := Aside0.mk hw
  clear hn hn1 hw
  go_enter Try.func9, Try.ntmps9
  go_wp2_with (first | (go_at_call 17; (with_reducible refine (valid_no n w _ HN.out HN1.out HW.out).mono ?_); rintro e w1 ⟨rfl, rfl⟩))
  go_ret2
  exact ⟨rfl, rfl⟩
theorem bound_calls (n w k : Int) (W : World) (h0 : 0 ≤ n) (h1 : n ≤ 64) (h2 : 1 ≤ w) (h3 : w ≤ 64) (h4 : 0 ≤ k) (h5 : k ≤ 1000000) :
    Calls Try.prog 13 #[.int .i64 n, .int .i64 w, .int .i64 k] W fun e w' => e = .returned (.int .i64 (k * (2 * n + 3 * w + 1))) ∧ w' = W := by
  have hz : 0 ≤ k * (2 * n + 3 * w + 1) := Int.mul_nonneg h4 (by omega)
  have hz1 : k * (2 * n + 3 * w + 1) ≤ 1000000 * 400 := Int.mul_le_mul h5 (by omega) (by omega) (by omega)
  have HZ := Aside0.mk (show wrap64 (k * (2 * n + 3 * w + 1)) = k * (2 * n + 3 * w + 1) by unfold wrap64; omega)
  clear hz hz1
  go_enter Try.func13, Try.ntmps13
  go_wp2_with (first | (go_at_call 17; (with_reducible refine (valid_yes n w _ h0 h1 h2 h3).mono ?_); rintro e w1 ⟨rfl, rfl⟩))
  go_ret
  exact ⟨by rw [HZ.out]; rfl, rfl⟩
end Go.Proofs.Ytjheocofbfmopaa.Hand
