/- The steps of a worker: claim, work, arrive, wait; the words and the log at most 1000000, the tasks and the workers at most 1000000. -/
import Derived.Test.YtjheocofbfmopaaWkA
import Derived.Deep.RegionWith
import Derived.Deep.RegionLaw
import Derived.BigRegion
namespace Go.Proofs.Ytjheocofbfmopaa.Hand
open Go.RowKit Go.Proofs.YtjheocofbfmopaaW.PrintWords Go.Proofs.YtjheocofbfmopaaW.PrintLast Go.Proofs.YtjheocofbfmopaaW.PrintMore
set_option linter.unusedVariables false
set_option linter.unusedSimpArgs false
attribute [local go_sem] max2_int min2_int max_two min_two max_three min_three max_four min_four
section
variable {W : World} {base g gw gm : Nat} {log : List Acc} {c a : Int}
theorem below_ofDrew {W W' : World} {b : Nat} (h : Below b W.drew W') : Below b W W' := ⟨h.os, h.tape, h.output, h.size, h.block⟩
theorem wrap_in {z : Int} (h0 : 0 ≤ z) (h1 : z ≤ 1000000000) : wrap64 z = z := by unfold wrap64; omega
theorem fit_of (hl : log.length ≤ 1000000) : (⟨log, 0, [c, a], []⟩ : St).fit := ⟨by simp, by simp, hl, by simp, by simp⟩
theorem padd0 (h : Is W base g gw gm ⟨log, 0, [c, a], []⟩) (hl : log.length ≤ 1000000) (h0 : 0 ≤ c) (h1 : c ≤ 1000000) (th : Int) :
    Calls Try.prog 31 #[.pointer (some ⟨g, 0, none⟩), .int .i64 th, .int .i64 0, .int .i64 1] W fun e w' => e = .returned (.int .i64 (c + 1)) ∧ ∃ log', log'.length = log.length + 1 ∧ Left W w' base g gw gm ⟨log', 0, [c + 1, a], []⟩ := by
  have h2 := add_calls h (fit_of hl) th 0 1
  have e : (⟨log, 0, [c, a], []⟩ : St).add th 0 1 = (⟨log ++ [⟨th, 2, 0, c, c + 1, true⟩], 0, [c + 1, a], []⟩, c + 1) := by
    unfold St.add
    rw [if_pos (by unfold inL; simp)]
    have e1 : rd [c, a] 0 = c := rfl
    simp only [St.upd, e1, wrap_in (show 0 ≤ c + 1 by omega) (by omega)]
    rfl
  rw [e] at h2
  exact h2.mono fun e w' ⟨he, hl⟩ => ⟨he, _, by simp, hl⟩
theorem padd1 (h : Is W base g gw gm ⟨log, 0, [c, a], []⟩) (hl : log.length ≤ 1000000) (h0 : 0 ≤ a) (h1 : a ≤ 1000000) (th : Int) :
    Calls Try.prog 31 #[.pointer (some ⟨g, 0, none⟩), .int .i64 th, .int .i64 1, .int .i64 1] W fun e w' => e = .returned (.int .i64 (a + 1)) ∧ ∃ log', log'.length = log.length + 1 ∧ Left W w' base g gw gm ⟨log', 0, [c, a + 1], []⟩ := by
  have h2 := add_calls h (fit_of hl) th 1 1
  have e : (⟨log, 0, [c, a], []⟩ : St).add th 1 1 = (⟨log ++ [⟨th, 2, 1, a, a + 1, true⟩], 0, [c, a + 1], []⟩, a + 1) := by
    unfold St.add
    rw [if_pos (by unfold inL; simp)]
    have e1 : rd [c, a] 1 = a := rfl
    simp only [St.upd, e1, wrap_in (show 0 ≤ a + 1 by omega) (by omega)]
    rfl
  rw [e] at h2
  exact h2.mono fun e w' ⟨he, hl⟩ => ⟨he, _, by simp, hl⟩
theorem pload1 (h : Is W base g gw gm ⟨log, 0, [c, a], []⟩) (hl : log.length ≤ 1000000) (th : Int) :
    Calls Try.prog 40 #[.pointer (some ⟨g, 0, none⟩), .int .i64 th, .int .i64 1] W fun e w' => e = .returned (.int .i64 a) ∧ ∃ log', log'.length = log.length + 1 ∧ Left W w' base g gw gm ⟨log', 0, [c, a], []⟩ := by
  have h2 := load_calls h (fit_of hl) th 1
  have e : (⟨log, 0, [c, a], []⟩ : St).load th 1 = (⟨log ++ [⟨th, 1, 1, a, a, true⟩], 0, [c, a], []⟩, a) := by
    unfold St.load
    rw [if_pos (by unfold inL; simp)]
    rfl
  rw [e] at h2
  exact h2.mono fun e w' ⟨he, hl⟩ => ⟨he, _, by simp, hl⟩
end
section
variable {W W' : World} {base g gw gm gp gn L : Nat} {vp : Value} {x : Ph}
theorem pool_add0 (h : Pool W base g gw gm gp gn vp L x) (hL : L ≤ 100000) (h0 : 0 ≤ x.c) (h1 : x.c ≤ 1000000) (th : Int) :
    Calls Try.prog 31 #[.pointer (some ⟨g, 0, none⟩), .int .i64 th, .int .i64 0, .int .i64 1] W fun e w' => e = .returned (.int .i64 (x.c + 1)) ∧ Pool w' base g gw gm gp gn vp (L + 1) { x with c := x.c + 1 } ∧ Below base W w' := by
  obtain ⟨log, hl, hi⟩ := h.is
  refine (padd0 hi (by omega) h0 h1 th).mono ?_
  rintro e w' ⟨he, log', hl', l⟩
  exact ⟨he, h.mem l (by omega), l.bl⟩
theorem pool_add1 (h : Pool W base g gw gm gp gn vp L x) (hL : L ≤ 100000) (h0 : 0 ≤ x.a) (h1 : x.a ≤ 1000000) (th : Int) :
    Calls Try.prog 31 #[.pointer (some ⟨g, 0, none⟩), .int .i64 th, .int .i64 1, .int .i64 1] W fun e w' => e = .returned (.int .i64 (x.a + 1)) ∧ Pool w' base g gw gm gp gn vp (L + 1) { x with a := x.a + 1 } ∧ Below base W w' := by
  obtain ⟨log, hl, hi⟩ := h.is
  refine (padd1 hi (by omega) h0 h1 th).mono ?_
  rintro e w' ⟨he, log', hl', l⟩
  exact ⟨he, h.mem l (by omega), l.bl⟩
theorem pool_load (h : Pool W base g gw gm gp gn vp L x) (hL : L ≤ 100000) (th : Int) {z : Int} (hz : x.a = z) :
    Calls Try.prog 40 #[.pointer (some ⟨g, 0, none⟩), .int .i64 th, .int .i64 1] W fun e w' => e = .returned (.int .i64 z) ∧ Pool w' base g gw gm gp gn vp (L + 1) x ∧ Below base W w' := by
  obtain ⟨log, hl, hi⟩ := h.is
  subst hz
  refine (pload1 hi (by omega) th).mono ?_
  rintro e w' ⟨he, log', hl', l⟩
  exact ⟨he, h.mem l (by omega), l.bl⟩
theorem Bx.grown (h : Pool W base g gw gm gp gn vp L x) {k t : Nat} {u : Value} (hb : Bx W g gw gm k t u) (ht : t = TPtr ∨ t = 3) (hg : W.grownBy W' vp.ownBlock) : W'.cell? ⟨k, 0, none⟩ = some u := by
  have e : W'.heap[k]? = W.heap[k]? := hg.block k hb.far.lt (fun e => by
    obtain ⟨cs2, h2⟩ := Kd.R_typed h.prs _ e.symm
    rcases ht with rfl | rfl
    · exact ne_type hb.blk h2 (by decide) rfl
    · exact ne_type hb.blk h2 (by decide) rfl)
  simp [World.cell?, e, hb.blk]
set_option maxHeartbeats 1000000 in
theorem work_calls (gp : Nat) (t : Int) (W : World) :
    Calls Try.prog 32 #[.pointer (some ⟨gp, 0, none⟩), .int .i64 t] W fun e w' => e = .returned (.func (.func 36) #[] #[.pointer (some ⟨W.heap.size, 0, none⟩), .pointer (some ⟨W.heap.size + 1, 0, none⟩)]) ∧
      w' = (W.alloc (.cells #[.pointer (some ⟨gp, 0, none⟩)] TPtr)).alloc (.cells #[.int .i64 t] 3) := by
  go_enter Try.func32, Try.ntmps32
  go_wp2
  go_ret
  exact ⟨by simp, rfl⟩
theorem work_is (h : Pool W base g gw gm gp gn vp L x) (t : Int) :
    Pool ((W.alloc (.cells #[.pointer (some ⟨gp, 0, none⟩)] TPtr)).alloc (.cells #[.int .i64 t] 3)) base g gw gm gp gn vp L x ∧ StepIs ((W.alloc (.cells #[.pointer (some ⟨gp, 0, none⟩)] TPtr)).alloc (.cells #[.int .i64 t] 3)) g gw gm gp (.work t) (.func (.func 36) #[] #[.pointer (some ⟨W.heap.size, 0, none⟩), .pointer (some ⟨W.heap.size + 1, 0, none⟩)]) := by
  have hb : Below W.heap.size W ((W.alloc (.cells #[.pointer (some ⟨gp, 0, none⟩)] TPtr)).alloc (.cells #[.int .i64 t] 3)) := below_alloc (below_alloc (Below.refl _ _) _) _
  refine ⟨h.below hb, _, _, rfl, ⟨?_, h.far hb (Nat.le_refl _) (by simp; omega)⟩, ⟨?_, h.far hb (by omega) (by simp)⟩⟩
  · show ((W.heap.push _).push _)[_]? = _
    rw [Array.getElem?_push, if_neg (by simp)]
    exact push_get rfl
  · show ((W.heap.push _).push _)[_]? = _
    exact push_get (by simp)
set_option maxHeartbeats 1000000 in
theorem claim_yes (h : Pool W base g gw gm gp gn vp L x) (hL : L ≤ 100000) (h0 : 0 ≤ x.c) (h1 : x.c ≤ 1000000) (th : Int) (hn : x.c + 1 ≤ x.n) :
    Calls Try.prog 27 #[.pointer (some ⟨gp, 0, none⟩), .int .i64 th] W fun e w' => ∃ v, e = .returned v ∧ Pool w' base g gw gm gp gn vp (L + 1) { x with c := x.c + 1 } ∧ StepIs w' g gw gm gp (.work x.c) v ∧ Below base W w' := by
  have HP := Aside0.mk h
  obtain ⟨c0, _, _, _, _, _⟩ := h.cells
  have d1 : decide (x.c + 1 ≤ x.n) = true := decide_eq_true hn
  clear h
  obtain ⟨n, c, a, st, pairs, left, picks⟩ := x
  simp only at c0 d1 h0 h1 hn ⊢
  clear hn
  go_enter Try.func27, Try.ntmps27
  go_wp2_with (first | (go_at_call 31; (with_reducible refine (pool_add0 HP.out hL h0 h1 th).mono ?_); rintro e w1 ⟨rfl, hp, hb⟩; obtain ⟨_, c1, _, _, _, _⟩ := hp.cells; simp only at c1; have HP1 := Aside0.mk hp; have HB1 := Aside0.mk hb; clear hp hb) | (go_at_call 32; (with_reducible refine (work_calls gp _ _).mono ?_); rintro e w2 ⟨rfl, rfl⟩))
  go_ret
  obtain ⟨k1, k2⟩ := work_is HP1.out c
  exact ⟨_, rfl, k1, k2, HB1.out.trans ((below_alloc (below_alloc (Below.refl _ _) _) _).mono HP1.out.bs)⟩
set_option maxHeartbeats 1000000 in
theorem claim_no (h : Pool W base g gw gm gp gn vp L x) (hL : L ≤ 100000) (h0 : 0 ≤ x.c) (h1 : x.c ≤ 1000000) (th : Int) (hn : ¬ x.c + 1 ≤ x.n) :
    Calls Try.prog 27 #[.pointer (some ⟨gp, 0, none⟩), .int .i64 th] W fun e w' => ∃ v, e = .returned v ∧ Pool w' base g gw gm gp gn vp (L + 1) { x with c := x.c + 1 } ∧ StepIs w' g gw gm gp .arrive v ∧ Below base W w' := by
  have HP := Aside0.mk h
  obtain ⟨c0, _, _, _, _, _⟩ := h.cells
  have d1 : decide (x.c + 1 ≤ x.n) = false := decide_eq_false hn
  clear h
  obtain ⟨n, c, a, st, pairs, left, picks⟩ := x
  simp only at c0 d1 h0 h1 hn ⊢
  clear hn
  go_enter Try.func27, Try.ntmps27
  go_wp2_with (first | (go_at_call 31; (with_reducible refine (pool_add0 HP.out hL h0 h1 th).mono ?_); rintro e w1 ⟨rfl, hp, hb⟩; obtain ⟨_, c1, _, _, _, _⟩ := hp.cells; simp only at c1; have HP1 := Aside0.mk hp; have HB1 := Aside0.mk hb; clear hp hb))
  go_ret
  exact ⟨_, rfl, HP1.out, rfl, HB1.out⟩
set_option maxHeartbeats 1000000 in
theorem arrive_calls (h : Pool W base g gw gm gp gn vp L x) (hL : L ≤ 100000) (h0 : 0 ≤ x.a) (h1 : x.a ≤ 1000000) (th : Int) :
    Calls Try.prog 33 #[.pointer (some ⟨gp, 0, none⟩), .int .i64 th] W fun e w' => ∃ v, e = .returned v ∧ Pool w' base g gw gm gp gn vp (L + 1) { x with a := x.a + 1 } ∧ StepIs w' g gw gm gp .wait v ∧ Below base W w' := by
  have HP := Aside0.mk h
  obtain ⟨c0, _, _, _, _, _⟩ := h.cells
  clear h
  obtain ⟨n, c, a, st, pairs, left, picks⟩ := x
  simp only at c0 h0 h1 ⊢
  go_enter Try.func33, Try.ntmps33
  go_wp2_with (first | (go_at_call 31; (with_reducible refine (pool_add1 HP.out hL h0 h1 th).mono ?_); rintro e w1 ⟨rfl, hp, hb⟩; have HP1 := Aside0.mk hp; have HB1 := Aside0.mk hb; clear hp hb))
  go_ret
  exact ⟨_, rfl, HP1.out, rfl, HB1.out⟩
set_option maxHeartbeats 4000000 in
theorem wait_no (h : Pool W base g gw gm gp gn vp L x) (hL : L ≤ 100000) (th : Int) (hs : x.st.length ≤ 1000000) (ha : x.a ≠ x.st.length) :
    Calls Try.prog 37 #[.pointer (some ⟨gp, 0, none⟩), .int .i64 th] W fun e w' => ∃ v, e = .returned v ∧ Pool w' base g gw gm gp gn vp (L + 1) x ∧ StepIs w' g gw gm gp .wait v ∧ Below base W w' := by
  have HP := Aside0.mk (h.below (below_drew1 (Below.refl _ _)))
  have hbs := Aside0.mk h.bs
  obtain ⟨c0, _, c2, _, _, _⟩ := h.cells
  obtain ⟨m, hm⟩ : ∃ m, x.st.length = m := ⟨_, rfl⟩
  obtain ⟨z, hz⟩ : ∃ z, x.a = z := ⟨_, rfl⟩
  rw [hm] at ha c2 hs
  rw [hz] at ha
  have HZ := Aside0.mk hz
  have HMM := Aside0.mk hm
  have d1 : (z == (m : Int)) = false := beq_eq_false_iff_ne.2 ha
  have d2 : (z != (m : Int)) = true := bne_iff_ne.2 ha
  clear h ha hm hz
  go_enter Try.func37, Try.ntmps37
  go_wp2_with (fail)
  go_region_with (first | (go_at_call 40; (with_reducible refine (pool_load HP.out hL th HZ.out).mono ?_); rintro e w1 ⟨rfl, hp, hb⟩; obtain ⟨_, _, e2, _, e4, _⟩ := hp.cells; rw [HMM.out] at e2; have f4 := hp.free 4; have HP1 := Aside0.mk hp; have HB1 := Aside0.mk (below_ofDrew hb); clear hp hb))
  all_goals go_wp2_with (fail)
  all_goals go_ret
  all_goals exact ⟨_, rfl, HP1.out, rfl, HB1.out⟩
set_option maxHeartbeats 4000000 in
theorem wait_yes (h : Pool W base g gw gm gp gn vp L x) (hL : L ≤ 100000) (th : Int) (hs : x.st.length ≤ 1000000) (ha : x.a = x.st.length) (hl0 : 0 ≤ x.left) (hl1 : x.left ≤ 1000000) :
    Calls Try.prog 37 #[.pointer (some ⟨gp, 0, none⟩), .int .i64 th] W fun e w' => ∃ v, e = .returned v ∧ Pool w' base g gw gm gp gn vp (L + 1) { x with left := x.left - 1 } ∧ StepIs w' g gw gm gp .done v ∧ Below base W w' := by
  have HP := Aside0.mk (h.below (below_drew1 (Below.refl _ _)))
  have hbs := Aside0.mk h.b1
  obtain ⟨c0, _, c2, _, _, _⟩ := h.cells
  obtain ⟨m, hm⟩ : ∃ m, x.st.length = m := ⟨_, rfl⟩
  obtain ⟨lf, hlf⟩ : ∃ m, x.left = m := ⟨_, rfl⟩
  rw [hm] at ha c2 hs
  rw [hlf] at hl0 hl1 ⊢
  have HZ := Aside0.mk ha
  have HMM := Aside0.mk hm
  have HLF := Aside0.mk hlf
  have d1 : ((m : Int) == (m : Int)) = true := beq_self_eq_true _
  have d2 : ((m : Int) != (m : Int)) = false := by simp
  clear h ha hm hlf
  go_enter Try.func37, Try.ntmps37
  go_wp2_with (fail)
  go_region_with (first | (go_at_call 40; (with_reducible refine (pool_load HP.out hL th HZ.out).mono ?_); rintro e w1 ⟨rfl, hp, hb⟩; obtain ⟨_, _, e2, _, e4, _⟩ := hp.cells; rw [HMM.out] at e2; rw [HLF.out] at e4; have f4 := hp.free 4; have HP1 := Aside0.mk hp; have HB1 := Aside0.mk (below_ofDrew hb); clear hp hb))
  all_goals go_wp2_with (fail)
  all_goals go_ret
  all_goals exact ⟨_, rfl, HP1.out.setLeft _, rfl, HB1.out.trans (below_set_ hbs.out _)⟩
set_option maxHeartbeats 4000000 in
theorem work1_calls (h : Pool W base g gw gm gp gn vp L x) (th t : Int) (b1 b2 : Nat) (hx1 : Bx W g gw gm b1 TPtr (.pointer (some ⟨gp, 0, none⟩))) (hx2 : Bx W g gw gm b2 3 (.int .i64 t)) (hp : x.pairs.length ≤ 1000000) :
    Calls Try.prog 36 #[.int .i64 th, .pointer (some ⟨b1, 0, none⟩), .pointer (some ⟨b2, 0, none⟩)] W fun e w' => ∃ v vp', e = .returned v ∧ Pool w' base g gw gm gp gn vp' L { x with pairs := x.pairs ++ [(t, th)] } ∧ StepIs w' g gw gm gp .claim v ∧ Below base W w' := by
  have HBD := Aside0.mk (h.below (below_drew1 (Below.refl _ _)))
  have hbs := Aside0.mk h.bs
  have p3 := h.cells.2.2.2.1
  have p1 : W.cell? ⟨b1, 0, none⟩ = some (.pointer (some ⟨gp, 0, none⟩)) := by simp [World.cell?, hx1.blk]
  have p2 : W.cell? ⟨b2, 0, none⟩ = some (.int .i64 t) := by simp [World.cell?, hx2.blk]
  have ca1 : ∀ o, (W.drew.alloc o).cell? ⟨b1, 0, none⟩ = some (.pointer (some ⟨gp, 0, none⟩)) := fun o => ((below_alloc (Below.refl W.heap.size _) o).cell (p := ⟨b1, 0, none⟩) hx1.far.lt).trans p1
  have ca2 : ∀ o, (W.drew.alloc o).cell? ⟨b2, 0, none⟩ = some (.int .i64 t) := fun o => ((below_alloc (Below.refl W.heap.size _) o).cell (p := ⟨b2, 0, none⟩) hx2.far.lt).trans p2
  have ca3 : ∀ o, (W.drew.alloc o).cell? ⟨gp, 3, none⟩ = some vp := fun o => ((below_alloc (Below.refl W.heap.size _) o).cell (p := ⟨gp, 3, none⟩) h.lt).trans p3
  have HX1 := Aside0.mk (Bx.mk (W := W.drew) hx1.blk (hx1.far.keep (Nat.le_refl _) rfl))
  have HX2 := Aside0.mk (Bx.mk (W := W.drew) hx2.blk (hx2.far.keep (Nat.le_refl _) rfl))
  have HLL := Aside0.mk hp
  clear h hx1 hx2 hp
  obtain ⟨n, c, a, st, pairs, left, picks⟩ := x
  simp only at HBD HLL ⊢
  go_enter Try.func36, Try.ntmps36
  go_wp2_with (fail)
  refine start_ (n := 13) (S := fun w' => w'.cell? ⟨b1, 0, none⟩ = some (.pointer (some ⟨gp, 0, none⟩)) ∧ w'.cell? ⟨gp, 3, none⟩ = some vp ∧ w'.cell? ⟨b2, 0, none⟩ = some (.int .i64 t)) (ds := [12]) #[false, false, false, false, false, false, false, false, false, false, false, false, false] (by kernel_rfl) rfl rfl ⟨p1, p3, p2⟩ (fun hHeld => ?_)
  refine pure_ (i := 6) (N := some 11) (v := ?_) (a' := ?_) #[false, false, false, false, false, false, true, false, false, false, false, false, false] rfl rfl (by kernel_rfl) (fun _ _ _ h => h) (Or.inl ⟨by rfl, ?_⟩) ?_ ?_
  rotate_left
  · intro w'
    go_simp
    with_reducible rfl
  rotate_left
  · simp only [Act.put, List.setIfInBounds_toArray, List.set_cons_zero, List.set_cons_succ, i64_w, i32_w]
    rfl
  refine take_ (i := 0) (N := some 5) (v := ?_) (a' := ?_) #[true, false, false, false, false, false, true, false, false, false, false, false, false] rfl rfl (by kernel_rfl) (fun _ _ _ h => h) (Or.inl ⟨by rfl, ?_⟩) hHeld ?_ ?_
  rotate_left
  · rintro w' ⟨s0, s1, s2⟩
    go_simp
    with_reducible rfl
  rotate_left
  · simp only [Act.put, List.setIfInBounds_toArray, List.set_cons_zero, List.set_cons_succ, i64_w, i32_w]
    rfl
  refine take_ (i := 1) (N := some 6) (v := ?_) (a' := ?_) #[true, true, false, false, false, false, true, false, false, false, false, false, false] rfl rfl (by kernel_rfl) (fun _ _ _ h => h) (Or.inl ⟨by rfl, ?_⟩) hHeld ?_ ?_
  rotate_left
  · rintro w' ⟨s0, s1, s2⟩
    go_simp
    with_reducible rfl
  rotate_left
  · simp only [Act.put, List.setIfInBounds_toArray, List.set_cons_zero, List.set_cons_succ, i64_w, i32_w]
    rfl
  refine pure_ (i := 2) (N := some 7) (v := ?_) (a' := ?_) #[true, true, true, false, false, false, true, false, false, false, false, false, false] rfl rfl (by kernel_rfl) (fun _ _ _ h => h) (Or.inl ⟨by rfl, ?_⟩) ?_ ?_
  rotate_left
  · intro w'
    go_simp
    with_reducible rfl
  rotate_left
  · simp only [Act.put, List.setIfInBounds_toArray, List.set_cons_zero, List.set_cons_succ, i64_w, i32_w]
    rfl
  refine pure_ (i := 3) (N := some 8) (v := ?_) (a' := ?_) #[true, true, true, true, false, false, true, false, false, false, false, false, false] rfl rfl (by kernel_rfl) (fun _ _ _ h => h) (Or.inl ⟨by rfl, ?_⟩) ?_ ?_
  rotate_left
  · intro w'
    go_simp
    with_reducible rfl
  rotate_left
  · simp only [Act.put, List.setIfInBounds_toArray, List.set_cons_zero, List.set_cons_succ, i64_w, i32_w]
    rfl
  refine take_ (i := 4) (N := some 9) (v := ?_) (a' := ?_) #[true, true, true, true, true, false, true, false, false, false, false, false, false] rfl rfl (by kernel_rfl) (fun _ _ _ h => h) (Or.inl ⟨by rfl, ?_⟩) hHeld ?_ ?_
  rotate_left
  · rintro w' ⟨s0, s1, s2⟩
    go_simp
    with_reducible rfl
  rotate_left
  · simp only [Act.put, List.setIfInBounds_toArray, List.set_cons_zero, List.set_cons_succ, i64_w, i32_w]
    rfl
  refine take_ (i := 5) (N := some 10) (v := ?_) (a' := ?_) #[true, true, true, true, true, true, true, false, false, false, false, false, false] rfl rfl (by kernel_rfl) (fun _ _ _ h => h) (Or.inl ⟨by rfl, ?_⟩) hHeld ?_ ?_
  rotate_left
  · rintro w' ⟨s0, s1, s2⟩
    go_simp
    with_reducible rfl
  rotate_left
  · simp only [Act.put, List.setIfInBounds_toArray, List.set_cons_zero, List.set_cons_succ, i64_w, i32_w]
    rfl
  refine pure_ (i := 7) (N := some 12) (v := ?_) (a' := ?_) #[true, true, true, true, true, true, true, true, false, false, false, false, false] rfl rfl (by kernel_rfl) (fun _ _ _ h => h) (Or.inl ⟨by rfl, ?_⟩) ?_ ?_
  rotate_left
  · intro w'
    go_simp
    with_reducible rfl
  rotate_left
  · simp only [Act.put, List.setIfInBounds_toArray, List.set_cons_zero, List.set_cons_succ, i64_w, i32_w]
    rfl
  refine one_ (i := 8) (N := some 13) #[true, true, true, true, true, true, true, true, true, false, false, false, false] rfl rfl (by kernel_rfl) (by decide) (fun K hK => ?_)
  refine value_ (w1 := ?_) (v := ?_) (by rfl) rfl ?_ ?_
  rotate_left 2
  · go_simp
    constructor
    · rfl
    · rfl
  refine hK.out _ _ ⟨ca1 _, ca3 _, ca2 _⟩ (fun hHeld => ?_)
  clear hK K
  refine norm_ (a' := ?_) ?_ ?_
  rotate_left
  · show Act.put _ (some 13) _ = _
    simp only [Act.put, List.setIfInBounds_toArray, List.set_cons_zero, List.set_cons_succ, i64_w, i32_w]
    rfl
  refine one_ (i := 9) (N := some 14) #[true, true, true, true, true, true, true, true, true, true, false, false, false] rfl rfl (by kernel_rfl) (by decide) (fun K hK => ?_)
  refine Kd.R_append_step kP (w0 := W) base (by rfl) (.tmp 9) (.tmp 13) 26 TPair (.agg #[.int .i64 0, .int .i64 0]) 16 rfl Try.underlying26 infoPair rfl (by decide) (by omega) vp pairs (t, th) [.int .i64 t, .int .i64 th] (fun _ => True) (fun _ => False) rfl rfl (kP_mkM _ _ _ _) (fun _ hk => hk.elim) (fun _ _ => trivial) HBD.out.prs (below_drew1 (Below.refl _ _)) hbs.out (by have := HLL.out; omega) ?_
  intro v1 w1 hv1 hb1 hg1 hat1
  obtain ⟨A1, k1, rfl⟩ := Kd.R_slice hv1
  obtain ⟨z1, z2, z3⟩ := HBD.out.push hv1 hg1 hat1
  have hc1 : w1.cell? ⟨gp, 3, none⟩ = some vp := by simp only [World.cell?, hg1.block gp HBD.out.lt HBD.out.pne.1]; exact HBD.out.cells.2.2.2.1
  have hf1 : w1.frozen? ⟨gp, 3, none⟩ = false := by simp only [World.frozen?, hg1.block gp HBD.out.lt HBD.out.pne.1]; exact HBD.out.free 3
  rw [List.length_append, List.length_cons, List.length_nil] at z1 z2 z3 ⊢
  have HZ1 := Aside0.mk z1
  have HZ2 := Aside0.mk (below_ofDrew z2)
  have HZ3 := Aside0.mk z3
  have hcb1 := HX1.out.grown HBD.out (.inl rfl) hg1
  have hcb2 := HX2.out.grown HBD.out (.inr rfl) hg1
  clear hv1 hb1 hg1 hat1 z1 z2 z3
  refine hK.out _ _ ⟨hcb1, hc1, hcb2⟩ (fun hHeld => ?_)
  clear hK K
  refine norm_ (a' := ?_) ?_ ?_
  rotate_left
  · show Act.put _ (some 14) _ = _
    simp only [Act.put, List.setIfInBounds_toArray, List.set_cons_zero, List.set_cons_succ, i64_w, i32_w]
    rfl
  refine pure_ (i := 10) (N := some 15) (v := ?_) (a' := ?_) #[true, true, true, true, true, true, true, true, true, true, true, false, false] rfl rfl (by kernel_rfl) (fun _ _ _ h => h) (Or.inl ⟨by rfl, ?_⟩) ?_ ?_
  rotate_left
  · intro w'
    go_simp
    with_reducible rfl
  rotate_left
  · simp only [Act.put, List.setIfInBounds_toArray, List.set_cons_zero, List.set_cons_succ, i64_w, i32_w]
    rfl
  refine pure_ (i := 11) (N := some 16) (v := ?_) (a' := ?_) #[true, true, true, true, true, true, true, true, true, true, true, true, false] rfl rfl (by kernel_rfl) (fun _ _ _ h => h) (Or.inl ⟨by rfl, ?_⟩) ?_ ?_
  rotate_left
  · intro w'
    go_simp
    with_reducible rfl
  rotate_left
  · simp only [Act.put, List.setIfInBounds_toArray, List.set_cons_zero, List.set_cons_succ, i64_w, i32_w]
    rfl
  refine last_ (i := 12) (N := none) #[true, true, true, true, true, true, true, true, true, true, true, true, true] rfl rfl (by kernel_rfl) (by decide) (fun K hK => ?_)
  refine skip_ (w1 := ?_) (by rfl) rfl ?_ ?_
  rotate_left
  · go_simp
    rfl
  refine hK.out _ _ ?_
  clear hK K
  refine done_ (by kernel_rfl) ?_

  have bx := HZ3.out b1 _ _ (.inl rfl) HX1.out
  obtain ⟨w9, hw9⟩ : ∃ w9, w1.setCell ⟨gp, 3, none⟩ (.slice A1 (pairs.length + 1) k1) = w9 := ⟨_, rfl⟩
  rw [hw9] at HZ1 HZ2 bx ⊢
  clear hw9 hc1 hf1 hcb1 hcb2 HZ3 HX1 HX2 ca1 ca2 ca3 p1 p2 p3
  have r1 : w9.cell? ⟨b1, 0, none⟩ = some (.pointer (some ⟨gp, 0, none⟩)) := by simp [World.cell?, bx.blk]
  clear bx
  go_wp2_with (fail)
  go_ret
  exact ⟨_, rfl, ⟨_, HZ1.out⟩, rfl, HZ2.out⟩
end
end Go.Proofs.Ytjheocofbfmopaa.Hand
