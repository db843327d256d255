/- A pick of a worker computes the phase's pick; the counts at most 100000. -/
import Derived.Test.YtjheocofbfmopaaWkB
import Derived.Test.YtjheocofbfmopaaWkP
import Derived.Lib.SliceRun
namespace Go.Proofs.Ytjheocofbfmopaa.Hand
open Go.RowKit Go.Proofs.YtjheocofbfmopaaW.PrintWords Go.Proofs.YtjheocofbfmopaaW.PrintLast Go.Proofs.YtjheocofbfmopaaW.PrintMore
set_option linter.unusedVariables false
set_option linter.unusedSimpArgs false
attribute [local go_sem] max2_int min2_int max_two min_two max_three min_three max_four min_four
theorem eqIn_func (d : Nat) (f : Fn) (first cap : Array Value) (w : World) : (Op.equalIn (d + 1) TStep (.func f first cap) .nilFunc).run Try.prog w = .ok false w := by
  simp [Op.equalIn, run_underlying Try.underlying66]
theorem eqIn_nil (d : Nat) (w : World) : (Op.equalIn (d + 1) TStep .nilFunc .nilFunc).run Try.prog w = .ok true w := by
  simp [Op.equalIn, run_underlying Try.underlying66]
theorem neq_func (f : Fn) (first cap : Array Value) (w : World) : (binOp .neq 66 (.func f first cap) .nilFunc).run Try.prog w = .ok (.bool true) w := by
  simp only [binOp]
  simp [Op.equal, Op.maxDepth, eqIn_func 9999]
theorem neq_nil (w : World) : (binOp .neq 66 .nilFunc .nilFunc).run Try.prog w = .ok (.bool false) w := by
  simp only [binOp]
  simp [Op.equal, Op.maxDepth, eqIn_nil 9999]
attribute [local go_sem high] neq_func neq_nil
theorem st_func {P : Program} {a : Addr} {f : Fn} {x y : Array Value} {m : Mode} {w : World} : (store a (.func f x y) m).run P w = stored P w a (.func f x y) m := run_store P w a _ m rfl
theorem st_nilF {P : Program} {a : Addr} {m : Mode} {w : World} : (store a .nilFunc m).run P w = stored P w a .nilFunc m := run_store P w a _ m rfl
attribute [local go_sem] st_func st_nilF
section
variable {W W' : World} {base g gw gm gp gn L : Nat} {vp : Value} {x : Ph}
theorem Pool.step (h : Pool W base g gw gm gp gn vp L x) (k : Nat) (hk : k < x.st.length) {s : Stp} (e : x.st[k] = s) : ∃ v, W.cell? ⟨gn, k, none⟩ = some v ∧ W.frozen? ⟨gn, k, none⟩ = false ∧ StepIs W g gw gm gp s v := by
  obtain ⟨cs, h1, h2, h3⟩ := h.nxt
  obtain ⟨v, h4, h5⟩ := h3 k hk
  rw [e] at h5
  exact ⟨v, by simp [World.cell?, h1, h4], by simp [World.frozen?, h1], h5⟩
theorem Pool.stepFree (h : Pool W base g gw gm gp gn vp L x) (k : Nat) : W.frozen? ⟨gn, k, none⟩ = false := by
  obtain ⟨cs, h1, h2, h3⟩ := h.nxt
  simp [World.frozen?, h1]
structure Picked (W w' : World) (base g gw gm gp gn L : Nat) (x : Ph) : Prop where
  is : ∃ vp, Pool w' base g gw gm gp gn vp L x
  bl : Below base W w'
theorem Pool.up (h : Pool W base g gw gm gp gn vp L x) : Pool W base g gw gm gp gn vp (L + 1) x := by
  obtain ⟨⟨log, hl, hi⟩, h2, h3, h4, h5, h6, h7, h8, h9⟩ := h
  exact ⟨⟨log, by omega, hi⟩, h2, h3, h4, h5, h6, h7, h8, h9⟩
set_option maxHeartbeats 4000000 in
theorem pick_claim_yes (h : Pool W base g gw gm gp gn vp L x) (hL : L ≤ 90000) (k : Nat) (hk : k < x.st.length) (e : x.st[k] = .claim) (hs : x.st.length ≤ 64) (hp0 : 0 ≤ x.picks) (hp1 : x.picks ≤ 100000) (hc0 : 0 ≤ x.c) (hc1 : x.c ≤ 100000) (hcn : x.c + 1 ≤ x.n) :
    Calls Try.prog 19 #[.pointer (some ⟨gp, 0, none⟩), .int .i64 k] W fun e w' => e = .returned (.tuple #[]) ∧ Picked W w' base g gw gm gp gn (L + 1) { x with c := x.c + 1, st := x.st.set k (.work x.c), picks := x.picks + 1 } := by
  have hbs := Aside0.mk h.b1
  have hbn := Aside0.mk h.b2
  have c5 := h.cells.2.2.2.2.2
  have f5 := h.free 5
  have HP1 := h.setPicks (x.picks + 1)
  have HB1 := Aside0.mk ((Below.refl base W).trans (below_set_ (W := W) (j := 5) h.b1 (.int .i64 (x.picks + 1))))
  clear h
  obtain ⟨n, c, a, st, pairs, left, picks⟩ := x
  have HCN := Aside0.mk (show c + 1 ≤ n from hcn)
  clear hcn
  simp only at c5 HP1 HB1 hk e hs hp0 hp1 hc0 hc1 ⊢
  obtain ⟨m, hm⟩ : ∃ m, st.length = m := ⟨_, rfl⟩
  rw [hm] at hk hs
  have HM := Aside0.mk hm
  have HE := Aside0.mk e
  have HK := Aside0.mk hk
  have HS := Aside0.mk hs
  clear hm e
  go_enter Try.func19, Try.ntmps19
  go_upto_region 1 with (fail)
  obtain ⟨W1, hW1⟩ : ∃ W1, W.setCell ⟨gp, 5, none⟩ (.int .i64 (picks + 1)) = W1 := ⟨_, rfl⟩
  rw [hW1] at HP1 HB1 ⊢
  clear hW1 c5 f5
  have c2 := HP1.cells.2.2.1
  simp only at c2
  rw [HM.out] at c2
  obtain ⟨v, cn, fn, hv⟩ := HP1.step k (by rw [HM.out]; exact hk) HE.out
  obtain rfl := hv
  have HP := Aside0.mk (HP1.below (below_drew1 (Below.refl _ _)))
  have HQ := Aside0.mk HP1
  clear HP1
  go_wp2_with (fail)
  go_region_with (first | (go_at_call 27; (with_reducible refine (claim_yes HP.out (by omega) hc0 (by simp only; omega) k HCN.out).mono ?_); rintro e w2 ⟨v2, rfl, hp, hst, hb⟩; have HS2 := Aside0.mk hst; obtain ⟨q1, q2, rfl, _, _⟩ := hst; obtain ⟨_, _, e2, _, _, _⟩ := hp.cells; simp only at e2; rw [HM.out] at e2; obtain ⟨v3, cz, fz, _⟩ := hp.step k (by simp only; rw [HM.out]; exact HK.out) rfl; have HP2 := Aside0.mk hp; have HB2 := Aside0.mk (HB1.out.trans (below_ofDrew hb)); clear hp hb))
  all_goals go_wp2_with (fail)
  all_goals go_end0
  all_goals exact ⟨rfl, ⟨_, HP2.out.setStep k (by simp only; rw [HM.out]; exact HK.out) HS2.out⟩, HB2.out.trans (below_set_ hbn.out _)⟩
set_option maxHeartbeats 4000000 in
theorem pick_claim_no (h : Pool W base g gw gm gp gn vp L x) (hL : L ≤ 90000) (k : Nat) (hk : k < x.st.length) (e : x.st[k] = .claim) (hs : x.st.length ≤ 64) (hp0 : 0 ≤ x.picks) (hp1 : x.picks ≤ 100000) (hc0 : 0 ≤ x.c) (hc1 : x.c ≤ 100000) (hcn : ¬ x.c + 1 ≤ x.n) :
    Calls Try.prog 19 #[.pointer (some ⟨gp, 0, none⟩), .int .i64 k] W fun e w' => e = .returned (.tuple #[]) ∧ Picked W w' base g gw gm gp gn (L + 1) { x with c := x.c + 1, st := x.st.set k .arrive, picks := x.picks + 1 } := by
  have hbs := Aside0.mk h.b1
  have hbn := Aside0.mk h.b2
  have c5 := h.cells.2.2.2.2.2
  have f5 := h.free 5
  have HP1 := h.setPicks (x.picks + 1)
  have HB1 := Aside0.mk ((Below.refl base W).trans (below_set_ (W := W) (j := 5) h.b1 (.int .i64 (x.picks + 1))))
  clear h
  obtain ⟨n, c, a, st, pairs, left, picks⟩ := x
  have HCN := Aside0.mk (show n < c + 1 from Int.not_le.1 hcn)
  clear hcn
  simp only at c5 HP1 HB1 hk e hs hp0 hp1 hc0 hc1 ⊢
  obtain ⟨m, hm⟩ : ∃ m, st.length = m := ⟨_, rfl⟩
  rw [hm] at hk hs
  have HM := Aside0.mk hm
  have HE := Aside0.mk e
  have HK := Aside0.mk hk
  have HS := Aside0.mk hs
  clear hm e
  go_enter Try.func19, Try.ntmps19
  go_upto_region 1 with (fail)
  obtain ⟨W1, hW1⟩ : ∃ W1, W.setCell ⟨gp, 5, none⟩ (.int .i64 (picks + 1)) = W1 := ⟨_, rfl⟩
  rw [hW1] at HP1 HB1 ⊢
  clear hW1 c5 f5
  have c2 := HP1.cells.2.2.1
  simp only at c2
  rw [HM.out] at c2
  obtain ⟨v, cn, fn, hv⟩ := HP1.step k (by rw [HM.out]; exact hk) HE.out
  obtain rfl := hv
  have HP := Aside0.mk (HP1.below (below_drew1 (Below.refl _ _)))
  have HQ := Aside0.mk HP1
  clear HP1
  go_wp2_with (fail)
  go_region_with (first | (go_at_call 27; (with_reducible refine (claim_no HP.out (by omega) hc0 (by simp only; omega) k (Int.not_le.2 HCN.out)).mono ?_); rintro e w2 ⟨v2, rfl, hp, hst, hb⟩; have HS2 := Aside0.mk hst; obtain rfl := hst; obtain ⟨_, _, e2, _, _, _⟩ := hp.cells; simp only at e2; rw [HM.out] at e2; obtain ⟨v3, cz, fz, _⟩ := hp.step k (by simp only; rw [HM.out]; exact HK.out) rfl; have HP2 := Aside0.mk hp; have HB2 := Aside0.mk (HB1.out.trans (below_ofDrew hb)); clear hp hb))
  all_goals go_wp2_with (fail)
  all_goals go_end0
  all_goals exact ⟨rfl, ⟨_, HP2.out.setStep k (by simp only; rw [HM.out]; exact HK.out) HS2.out⟩, HB2.out.trans (below_set_ hbn.out _)⟩
set_option maxHeartbeats 4000000 in
theorem pick_arrive (h : Pool W base g gw gm gp gn vp L x) (hL : L ≤ 90000) (k : Nat) (hk : k < x.st.length) (e : x.st[k] = .arrive) (hs : x.st.length ≤ 64) (hp0 : 0 ≤ x.picks) (hp1 : x.picks ≤ 100000) (ha0 : 0 ≤ x.a) (ha1 : x.a ≤ 100000) :
    Calls Try.prog 19 #[.pointer (some ⟨gp, 0, none⟩), .int .i64 k] W fun e w' => e = .returned (.tuple #[]) ∧ Picked W w' base g gw gm gp gn (L + 1) { x with a := x.a + 1, st := x.st.set k .wait, picks := x.picks + 1 } := by
  have hbs := Aside0.mk h.b1
  have hbn := Aside0.mk h.b2
  have c5 := h.cells.2.2.2.2.2
  have f5 := h.free 5
  have HP1 := h.setPicks (x.picks + 1)
  have HB1 := Aside0.mk ((Below.refl base W).trans (below_set_ (W := W) (j := 5) h.b1 (.int .i64 (x.picks + 1))))
  clear h
  obtain ⟨n, c, a, st, pairs, left, picks⟩ := x
  simp only at c5 HP1 HB1 hk e hs hp0 hp1 ha0 ha1 ⊢
  obtain ⟨m, hm⟩ : ∃ m, st.length = m := ⟨_, rfl⟩
  rw [hm] at hk hs
  have HM := Aside0.mk hm
  have HE := Aside0.mk e
  have HK := Aside0.mk hk
  have HS := Aside0.mk hs
  clear hm e
  go_enter Try.func19, Try.ntmps19
  go_upto_region 1 with (fail)
  obtain ⟨W1, hW1⟩ : ∃ W1, W.setCell ⟨gp, 5, none⟩ (.int .i64 (picks + 1)) = W1 := ⟨_, rfl⟩
  rw [hW1] at HP1 HB1 ⊢
  clear hW1 c5 f5
  have c2 := HP1.cells.2.2.1
  simp only at c2
  rw [HM.out] at c2
  obtain ⟨v, cn, fn, hv⟩ := HP1.step k (by rw [HM.out]; exact hk) HE.out
  obtain rfl := hv
  have HP := Aside0.mk (HP1.below (below_drew1 (Below.refl _ _)))
  have HQ := Aside0.mk HP1
  clear HP1
  go_wp2_with (fail)
  go_region_with (first | (go_at_call 33; (with_reducible refine (arrive_calls HP.out (by omega) ha0 (by simp only; omega) k).mono ?_); rintro e w2 ⟨v2, rfl, hp, hst, hb⟩; have HS2 := Aside0.mk hst; obtain rfl := hst; obtain ⟨_, _, e2, _, _, _⟩ := hp.cells; simp only at e2; rw [HM.out] at e2; obtain ⟨v3, cz, fz, _⟩ := hp.step k (by simp only; rw [HM.out]; exact HK.out) rfl; have HP2 := Aside0.mk hp; have HB2 := Aside0.mk (HB1.out.trans (below_ofDrew hb)); clear hp hb))
  all_goals go_wp2_with (fail)
  all_goals go_end0
  all_goals exact ⟨rfl, ⟨_, HP2.out.setStep k (by simp only; rw [HM.out]; exact HK.out) HS2.out⟩, HB2.out.trans (below_set_ hbn.out _)⟩
set_option maxHeartbeats 4000000 in
theorem pick_wait_yes (h : Pool W base g gw gm gp gn vp L x) (hL : L ≤ 90000) (k : Nat) (hk : k < x.st.length) (e : x.st[k] = .wait) (hs : x.st.length ≤ 64) (hp0 : 0 ≤ x.picks) (hp1 : x.picks ≤ 100000) (haw : x.a = x.st.length) (hl0 : 0 ≤ x.left) (hl1 : x.left ≤ 100000) :
    Calls Try.prog 19 #[.pointer (some ⟨gp, 0, none⟩), .int .i64 k] W fun e w' => e = .returned (.tuple #[]) ∧ Picked W w' base g gw gm gp gn (L + 1) { x with left := x.left - 1, st := x.st.set k .done, picks := x.picks + 1 } := by
  have hbs := Aside0.mk h.b1
  have hbn := Aside0.mk h.b2
  have c5 := h.cells.2.2.2.2.2
  have f5 := h.free 5
  have HP1 := h.setPicks (x.picks + 1)
  have HB1 := Aside0.mk ((Below.refl base W).trans (below_set_ (W := W) (j := 5) h.b1 (.int .i64 (x.picks + 1))))
  clear h
  obtain ⟨n, c, a, st, pairs, left, picks⟩ := x
  have HCN := Aside0.mk (show a = (st.length : Int) from haw)
  clear haw
  simp only at c5 HP1 HB1 hk e hs hp0 hp1 hl0 hl1 ⊢
  obtain ⟨m, hm⟩ : ∃ m, st.length = m := ⟨_, rfl⟩
  rw [hm] at hk hs
  have HM := Aside0.mk hm
  have HE := Aside0.mk e
  have HK := Aside0.mk hk
  have HS := Aside0.mk hs
  clear hm e
  go_enter Try.func19, Try.ntmps19
  go_upto_region 1 with (fail)
  obtain ⟨W1, hW1⟩ : ∃ W1, W.setCell ⟨gp, 5, none⟩ (.int .i64 (picks + 1)) = W1 := ⟨_, rfl⟩
  rw [hW1] at HP1 HB1 ⊢
  clear hW1 c5 f5
  have c2 := HP1.cells.2.2.1
  simp only at c2
  rw [HM.out] at c2
  obtain ⟨v, cn, fn, hv⟩ := HP1.step k (by rw [HM.out]; exact hk) HE.out
  obtain rfl := hv
  have HP := Aside0.mk (HP1.below (below_drew1 (Below.refl _ _)))
  have HQ := Aside0.mk HP1
  clear HP1
  go_wp2_with (fail)
  go_region_with (first | (go_at_call 37; (with_reducible refine (wait_yes HP.out (by omega) k (by simp only; rw [HM.out]; have := HS.out; omega) HCN.out hl0 (by simp only; omega)).mono ?_); rintro e w2 ⟨v2, rfl, hp, hst, hb⟩; have HS2 := Aside0.mk hst; obtain rfl := hst; obtain ⟨_, _, e2, _, _, _⟩ := hp.cells; simp only at e2; rw [HM.out] at e2; obtain ⟨v3, cz, fz, _⟩ := hp.step k (by simp only; rw [HM.out]; exact HK.out) rfl; have HP2 := Aside0.mk hp; have HB2 := Aside0.mk (HB1.out.trans (below_ofDrew hb)); clear hp hb))
  all_goals go_wp2_with (fail)
  all_goals go_end0
  all_goals exact ⟨rfl, ⟨_, HP2.out.setStep k (by simp only; rw [HM.out]; exact HK.out) HS2.out⟩, HB2.out.trans (below_set_ hbn.out _)⟩
set_option maxHeartbeats 4000000 in
theorem pick_wait_no (h : Pool W base g gw gm gp gn vp L x) (hL : L ≤ 90000) (k : Nat) (hk : k < x.st.length) (e : x.st[k] = .wait) (hs : x.st.length ≤ 64) (hp0 : 0 ≤ x.picks) (hp1 : x.picks ≤ 100000) (haw : x.a ≠ x.st.length) :
    Calls Try.prog 19 #[.pointer (some ⟨gp, 0, none⟩), .int .i64 k] W fun e w' => e = .returned (.tuple #[]) ∧ Picked W w' base g gw gm gp gn (L + 1) { x with st := x.st.set k .wait, picks := x.picks + 1 } := by
  have hbs := Aside0.mk h.b1
  have hbn := Aside0.mk h.b2
  have c5 := h.cells.2.2.2.2.2
  have f5 := h.free 5
  have HP1 := h.setPicks (x.picks + 1)
  have HB1 := Aside0.mk ((Below.refl base W).trans (below_set_ (W := W) (j := 5) h.b1 (.int .i64 (x.picks + 1))))
  clear h
  obtain ⟨n, c, a, st, pairs, left, picks⟩ := x
  have HCN := Aside0.mk (show ¬ (a = (st.length : Int)) from haw)
  clear haw
  simp only at c5 HP1 HB1 hk e hs hp0 hp1  ⊢
  obtain ⟨m, hm⟩ : ∃ m, st.length = m := ⟨_, rfl⟩
  rw [hm] at hk hs
  have HM := Aside0.mk hm
  have HE := Aside0.mk e
  have HK := Aside0.mk hk
  have HS := Aside0.mk hs
  clear hm e
  go_enter Try.func19, Try.ntmps19
  go_upto_region 1 with (fail)
  obtain ⟨W1, hW1⟩ : ∃ W1, W.setCell ⟨gp, 5, none⟩ (.int .i64 (picks + 1)) = W1 := ⟨_, rfl⟩
  rw [hW1] at HP1 HB1 ⊢
  clear hW1 c5 f5
  have c2 := HP1.cells.2.2.1
  simp only at c2
  rw [HM.out] at c2
  obtain ⟨v, cn, fn, hv⟩ := HP1.step k (by rw [HM.out]; exact hk) HE.out
  obtain rfl := hv
  have HP := Aside0.mk (HP1.below (below_drew1 (Below.refl _ _)))
  have HQ := Aside0.mk HP1
  clear HP1
  go_wp2_with (fail)
  go_region_with (first | (go_at_call 37; (with_reducible refine (wait_no HP.out (by omega) k (by simp only; rw [HM.out]; have := HS.out; omega) HCN.out).mono ?_); rintro e w2 ⟨v2, rfl, hp, hst, hb⟩; have HS2 := Aside0.mk hst; obtain rfl := hst; obtain ⟨_, _, e2, _, _, _⟩ := hp.cells; simp only at e2; rw [HM.out] at e2; obtain ⟨v3, cz, fz, _⟩ := hp.step k (by simp only; rw [HM.out]; exact HK.out) rfl; have HP2 := Aside0.mk hp; have HB2 := Aside0.mk (HB1.out.trans (below_ofDrew hb)); clear hp hb))
  all_goals go_wp2_with (fail)
  all_goals go_end0
  all_goals exact ⟨rfl, ⟨_, HP2.out.setStep k (by simp only; rw [HM.out]; exact HK.out) HS2.out⟩, HB2.out.trans (below_set_ hbn.out _)⟩
set_option maxHeartbeats 4000000 in
theorem pick_work (t : Int) (h : Pool W base g gw gm gp gn vp L x) (hL : L ≤ 90000) (k : Nat) (hk : k < x.st.length) (e : x.st[k] = (.work t)) (hs : x.st.length ≤ 64) (hp0 : 0 ≤ x.picks) (hp1 : x.picks ≤ 100000) (hpl : x.pairs.length ≤ 100000) :
    Calls Try.prog 19 #[.pointer (some ⟨gp, 0, none⟩), .int .i64 k] W fun e w' => e = .returned (.tuple #[]) ∧ Picked W w' base g gw gm gp gn (L + 1) { x with pairs := x.pairs ++ [(t, (k : Int))], st := x.st.set k .claim, picks := x.picks + 1 } := by
  have hbs := Aside0.mk h.b1
  have hbn := Aside0.mk h.b2
  have c5 := h.cells.2.2.2.2.2
  have f5 := h.free 5
  have HP1 := h.setPicks (x.picks + 1)
  have HB1 := Aside0.mk ((Below.refl base W).trans (below_set_ (W := W) (j := 5) h.b1 (.int .i64 (x.picks + 1))))
  clear h
  obtain ⟨n, c, a, st, pairs, left, picks⟩ := x
  simp only at c5 HP1 HB1 hk e hs hp0 hp1 hpl ⊢
  obtain ⟨m, hm⟩ : ∃ m, st.length = m := ⟨_, rfl⟩
  rw [hm] at hk hs
  have HM := Aside0.mk hm
  have HE := Aside0.mk e
  have HK := Aside0.mk hk
  have HS := Aside0.mk hs
  clear hm e
  go_enter Try.func19, Try.ntmps19
  go_upto_region 1 with (fail)
  obtain ⟨W1, hW1⟩ : ∃ W1, W.setCell ⟨gp, 5, none⟩ (.int .i64 (picks + 1)) = W1 := ⟨_, rfl⟩
  rw [hW1] at HP1 HB1 ⊢
  clear hW1 c5 f5
  have c2 := HP1.cells.2.2.1
  simp only at c2
  rw [HM.out] at c2
  obtain ⟨v, cn, fn, hv⟩ := HP1.step k (by rw [HM.out]; exact hk) HE.out
  obtain ⟨b1, b2, rfl, hx1, hx2⟩ := hv
  have HX1 := Aside0.mk (Bx.mk (W := W1.drew) hx1.blk (hx1.far.keep (Nat.le_refl _) rfl))
  have HX2 := Aside0.mk (Bx.mk (W := W1.drew) hx2.blk (hx2.far.keep (Nat.le_refl _) rfl))
  clear hx1 hx2
  have HP := Aside0.mk (HP1.below (below_drew1 (Below.refl _ _)))
  have HQ := Aside0.mk HP1
  clear HP1
  go_wp2_with (fail)
  go_region_with (first | (go_at_call 36; (with_reducible refine (work1_calls HP.out k t b1 b2 HX1.out HX2.out (by simp only; omega)).mono ?_); rintro e w2 ⟨v2, vp2, rfl, hp, hst, hb⟩; have HS2 := Aside0.mk hst; obtain rfl := hst; obtain ⟨_, _, e2, _, _, _⟩ := hp.cells; simp only at e2; rw [HM.out] at e2; obtain ⟨v3, cz, fz, _⟩ := hp.step k (by simp only; rw [HM.out]; exact HK.out) rfl; have HP2 := Aside0.mk hp; have HB2 := Aside0.mk (HB1.out.trans (below_ofDrew hb)); clear hp hb))
  all_goals go_wp2_with (fail)
  all_goals go_end0
  all_goals exact ⟨rfl, ⟨_, HP2.out.up.setStep k (by simp only; rw [HM.out]; exact HK.out) HS2.out⟩, HB2.out.trans (below_set_ hbn.out _)⟩
set_option maxHeartbeats 4000000 in
theorem pick_done (h : Pool W base g gw gm gp gn vp L x) (hL : L ≤ 90000) (k : Nat) (hk : k < x.st.length) (e : x.st[k] = .done) (hs : x.st.length ≤ 64) (hp0 : 0 ≤ x.picks) (hp1 : x.picks ≤ 100000)  :
    Calls Try.prog 19 #[.pointer (some ⟨gp, 0, none⟩), .int .i64 k] W fun e w' => e = .returned (.tuple #[]) ∧ Picked W w' base g gw gm gp gn (L + 1) { x with picks := x.picks + 1 } := by
  have hbs := Aside0.mk h.b1
  have hbn := Aside0.mk h.b2
  have c5 := h.cells.2.2.2.2.2
  have f5 := h.free 5
  have HP1 := h.setPicks (x.picks + 1)
  have HB1 := Aside0.mk ((Below.refl base W).trans (below_set_ (W := W) (j := 5) h.b1 (.int .i64 (x.picks + 1))))
  clear h
  obtain ⟨n, c, a, st, pairs, left, picks⟩ := x
  simp only at c5 HP1 HB1 hk e hs hp0 hp1  ⊢
  obtain ⟨m, hm⟩ : ∃ m, st.length = m := ⟨_, rfl⟩
  rw [hm] at hk hs
  have HM := Aside0.mk hm
  have HE := Aside0.mk e
  have HK := Aside0.mk hk
  have HS := Aside0.mk hs
  clear hm e
  go_enter Try.func19, Try.ntmps19
  go_upto_region 1 with (fail)
  obtain ⟨W1, hW1⟩ : ∃ W1, W.setCell ⟨gp, 5, none⟩ (.int .i64 (picks + 1)) = W1 := ⟨_, rfl⟩
  rw [hW1] at HP1 HB1 ⊢
  clear hW1 c5 f5
  have c2 := HP1.cells.2.2.1
  simp only at c2
  rw [HM.out] at c2
  obtain ⟨v, cn, fn, hv⟩ := HP1.step k (by rw [HM.out]; exact hk) HE.out
  obtain rfl := hv
  have HP := Aside0.mk (HP1.below (below_drew1 (Below.refl _ _)))
  have HQ := Aside0.mk HP1
  clear HP1
  go_wp2_with (fail)
  go_end0
  exact ⟨rfl, ⟨_, HQ.out.up⟩, HB1.out⟩
end
end Go.Proofs.Ytjheocofbfmopaa.Hand
