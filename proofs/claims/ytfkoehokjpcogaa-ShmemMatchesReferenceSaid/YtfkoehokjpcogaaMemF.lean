/- ropeladderlaw01: Op and do; the conditions: the sizes are at most 256, the log and the violations at most 1000000; Raw's bytes are bytes. -/
import Derived.Test.YtfkoehokjpcogaaMemD
namespace Go.Proofs.Ytfkoehokjpcogaa.Hand
open Go.RowKit Go.Proofs.YtfkoehokjpcogaaW.PrintWords Go.Proofs.YtfkoehokjpcogaaW.PrintLast Go.Proofs.YtfkoehokjpcogaaW.PrintMore
set_option linter.unusedVariables false
attribute [local go_sem] max2_int min2_int max_two min_two max_three min_three max_four min_four

structure Raw where
  k : Int
  t : Int
  x : Int
  a : Int
  b : Int
structure Raw.ok (r : Raw) : Prop where
  k0 : 0 ≤ r.k
  k1 : r.k ≤ 255
  t0 : 0 ≤ r.t
  t1 : r.t ≤ 255
  x0 : 0 ≤ r.x
  x1 : r.x ≤ 255
structure OpV where
  kd : Int
  th : Int
  ix : Int
  a : Int
  b : Int
def opOf (r : Raw) : OpV := ⟨r.k % 7 + 1, r.t % 4, r.x % 6 - 1, r.a, r.b⟩
def St.run1 (s : St) (o : OpV) : St × Int × Bool :=
  if o.kd = 1 then ((s.load o.th o.ix).1, (s.load o.th o.ix).2, false)
  else if o.kd = 2 then ((s.add o.th o.ix o.a).1, (s.add o.th o.ix o.a).2, false)
  else if o.kd = 3 then ((s.cas o.th o.ix o.a o.b).1, 0, (s.cas o.th o.ix o.a o.b).2)
  else if o.kd = 4 then (s.store o.th o.ix o.a, 0, false)
  else if o.kd = 5 then ((s.tryLock o.th o.ix).1, 0, (s.tryLock o.th o.ix).2)
  else if o.kd = 6 then ((s.unlock o.th o.ix).1, 0, (s.unlock o.th o.ix).2)
  else ((s.touch o.th o.ix).1, 0, (s.touch o.th o.ix).2)

set_option maxHeartbeats 2000000 in
theorem op_calls (r : Raw) (W : World) (hr : r.ok) :
    Calls Try.prog 12 #[.agg #[.int .u8 r.k, .int .u8 r.t, .int .u8 r.x, .int .i64 r.a, .int .i64 r.b]] W fun e w' =>
      e = .returned (.agg #[.int .i64 (r.k % 7 + 1), .int .i64 (r.t % 4), .int .i64 (r.x % 6 - 1), .int .i64 r.a, .int .i64 r.b]) ∧ Below W.heap.size W w' := by
  obtain ⟨h1, h2, h3, h4, h5, h6⟩ := hr
  obtain ⟨k, t, x, a, b⟩ := r
  simp only at h1 h2 h3 h4 h5 h6 ⊢
  go_enter Try.func12, Try.ntmps12
  go_wp2
  exact bodyPost_ret (v := .agg #[.int .i64 (k % 7 + 1), .int .i64 (t % 4), .int .i64 (x % 6 - 1), .int .i64 a, .int .i64 b]) (by simp [results, Try.results12, go_sem]) rfl ⟨rfl, below_alloc (below_alloc (Below.refl _ _) _) _⟩

section
variable {W : World} {base g gw gm : Nat} {s : St}
set_option maxHeartbeats 4000000 in
theorem do_calls (h : Is W base g gw gm s) (hf : s.fit) (kd th ix a b : Int) :
    Calls Try.prog 13 #[.pointer (some ⟨g, 0, none⟩), .agg #[.int .i64 kd, .int .i64 th, .int .i64 ix, .int .i64 a, .int .i64 b]] W fun e w' =>
      e = .returned (.tuple #[.int .i64 (s.run1 ⟨kd, th, ix, a, b⟩).2.1, .bool (s.run1 ⟨kd, th, ix, a, b⟩).2.2]) ∧ Left W w' base g gw gm (s.run1 ⟨kd, th, ix, a, b⟩).1 := by
  have HF := Aside0.mk hf
  have HA := Aside0.mk (h.left (W' := W.alloc (.cells #[.int .i64 kd, .int .i64 th, .int .i64 ix, .int .i64 a, .int .i64 b] 29)) (below_alloc (Below.refl _ _) _))
  clear h hf
  by_cases h1 : kd = 1
  · have er : s.run1 ⟨kd, th, ix, a, b⟩ = s.run1 ⟨1, th, ix, a, b⟩ := by rw [h1]
    rw [er]
    clear er
    subst h1
    go_enter Try.func13, Try.ntmps13
    go_wp2_with (first | (go_at_call 26; refine (load_calls HA.out.is HF.out th ix).mono ?_; rintro e w1 ⟨rfl, hl1⟩; have HL := Aside0.mk hl1; clear hl1))
    go_ret2
    exact ⟨rfl, HA.out.trans HL.out⟩
  · skip
    by_cases h2 : kd = 2
    · have er : s.run1 ⟨kd, th, ix, a, b⟩ = s.run1 ⟨2, th, ix, a, b⟩ := by rw [h2]
      rw [er]
      clear er
      subst h2
      clear h1
      go_enter Try.func13, Try.ntmps13
      go_wp2_with (first | (go_at_call 21; refine (add_calls HA.out.is HF.out th ix a).mono ?_; rintro e w1 ⟨rfl, hl1⟩; have HL := Aside0.mk hl1; clear hl1))
      go_ret2
      exact ⟨rfl, HA.out.trans HL.out⟩
    · skip
      by_cases h3 : kd = 3
      · have er : s.run1 ⟨kd, th, ix, a, b⟩ = s.run1 ⟨3, th, ix, a, b⟩ := by rw [h3]
        rw [er]
        clear er
        subst h3
        clear h1 h2
        go_enter Try.func13, Try.ntmps13
        go_wp2_with (first | (go_at_call 22; refine (cas_calls HA.out.is HF.out th ix a b).mono ?_; rintro e w1 ⟨rfl, hl1⟩; have HL := Aside0.mk hl1; clear hl1))
        go_ret2
        exact ⟨rfl, HA.out.trans HL.out⟩
      · skip
        by_cases h4 : kd = 4
        · have er : s.run1 ⟨kd, th, ix, a, b⟩ = s.run1 ⟨4, th, ix, a, b⟩ := by rw [h4]
          rw [er]
          clear er
          subst h4
          clear h1 h2 h3
          go_enter Try.func13, Try.ntmps13
          go_wp2_with (first | (go_at_call 24; refine (store_calls HA.out.is HF.out th ix a).mono ?_; rintro e w1 ⟨rfl, hl1⟩; have HL := Aside0.mk hl1; clear hl1))
          go_ret2
          exact ⟨rfl, HA.out.trans HL.out⟩
        · skip
          by_cases h5 : kd = 5
          · have er : s.run1 ⟨kd, th, ix, a, b⟩ = s.run1 ⟨5, th, ix, a, b⟩ := by rw [h5]
            rw [er]
            clear er
            subst h5
            clear h1 h2 h3 h4
            go_enter Try.func13, Try.ntmps13
            go_wp2_with (first | (go_at_call 20; refine (tryLock_calls HA.out.is HF.out th ix).mono ?_; rintro e w1 ⟨rfl, hl1⟩; have HL := Aside0.mk hl1; clear hl1))
            go_ret2
            exact ⟨rfl, HA.out.trans HL.out⟩
          · skip
            by_cases h6 : kd = 6
            · have er : s.run1 ⟨kd, th, ix, a, b⟩ = s.run1 ⟨6, th, ix, a, b⟩ := by rw [h6]
              rw [er]
              clear er
              subst h6
              clear h1 h2 h3 h4 h5
              go_enter Try.func13, Try.ntmps13
              go_wp2_with (first | (go_at_call 23; refine (unlock_calls HA.out.is HF.out th ix).mono ?_; rintro e w1 ⟨rfl, hl1⟩; have HL := Aside0.mk hl1; clear hl1))
              go_ret2
              exact ⟨rfl, HA.out.trans HL.out⟩
            · skip
              have er : s.run1 ⟨kd, th, ix, a, b⟩ = ((s.touch th ix).1, 0, (s.touch th ix).2) := by simp [St.run1, h1, h2, h3, h4, h5, h6]
              rw [er]
              clear er
              go_enter Try.func13, Try.ntmps13
              go_wp2_with (first | (go_at_call 25; refine (touch_calls HA.out.is HF.out th ix).mono ?_; rintro e w1 ⟨rfl, hl1⟩; have HL := Aside0.mk hl1; clear hl1))
              go_ret2
              exact ⟨rfl, HA.out.trans HL.out⟩
end
end Go.Proofs.Ytfkoehokjpcogaa.Hand
