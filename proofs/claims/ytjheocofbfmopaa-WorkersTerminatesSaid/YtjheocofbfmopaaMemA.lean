/- shmem: the small functions over a memory: at, bit, record, Word, Holder, Violations, Log; no condition but what each states. -/
import Derived.Test.YtjheocofbfmopaaMem
namespace Go.Proofs.Ytjheocofbfmopaa.Hand
open Go.RowKit Go.Proofs.YtjheocofbfmopaaW.PrintWords Go.Proofs.YtjheocofbfmopaaW.PrintLast Go.Proofs.YtjheocofbfmopaaW.PrintMore
set_option linter.unusedVariables false
attribute [local go_sem] max2_int min2_int max_two min_two max_three min_three max_four min_four

theorem infoAcc : (Try.prog.info? 89).map (fun i => (i.zero, i.size, i.bytes)) = some (some (.agg #[.int .i64 0, .int .i64 0, .int .i64 0, .int .i64 0, .int .i64 0, .bool false]), 6, 48) := by kernel_rfl

section
variable {W : World} {base g gw gm cw cm : Nat} {vl : Value} {log : List Acc} {V : Int} {ws : List Int} {ms : List Mut}

set_option maxHeartbeats 1000000 in
theorem atW_in (h : MemB W base g gw gm vl cw cm log V ws ms) (i : Int) (h0 : 0 ≤ i) (h1 : i < ws.length) (hw : ws.length ≤ 256) :
    Calls Try.prog 38 #[.pointer (some ⟨g, 2, none⟩), .int .i64 i] W fun e w' => e = .returned (.pointer (some ⟨gw, i.toNat, none⟩)) ∧ w' = W := by
  obtain ⟨c0, c1, c2, c3⟩ := h.cell
  clear h c0 c1 c3
  go_enter Try.func38, Try.ntmps38
  go_wp2
  go_ret
  exact ⟨by simp, rfl⟩
set_option maxHeartbeats 1000000 in
theorem atW_out (h : MemB W base g gw gm vl cw cm log V ws ms) (i : Int) (h0 : ¬ (0 ≤ i ∧ i < ws.length)) (hw : ws.length ≤ 256) :
    Calls Try.prog 38 #[.pointer (some ⟨g, 2, none⟩), .int .i64 i] W fun e w' => e = .returned (.pointer none) ∧ w' = W := by
  obtain ⟨c0, c1, c2, c3⟩ := h.cell
  clear h c0 c1 c3
  by_cases hi : i < 0
  · clear h0
    go_enter Try.func38, Try.ntmps38
    go_wp2
    go_ret
    exact ⟨rfl, rfl⟩
  · have h1 : ¬ i < ws.length := by omega
    clear h0
    go_enter Try.func38, Try.ntmps38
    go_wp2
    go_ret
    exact ⟨rfl, rfl⟩
end
section
variable {W : World} {base g gw gm : Nat} {log : List Acc} {V : Int} {ws : List Int} {ms : List Mut}
set_option maxHeartbeats 1000000 in
theorem record_calls (h : IsMem W base g gw gm log V ws ms) (th kd ix old new : Int) (ok : Bool) (hl : log.length ≤ 1000000) :
    Calls Try.prog 39 #[.pointer (some ⟨g, 0, none⟩), .int .i64 th, .int .i64 kd, .int .i64 ix, .int .i64 old, .int .i64 new, .bool ok] W fun e w' =>
      e = .returned (.tuple #[]) ∧ IsMem w' base g gw gm (log ++ [⟨th, kd, ix, old, new, ok⟩]) V ws ms ∧ MF W w' g gw gm ∧ Below base W w' := by
  obtain ⟨vl, cw, cm, h⟩ := h
  obtain ⟨c0, _, _, _⟩ := h.cell
  have HH := Aside0.mk h
  have HL := Aside0.mk hl
  have hlt := h.lt
  have hbg := h.hg
  have HF := Aside0.mk (h.free 0)
  have HC := Aside0.mk c0
  clear h hl
  go_enter Try.func39, Try.ntmps39
  go_wp2_with (first | ((with_reducible refine gate_builtin (b := .append) (xs := #[.tmp 18, .tmp 26]) rfl ?_); at_builtin; refine Kd.R_append kA (w0 := W) base rfl (.tmp 18) (.tmp 26) 74 89 (.agg #[.int .i64 0, .int .i64 0, .int .i64 0, .int .i64 0, .int .i64 0, .bool false]) 48 rfl Try.underlying74 infoAcc rfl (by decide) (by omega) vl log ⟨th, kd, ix, old, new, ok⟩ [.int .i64 th, .int .i64 kd, .int .i64 ix, .int .i64 old, .int .i64 new, .bool ok] (fun _ => True) (fun _ => False) rfl rfl ?aP (fun _ hk => hk.elim) ?aF HH.out.lo ?aB ?aS ?aL ?_; (case aP => exact kA_mkM _ _ _ _); (case aF => exact (fun _ _ => trivial)); (case aB => exact Below.refl _ _); (case aS => omega); (case aL => have := HL.out; omega); intro v1 w1 hv1 hb1 hg1 hat1; obtain ⟨e1, h21, h31⟩ := HH.out.grownLog hg1; obtain ⟨A1, k1, rfl⟩ := Kd.R_slice hv1; have HV := Aside0.mk hv1; have HG := Aside0.mk hg1; have HAT := Aside0.mk hat1; have hc1 : w1.cell? ⟨g, 0, none⟩ = some vl := (by rw [← HC.out]; simp [World.cell?, e1]); have hf1 : w1.frozen? ⟨g, 0, none⟩ = false := (by rw [← HF.out]; simp [World.frozen?, e1]); clear hv1 hg1 hb1 hat1 e1 h21 h31))
  go_end0
  obtain ⟨k1, k2, k3⟩ := HH.out.pushLog HV.out HG.out HAT.out
  simp only [List.length_append, List.length_cons, List.length_nil, Nat.zero_add] at k1 k2 k3
  exact ⟨rfl, ⟨_, _, _, k1⟩, k2, k3⟩

set_option maxHeartbeats 2000000 in
theorem updLoad_in (h : IsMem W base g gw gm log V ws ms) (th i : Int)  (h0 : 0 ≤ i) (h1 : i < ws.length) (hw : ws.length ≤ 256) (hl : log.length ≤ 1000000) :
    Calls Try.prog 34 #[.pointer (some ⟨g, 0, none⟩), .int .i64 th, .int .i64 1, .int .i64 i, .func (.func 41) #[] #[]] W fun e w' =>
      e = .returned (.tuple #[.int .i64 ((rd ws i, true)).1, .bool ((rd ws i, true)).2]) ∧ IsMem w' base g gw gm (log ++ [⟨th, 1, i, rd ws i, ((rd ws i, true)).1, ((rd ws i, true)).2⟩]) V (ws.set i.toNat ((rd ws i, true)).1) ms ∧ MF W w' g gw gm ∧ Below base W w' := by
  obtain ⟨vl, cw, cm, h⟩ := h
  have HH := Aside0.mk h
  have HL := Aside0.mk hl
  obtain ⟨hx, hf⟩ := Kd.R_celln 0 h.words i h0 h1
  have hb := h.wlt.1
  clear h hl
  have hw2 := HH.out.setWord i.toNat ((rd ws i, true)).1
  have HW := Aside0.mk (show IsMem (W.setCell ⟨gw, i.toNat, none⟩ (.int .i64 ((rd ws i, true)).1)) base g gw gm log V (ws.set i.toNat ((rd ws i, true)).1) ms from ⟨_, _, _, hw2⟩)
  clear hw2
  have HM := Aside0.mk (MF.set (g := g) (gw := gw) (gm := gm) (W := W) (b := gw) (j := i.toNat) (.inr (.inl ⟨rfl, HH.out.wne⟩)) (.int .i64 ((rd ws i, true)).1))
  have HB := Aside0.mk (below_set_ (W := W) (b := gw) (j := i.toNat) hb (.int .i64 ((rd ws i, true)).1))
  · go_enter Try.func34, Try.ntmps34
    go_wp2_with (first | (go_at_call 38; refine (atW_in HH.out i h0 h1 hw).mono ?_; rintro e w1 ⟨rfl, rfl⟩) | (go_at_call 39; refine (record_calls HW.out _ _ _ _ _ _ HL.out).mono ?_; rintro e w2 ⟨rfl, hi2, hm2, hb2⟩; have HI2 := Aside0.mk hi2; have HM2 := Aside0.mk hm2; have HB2 := Aside0.mk hb2; clear hi2 hm2 hb2) | go_in)
    go_ret2
    exact ⟨rfl, HI2.out, HM.out.trans HM2.out, HB.out.trans HB2.out⟩

set_option maxHeartbeats 2000000 in
theorem updLoad_out (h : IsMem W base g gw gm log V ws ms) (th i : Int)  (h0 : ¬ (0 ≤ i ∧ i < ws.length)) (hw : ws.length ≤ 256) :
    Calls Try.prog 34 #[.pointer (some ⟨g, 0, none⟩), .int .i64 th, .int .i64 1, .int .i64 i, .func (.func 41) #[] #[]] W fun e w' =>
      e = .returned (.tuple #[.int .i64 0, .bool false]) ∧ w' = W := by
  obtain ⟨vl, cw, cm, h⟩ := h
  have HH := Aside0.mk h
  have H0 := Aside0.mk h0
  clear h h0
  go_enter Try.func34, Try.ntmps34
  go_wp2_with (first | (go_at_call 38; refine (atW_out HH.out i H0.out hw).mono ?_; rintro e w1 ⟨rfl, rfl⟩))
  go_ret2
  exact ⟨rfl, rfl⟩

set_option maxHeartbeats 2000000 in
theorem updAdd_in (h : IsMem W base g gw gm log V ws ms) (th i : Int) (v : Int) (q : Nat) (h0 : 0 ≤ i) (h1 : i < ws.length) (hw : ws.length ≤ 256) (hl : log.length ≤ 1000000) (hq : W.cell? ⟨q, 0, none⟩ = some (.int .i64 v)) :
    Calls Try.prog 34 #[.pointer (some ⟨g, 0, none⟩), .int .i64 th, .int .i64 2, .int .i64 i, .func (.func 35) #[] #[.pointer (some ⟨q, 0, none⟩)]] W fun e w' =>
      e = .returned (.tuple #[.int .i64 ((wrap64 (rd ws i + v), true)).1, .bool ((wrap64 (rd ws i + v), true)).2]) ∧ IsMem w' base g gw gm (log ++ [⟨th, 2, i, rd ws i, ((wrap64 (rd ws i + v), true)).1, ((wrap64 (rd ws i + v), true)).2⟩]) V (ws.set i.toNat ((wrap64 (rd ws i + v), true)).1) ms ∧ MF W w' g gw gm ∧ Below base W w' := by
  obtain ⟨vl, cw, cm, h⟩ := h
  have HH := Aside0.mk h
  have HL := Aside0.mk hl
  obtain ⟨hx, hf⟩ := Kd.R_celln 0 h.words i h0 h1
  have hb := h.wlt.1
  clear h hl
  have hw2 := HH.out.setWord i.toNat ((wrap64 (rd ws i + v), true)).1
  have HW := Aside0.mk (show IsMem (W.setCell ⟨gw, i.toNat, none⟩ (.int .i64 ((wrap64 (rd ws i + v), true)).1)) base g gw gm log V (ws.set i.toNat ((wrap64 (rd ws i + v), true)).1) ms from ⟨_, _, _, hw2⟩)
  clear hw2
  have HM := Aside0.mk (MF.set (g := g) (gw := gw) (gm := gm) (W := W) (b := gw) (j := i.toNat) (.inr (.inl ⟨rfl, HH.out.wne⟩)) (.int .i64 ((wrap64 (rd ws i + v), true)).1))
  have HB := Aside0.mk (below_set_ (W := W) (b := gw) (j := i.toNat) hb (.int .i64 ((wrap64 (rd ws i + v), true)).1))
  · go_enter Try.func34, Try.ntmps34
    go_wp2_with (first | (go_at_call 38; refine (atW_in HH.out i h0 h1 hw).mono ?_; rintro e w1 ⟨rfl, rfl⟩) | (go_at_call 39; refine (record_calls HW.out _ _ _ _ _ _ HL.out).mono ?_; rintro e w2 ⟨rfl, hi2, hm2, hb2⟩; have HI2 := Aside0.mk hi2; have HM2 := Aside0.mk hm2; have HB2 := Aside0.mk hb2; clear hi2 hm2 hb2) | go_in)
    go_ret2
    exact ⟨rfl, HI2.out, HM.out.trans HM2.out, HB.out.trans HB2.out⟩

set_option maxHeartbeats 2000000 in
theorem updAdd_out (h : IsMem W base g gw gm log V ws ms) (th i : Int) (v : Int) (q : Nat) (h0 : ¬ (0 ≤ i ∧ i < ws.length)) (hw : ws.length ≤ 256) :
    Calls Try.prog 34 #[.pointer (some ⟨g, 0, none⟩), .int .i64 th, .int .i64 2, .int .i64 i, .func (.func 35) #[] #[.pointer (some ⟨q, 0, none⟩)]] W fun e w' =>
      e = .returned (.tuple #[.int .i64 0, .bool false]) ∧ w' = W := by
  obtain ⟨vl, cw, cm, h⟩ := h
  have HH := Aside0.mk h
  have H0 := Aside0.mk h0
  clear h h0
  go_enter Try.func34, Try.ntmps34
  go_wp2_with (first | (go_at_call 38; refine (atW_out HH.out i H0.out hw).mono ?_; rintro e w1 ⟨rfl, rfl⟩))
  go_ret2
  exact ⟨rfl, rfl⟩

end
end Go.Proofs.Ytjheocofbfmopaa.Hand
