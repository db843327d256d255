/- shmem: TryLock, Unlock, Touch, Holder, Word, Violations compute the state's plain functions; the conditions: the sizes are at most 256, the log and the violations at most 1000000. -/
import Derived.Test.YtfkoehokjpcogaaMemC
namespace Go.Proofs.Ytfkoehokjpcogaa.Hand
open Go.RowKit Go.Proofs.YtfkoehokjpcogaaW.PrintWords Go.Proofs.YtfkoehokjpcogaaW.PrintLast Go.Proofs.YtfkoehokjpcogaaW.PrintMore
set_option linter.unusedVariables false

theorem eqM (d : Nat) (w : World) (x0 y0 : Bool) (x1 y1 : Int) :
    (Op.equalIn (d + 2) 72 (.agg #[.bool x0, .int .i64 x1]) (.agg #[.bool y0, .int .i64 y1])).run Try.prog w = .ok (x0 == y0 && (x1 == y1)) w := by
  refine eqA_of Try.underlying72 (by kernel_rfl) ?_
  refine eqf_cons (by rfl) (by go_simp; rfl) (by go_simp; rfl) (by go_simp) ?_
  exact eqf_last (by rfl) (by go_simp; rfl) (by go_simp; rfl) (by go_simp)
theorem infoMut : (Try.prog.info? 72).map (·.size) = some 2 := by kernel_rfl
attribute [local go_sem] max2_int min2_int max_two min_two max_three min_three max_four min_four
attribute [local go_sem high] eqM
section
variable {W : World} {base g gw gm : Nat} {s : St}
/-- A mutex that is there: its two cells. -/
theorem MemB.mcell {cw cm : Nat} {vl : Value} {log : List Acc} {V : Int} {ws : List Int} {ms : List Mut} (h : MemB W base g gw gm vl cw cm log V ws ms) (i : Int) (h0 : 0 ≤ i) (h1 : i < ms.length) :
    W.cell? ⟨gm, 2 * i.toNat, none⟩ = some (.bool (rdM ms i).held) ∧ W.cell? ⟨gm, 2 * i.toNat + 1, none⟩ = some (.int .i64 (rdM ms i).th) ∧ (∀ j, W.frozen? ⟨gm, 2 * i.toNat + j, none⟩ = false) ∧
      ∀ j u, [Value.bool (rdM ms i).held, Value.int .i64 (rdM ms i).th][j]? = some u → W.cell? ⟨gm, i.toNat * kM.sz + j, none⟩ = some u := by
  obtain ⟨c, hc, hM, hcc, hf⟩ := Kd.R_elem h.mus ⟨false, 0⟩ i h0 h1
  have e := kM_openM hM
  have e2 : i.toNat * kM.sz = 2 * i.toNat := by show i.toNat * 2 = _; omega
  subst e
  rw [e2] at hcc hf
  refine ⟨?_, ?_, hf, ?_⟩
  · have := hcc 0 _ rfl; rwa [Nat.add_zero] at this
  · exact hcc 1 _ rfl
  · rw [e2]; exact hcc
theorem MF.ofDrew {W W' : World} {g gw gm : Nat} (h : MF W.drew W' g gw gm) : MF W W' g gw gm := ⟨h.os, h.tape, h.output, h.size, h.block, h.log⟩
theorem below_ofDrew {W W' : World} {b : Nat} (h : Below b W.drew W') : Below b W W' := ⟨h.os, h.tape, h.output, h.size, h.block⟩
theorem rdM_set {l : List Mut} {i : Int} (h0 : 0 ≤ i) (h1 : i < l.length) {m : Mut} : rdM (l.set i.toNat m) i = m := by
  have : i.toNat < l.length := by omega
  simp [rdM, List.getD_eq_getElem?_getD, this]

set_option maxHeartbeats 2000000 in
theorem touch_calls (h : Is W base g gw gm s) (hf : s.fit) (th i : Int) :
    Calls Try.prog 25 #[.pointer (some ⟨g, 0, none⟩), .int .i64 th, .int .i64 i] W fun e w' => e = .returned (.bool (s.touch th i).2) ∧ Left W w' base g gw gm (s.touch th i).1 := by
  obtain ⟨f1, f2, f3, f4, f5⟩ := hf
  have HL := Aside0.mk f3
  have HFM := Aside0.mk f2
  have HFW := Aside0.mk f1
  have HA := Aside0.mk h
  obtain ⟨vl, cw, cm, hm⟩ := h
  have HH := Aside0.mk hm
  obtain ⟨_, c1, _, _⟩ := hm.cell
  have fz1 := hm.free 1
  clear hm f1 f2 f3
  unfold St.touch
  by_cases hi : inL s.ms i
  · obtain ⟨h0, h1⟩ := hi
    obtain ⟨m0, m1, _, _⟩ := HH.out.mcell i h0 h1
    have e0 : inL s.ms i := ⟨h0, h1⟩
    obtain ⟨⟨hd, ht⟩, hr⟩ : ∃ x, rdM s.ms i = x := ⟨_, rfl⟩
    rw [hr] at m0 m1 ⊢
    simp only at m0 m1 ⊢
    clear hr
    by_cases hy : hd = true ∧ ht = th
    · rw [if_pos ⟨e0, hy⟩]
      obtain ⟨rfl, rfl⟩ := hy
      clear e0
      go_enter Try.func25, Try.ntmps25
      go_wp2_with (first | (go_at_call 30; refine (atM_in HH.out i h0 h1 HFM.out).mono ?_; rintro e wx ⟨rfl, rfl⟩))
      go_ret
      exact ⟨rfl, HA.out.here⟩
    · rw [if_neg (fun k => hy k.2)]
      clear e0
      cases hd
      · clear hy
        go_enter Try.func25, Try.ntmps25
        go_wp2_with (first | (go_at_call 30; refine (atM_in HH.out i h0 h1 HFM.out).mono ?_; rintro e wx ⟨rfl, rfl⟩))
        go_ret
        exact ⟨rfl, ⟨_, _, _, HH.out.setViol (s.V + 1)⟩, MF.set (.inl ⟨rfl, by omega⟩) _, below_set_ HH.out.hg _⟩
      · have hne : ¬ ht = th := fun k => hy ⟨rfl, k⟩
        have hq : (ht == th) = false := by simp [hne]
        clear hy hne
        go_enter Try.func25, Try.ntmps25
        go_wp2_with (first | (go_at_call 30; refine (atM_in HH.out i h0 h1 HFM.out).mono ?_; rintro e wx ⟨rfl, rfl⟩))
        go_ret
        exact ⟨by simp, ⟨_, _, _, HH.out.setViol (s.V + 1)⟩, MF.set (.inl ⟨rfl, by omega⟩) _, below_set_ HH.out.hg _⟩
  · rw [if_neg (fun k => hi k.1)]
    have HI := Aside0.mk hi
    clear hi
    go_enter Try.func25, Try.ntmps25
    go_wp2_with (first | (go_at_call 30; refine (atM_out HH.out i HI.out HFM.out).mono ?_; rintro e wx ⟨rfl, rfl⟩))
    go_ret
    exact ⟨rfl, ⟨_, _, _, HH.out.setViol (s.V + 1)⟩, MF.set (.inl ⟨rfl, by omega⟩) _, below_set_ HH.out.hg _⟩

set_option maxHeartbeats 2000000 in
theorem holder_calls (h : Is W base g gw gm s) (hf : s.fit) (i : Int) :
    Calls Try.prog 16 #[.pointer (some ⟨g, 0, none⟩), .int .i64 i] W fun e w' => e = .returned (.int .i64 (s.holder i)) ∧ w' = W := by
  obtain ⟨f1, f2, f3, f4, f5⟩ := hf
  have HL := Aside0.mk f3
  have HFM := Aside0.mk f2
  have HFW := Aside0.mk f1
  have HA := Aside0.mk h
  obtain ⟨vl, cw, cm, hm⟩ := h
  have HH := Aside0.mk hm
  obtain ⟨_, c1, _, _⟩ := hm.cell
  have fz1 := hm.free 1
  clear hm f1 f2 f3
  unfold St.holder
  by_cases hi : inL s.ms i
  · obtain ⟨h0, h1⟩ := hi
    obtain ⟨m0, m1, _, _⟩ := HH.out.mcell i h0 h1
    have e0 : inL s.ms i := ⟨h0, h1⟩
    obtain ⟨⟨hd, ht⟩, hr⟩ : ∃ x, rdM s.ms i = x := ⟨_, rfl⟩
    rw [hr] at m0 m1 ⊢
    simp only at m0 m1 ⊢
    clear hr
    cases hd
    · rw [if_neg (fun k => by simp at k)]
      clear e0
      go_enter Try.func16, Try.ntmps16
      go_wp2_with (first | (go_at_call 30; refine (atM_in HH.out i h0 h1 HFM.out).mono ?_; rintro e wx ⟨rfl, rfl⟩))
      go_ret
      exact ⟨rfl, rfl⟩
    · rw [if_pos ⟨e0, rfl⟩]
      clear e0
      go_enter Try.func16, Try.ntmps16
      go_wp2_with (first | (go_at_call 30; refine (atM_in HH.out i h0 h1 HFM.out).mono ?_; rintro e wx ⟨rfl, rfl⟩))
      go_ret
      exact ⟨rfl, rfl⟩
  · rw [if_neg (fun k => hi k.1)]
    have HI := Aside0.mk hi
    clear hi
    go_enter Try.func16, Try.ntmps16
    go_wp2_with (first | (go_at_call 30; refine (atM_out HH.out i HI.out HFM.out).mono ?_; rintro e wx ⟨rfl, rfl⟩))
    go_ret
    exact ⟨rfl, rfl⟩

set_option maxHeartbeats 2000000 in
theorem word_calls (h : Is W base g gw gm s) (hf : s.fit) (i : Int) :
    Calls Try.prog 15 #[.pointer (some ⟨g, 0, none⟩), .int .i64 i] W fun e w' => e = .returned (.int .i64 (s.word i)) ∧ w' = W := by
  obtain ⟨f1, f2, f3, f4, f5⟩ := hf
  have HL := Aside0.mk f3
  have HFM := Aside0.mk f2
  have HFW := Aside0.mk f1
  have HA := Aside0.mk h
  obtain ⟨vl, cw, cm, hm⟩ := h
  have HH := Aside0.mk hm
  obtain ⟨_, c1, _, _⟩ := hm.cell
  have fz1 := hm.free 1
  clear hm f1 f2 f3
  unfold St.word
  by_cases hi : inL s.ws i
  · rw [if_pos hi]
    obtain ⟨h0, h1⟩ := hi
    obtain ⟨hx, _⟩ := Kd.R_celln 0 HH.out.words i h0 h1
    go_enter Try.func15, Try.ntmps15
    go_wp2_with (first | (go_at_call 29; refine (atW_in HH.out i h0 h1 HFW.out).mono ?_; rintro e wx ⟨rfl, rfl⟩))
    go_ret
    exact ⟨rfl, rfl⟩
  · rw [if_neg hi]
    have HI := Aside0.mk hi
    clear hi
    go_enter Try.func15, Try.ntmps15
    go_wp2_with (first | (go_at_call 29; refine (atW_out HH.out i HI.out HFW.out).mono ?_; rintro e wx ⟨rfl, rfl⟩))
    go_ret
    exact ⟨rfl, rfl⟩

set_option maxHeartbeats 2000000 in
theorem violations_calls (h : Is W base g gw gm s) (hf : s.fit)  :
    Calls Try.prog 19 #[.pointer (some ⟨g, 0, none⟩)] W fun e w' => e = .returned (.int .i64 s.V) ∧ w' = W := by
  obtain ⟨f1, f2, f3, f4, f5⟩ := hf
  have HL := Aside0.mk f3
  have HFM := Aside0.mk f2
  have HFW := Aside0.mk f1
  have HA := Aside0.mk h
  obtain ⟨vl, cw, cm, hm⟩ := h
  have HH := Aside0.mk hm
  obtain ⟨_, c1, _, _⟩ := hm.cell
  have fz1 := hm.free 1
  clear hm f1 f2 f3
  go_enter Try.func19, Try.ntmps19
  go_wp2
  go_ret
  exact ⟨rfl, rfl⟩

set_option maxHeartbeats 2000000 in
theorem tryLock_calls (h : Is W base g gw gm s) (hf : s.fit) (th i : Int) :
    Calls Try.prog 20 #[.pointer (some ⟨g, 0, none⟩), .int .i64 th, .int .i64 i] W fun e w' => e = .returned (.bool (s.tryLock th i).2) ∧ Left W w' base g gw gm (s.tryLock th i).1 := by
  obtain ⟨f1, f2, f3, f4, f5⟩ := hf
  have HL := Aside0.mk f3
  have HFM := Aside0.mk f2
  have HFW := Aside0.mk f1
  have HA := Aside0.mk h
  obtain ⟨vl, cw, cm, hm⟩ := h
  have HH := Aside0.mk hm
  obtain ⟨_, c1, _, _⟩ := hm.cell
  have fz1 := hm.free 1
  clear hm f1 f2 f3
  unfold St.tryLock
  by_cases hi : inL s.ms i
  · rw [if_pos hi]
    obtain ⟨h0, h1⟩ := hi
    obtain ⟨m0, m1, mz, mc⟩ := HH.out.mcell i h0 h1
    have mz0 := mz 0
    rw [Nat.add_zero] at mz0
    have e0 : inL s.ms i := ⟨h0, h1⟩
    obtain ⟨⟨hd, ht⟩, hr⟩ : ∃ x, rdM s.ms i = x := ⟨_, rfl⟩
    rw [hr] at m0 m1 mc ⊢
    simp only at m0 m1 mc ⊢
    have HC := Aside0.mk mc
    clear hr mc
    cases hd
    · simp only [Bool.false_eq_true, if_false]
      clear e0
      have hk := Kd.R_seg HH.out.mus i h0 h1 (c := [.bool false, .int .i64 ht]) (seg := [.bool true, .int .i64 th]) (j := 0) rfl HC.out (Nat.le_refl 2) (x' := (⟨true, th⟩ : Mut)) (okp := fun _ => False) (kM_mkM _ _ _ _) (fun _ hk => hk.elim)
      obtain ⟨k1, k2, k3⟩ := HH.out.ofMut (ms1 := s.ms.set i.toNat ⟨true, th⟩) (by simp) (Kd.R_mono hk.1 (fun _ _ => trivial)) hk.2
      clear hk
      have eo : i.toNat * kM.sz + 0 = 2 * i.toNat := by show i.toNat * 2 + 0 = _; omega
      have ew : W.setCells gm (i.toNat * kM.sz + 0) [.bool true, .int .i64 th] = (W.setCell ⟨gm, 2 * i.toNat, none⟩ (.bool true)).setCell ⟨gm, 2 * i.toNat + 1, none⟩ (.int .i64 th) := by rw [eo]; rfl
      rw [ew] at k1 k2 k3
      have HK1 := Aside0.mk (show IsMem _ base g gw gm s.log s.V s.ws (s.ms.set i.toNat ⟨true, th⟩) from ⟨_, _, _, k1⟩)
      have HK2 := Aside0.mk k2
      have HK3 := Aside0.mk k3
      clear k1 k2 k3 eo ew HC
      have mz1 := mz 1
      clear mz
      go_enter Try.func20, Try.ntmps20
      go_wp2_with (first | (go_at_call 30; refine (atM_in HH.out i h0 h1 HFM.out).mono ?_; rintro e wx ⟨rfl, rfl⟩))
      all_goals (go_region_with (first | (go_at_call 33; refine (bit_calls _ _).mono ?_; rintro e wx ⟨rfl, rfl⟩) | (go_at_call 32; refine (record_calls (HK1.out.below (below_drew1 (Below.refl _ _))) _ _ _ _ _ _ HL.out).mono ?_; rintro e w2 ⟨rfl, hi2, hm2, hb2⟩; have HI2 := Aside0.mk hi2; have HM2 := Aside0.mk hm2; have HB2 := Aside0.mk hb2; clear hi2 hm2 hb2)))
      all_goals go_wp2
      all_goals go_ret
      all_goals exact ⟨rfl, HI2.out, HK2.out.trans (MF.ofDrew HM2.out), HK3.out.trans (below_ofDrew HB2.out)⟩
    · simp only [if_true]
      clear e0
      go_enter Try.func20, Try.ntmps20
      go_wp2_with (first | (go_at_call 30; refine (atM_in HH.out i h0 h1 HFM.out).mono ?_; rintro e wx ⟨rfl, rfl⟩))
      all_goals (go_region_with (first | (go_at_call 33; refine (bit_calls _ _).mono ?_; rintro e wx ⟨rfl, rfl⟩) | (go_at_call 32; refine (record_calls (IsMem.below HA.out (below_drew1 (Below.refl _ _))) _ _ _ _ _ _ HL.out).mono ?_; rintro e w2 ⟨rfl, hi2, hm2, hb2⟩; have HI2 := Aside0.mk hi2; have HM2 := Aside0.mk hm2; have HB2 := Aside0.mk hb2; clear hi2 hm2 hb2)))
      all_goals go_wp2
      all_goals go_ret
      all_goals exact ⟨rfl, HI2.out, MF.ofDrew HM2.out, below_ofDrew HB2.out⟩
  · rw [if_neg hi]
    have HI := Aside0.mk hi
    clear hi
    go_enter Try.func20, Try.ntmps20
    go_wp2_with (first | (go_at_call 30; refine (atM_out HH.out i HI.out HFM.out).mono ?_; rintro e wx ⟨rfl, rfl⟩))
    go_ret
    exact ⟨rfl, HA.out.here⟩

set_option maxHeartbeats 2000000 in
theorem unlock_calls (h : Is W base g gw gm s) (hf : s.fit) (th i : Int) :
    Calls Try.prog 23 #[.pointer (some ⟨g, 0, none⟩), .int .i64 th, .int .i64 i] W fun e w' => e = .returned (.bool (s.unlock th i).2) ∧ Left W w' base g gw gm (s.unlock th i).1 := by
  obtain ⟨f1, f2, f3, f4, f5⟩ := hf
  have HL := Aside0.mk f3
  have HFM := Aside0.mk f2
  have HFW := Aside0.mk f1
  have HA := Aside0.mk h
  obtain ⟨vl, cw, cm, hm⟩ := h
  have HH := Aside0.mk hm
  obtain ⟨_, c1, _, _⟩ := hm.cell
  have fz1 := hm.free 1
  clear hm f1 f2 f3
  unfold St.unlock
  by_cases hi : inL s.ms i
  · rw [if_pos hi]
    obtain ⟨h0, h1⟩ := hi
    obtain ⟨m0, m1, mz, mc⟩ := HH.out.mcell i h0 h1
    have mz0 := mz 0
    rw [Nat.add_zero] at mz0
    have e0 : inL s.ms i := ⟨h0, h1⟩
    obtain ⟨⟨hd, ht⟩, hr⟩ : ∃ x, rdM s.ms i = x := ⟨_, rfl⟩
    rw [hr] at m0 m1 mc ⊢
    simp only at m0 m1 mc ⊢
    have HC := Aside0.mk mc
    clear hr mc
    clear e0
    by_cases hy : hd = true ∧ ht = th
    · rw [if_pos hy]
      obtain ⟨rfl, rfl⟩ := hy
      have hk := Kd.R_seg HH.out.mus i h0 h1 (c := [.bool true, .int .i64 ht]) (seg := [.bool false, .int .i64 0]) (j := 0) rfl HC.out (Nat.le_refl 2) (x' := (⟨false, 0⟩ : Mut)) (okp := fun _ => False) (kM_mkM _ _ _ _) (fun _ hk => hk.elim)
      obtain ⟨k1, k2, k3⟩ := HH.out.ofMut (ms1 := s.ms.set i.toNat ⟨false, 0⟩) (by simp) (Kd.R_mono hk.1 (fun _ _ => trivial)) hk.2
      clear hk
      have eo : i.toNat * kM.sz + 0 = 2 * i.toNat := by show i.toNat * 2 + 0 = _; omega
      have ew : W.setCells gm (i.toNat * kM.sz + 0) [.bool false, .int .i64 0] = (W.setCell ⟨gm, 2 * i.toNat, none⟩ (.bool false)).setCell ⟨gm, 2 * i.toNat + 1, none⟩ (.int .i64 0) := by rw [eo]; rfl
      rw [ew] at k1 k2 k3
      have HK1 := Aside0.mk (show IsMem _ base g gw gm s.log s.V s.ws (s.ms.set i.toNat ⟨false, 0⟩) from ⟨_, _, _, k1⟩)
      have HK2 := Aside0.mk k2
      have HK3 := Aside0.mk k3
      clear k1 k2 k3 eo ew HC
      have mz1 := mz 1
      clear mz
      go_enter Try.func23, Try.ntmps23
      go_wp2_with (first | (go_at_call 30; refine (atM_in HH.out i h0 h1 HFM.out).mono ?_; rintro e wx ⟨rfl, rfl⟩))
      all_goals (go_region_with (first | (go_at_call 33; refine (bit_calls _ _).mono ?_; rintro e wx ⟨rfl, rfl⟩) | (go_at_call 32; refine (record_calls (HK1.out.below (below_drew1 (Below.refl _ _))) _ _ _ _ _ _ HL.out).mono ?_; rintro e w2 ⟨rfl, hi2, hm2, hb2⟩; have HI2 := Aside0.mk hi2; have HM2 := Aside0.mk hm2; have HB2 := Aside0.mk hb2; clear hi2 hm2 hb2)))
      all_goals go_wp2
      all_goals go_ret
      all_goals exact ⟨by simp, HI2.out, HK2.out.trans (MF.ofDrew HM2.out), HK3.out.trans (below_ofDrew HB2.out)⟩
    · rw [if_neg hy]
      cases hd
      · clear hy
        have k1 := HH.out.setViol (s.V + 1)
        have HK1 := Aside0.mk (show IsMem _ base g gw gm s.log (s.V + 1) s.ws s.ms from ⟨_, _, _, k1⟩)
        have HK2 := Aside0.mk (MF.set (W := W) (g := g) (gw := gw) (gm := gm) (b := g) (j := 1) (.inl ⟨rfl, by omega⟩) (.int .i64 (s.V + 1)))
        have HK3 := Aside0.mk (below_set_ (W := W) (b := g) (j := 1) HH.out.hg (.int .i64 (s.V + 1)))
        have hgm := HH.out.mne
        clear k1 mz HC
        go_enter Try.func23, Try.ntmps23
        go_wp2_with (first | (go_at_call 30; refine (atM_in HH.out i h0 h1 HFM.out).mono ?_; rintro e wx ⟨rfl, rfl⟩))
        all_goals (go_region_with (first | (go_at_call 33; refine (bit_calls _ _).mono ?_; rintro e wx ⟨rfl, rfl⟩) | (go_at_call 32; refine (record_calls (HK1.out.below (below_drew1 (Below.refl _ _))) _ _ _ _ _ _ HL.out).mono ?_; rintro e w2 ⟨rfl, hi2, hm2, hb2⟩; have HI2 := Aside0.mk hi2; have HM2 := Aside0.mk hm2; have HB2 := Aside0.mk hb2; clear hi2 hm2 hb2)))
        all_goals go_wp2
        all_goals go_ret
        all_goals exact ⟨by simp, HI2.out, HK2.out.trans (MF.ofDrew HM2.out), HK3.out.trans (below_ofDrew HB2.out)⟩
      · have hq : (ht == th) = false := by simp; exact fun k => hy ⟨rfl, k⟩
        clear hy
        have k1 := HH.out.setViol (s.V + 1)
        have HK1 := Aside0.mk (show IsMem _ base g gw gm s.log (s.V + 1) s.ws s.ms from ⟨_, _, _, k1⟩)
        have HK2 := Aside0.mk (MF.set (W := W) (g := g) (gw := gw) (gm := gm) (b := g) (j := 1) (.inl ⟨rfl, by omega⟩) (.int .i64 (s.V + 1)))
        have HK3 := Aside0.mk (below_set_ (W := W) (b := g) (j := 1) HH.out.hg (.int .i64 (s.V + 1)))
        have hgm := HH.out.mne
        clear k1 mz HC
        go_enter Try.func23, Try.ntmps23
        go_wp2_with (first | (go_at_call 30; refine (atM_in HH.out i h0 h1 HFM.out).mono ?_; rintro e wx ⟨rfl, rfl⟩))
        all_goals (go_region_with (first | (go_at_call 33; refine (bit_calls _ _).mono ?_; rintro e wx ⟨rfl, rfl⟩) | (go_at_call 32; refine (record_calls (HK1.out.below (below_drew1 (Below.refl _ _))) _ _ _ _ _ _ HL.out).mono ?_; rintro e w2 ⟨rfl, hi2, hm2, hb2⟩; have HI2 := Aside0.mk hi2; have HM2 := Aside0.mk hm2; have HB2 := Aside0.mk hb2; clear hi2 hm2 hb2)))
        all_goals go_wp2
        all_goals go_ret
        all_goals exact ⟨by simp, HI2.out, HK2.out.trans (MF.ofDrew HM2.out), HK3.out.trans (below_ofDrew HB2.out)⟩
  · rw [if_neg hi]
    have HI := Aside0.mk hi
    clear hi
    go_enter Try.func23, Try.ntmps23
    go_wp2_with (first | (go_at_call 30; refine (atM_out HH.out i HI.out HFM.out).mono ?_; rintro e wx ⟨rfl, rfl⟩))
    go_ret
    exact ⟨rfl, HA.out.here⟩
end
end Go.Proofs.Ytfkoehokjpcogaa.Hand
