/- ropeladderlaw01.ShmemReplay computes true; the argument is a row of Raw. -/
import Derived.Test.YtfkoehokjpcogaaShRep
import Derived.BigQuiet
import Derived.Deep.QuietTactic
namespace Go.Proofs.Ytfkoehokjpcogaa.Hand
open Go.RowKit Go.Proofs.YtfkoehokjpcogaaW.PrintWords Go.Proofs.YtfkoehokjpcogaaW.PrintLast Go.Proofs.YtfkoehokjpcogaaW.PrintMore
set_option linter.unusedVariables false
attribute [local go_sem] max2_int min2_int max_two min_two max_three min_three max_four min_four

/-- The log's copy, row A, lies behind block b. -/
def Lg (w : World) (A : Option Addr) (b : Nat) (log : List Acc) : Prop := ∀ i, (h : i < log.length) → ∃ kc, A = some ⟨kc, 0, none⟩ ∧ b < kc ∧ kc < w.heap.size ∧ ∀ j u, log[i].cells[j]? = some u → w.cell? ⟨kc, i * 6 + j, none⟩ = some u
theorem Lg.below {w w' : World} {A : Option Addr} {b : Nat} {log : List Acc} (h : Lg w A b log) (hb : Below w.heap.size w w') : Lg w' A b log := fun i hi => by
  obtain ⟨kc, e, h1, h2, h3⟩ := h i hi
  exact ⟨kc, e, h1, Nat.lt_of_lt_of_le h2 hb.size, fun j u hu => (hb.cell (p := ⟨kc, i * 6 + j, none⟩) h2).trans (h3 j u hu)⟩
theorem Lg.put {w : World} {A : Option Addr} {b : Nat} {log : List Acc} (h : Lg w A b log) {b2 j2 : Nat} (hb : b2 ≤ b) (v : Value) : Lg (w.setCell ⟨b2, j2, none⟩ v) A b log := fun i hi => by
  obtain ⟨kc, e, h1, h2, h3⟩ := h i hi
  exact ⟨kc, e, h1, by simpa [World.setCell] using h2, fun j u hu => by rw [World.cell?_setCell_other _ _ _ _ (fun e => by cases e; omega)]; exact h3 j u hu⟩
theorem log_calls3 {W : World} {base g gw gm b : Nat} {s : St} (h : Is W base g gw gm s) (hf : s.fit) (hb : b < W.heap.size) :
    Calls Try.prog 18 #[.pointer (some ⟨g, 0, none⟩)] W fun e w' => ∃ A c, e = .returned (.slice A s.log.length c) ∧ Lg w' A b s.log ∧ Below W.heap.size W w' := by
  refine (log_calls h hf).mono ?_
  rintro e w' ⟨v, rfl, hv, hb2⟩
  obtain ⟨A, c, rfl⟩ := Kd.R_slice hv
  refine ⟨A, c, rfl, fun i hi => ?_, hb2⟩
  obtain ⟨kc, c2, e, hk, hk2, _⟩ := Kd.R_form hv (by omega)
  injection e with e1 e2 e3
  subst e1
  refine ⟨kc, rfl, by omega, hk2, fun j u hj => ?_⟩
  obtain ⟨cs, _, hM, hcc, _⟩ := Kd.R_elem hv Acc.zero (i : Int) (by omega) (by omega)
  have e := kA_openM hM
  rw [Int.toNat_natCast] at e hcc
  have e4 : s.log.getD i Acc.zero = s.log[i] := by simp [List.getD_eq_getElem?_getD, List.getElem?_eq_getElem hi]
  rw [e4] at e
  subst e
  exact hcc j u hj
theorem acc_cells {w : World} {kc k : Nat} {x : Acc} (h : ∀ j u, x.cells[j]? = some u → w.cell? ⟨kc, k * 6 + j, none⟩ = some u) :
    w.cell? ⟨kc, k * 6, none⟩ = some (.int .i64 x.th) ∧ w.cell? ⟨kc, k * 6 + 1, none⟩ = some (.int .i64 x.kd) ∧ w.cell? ⟨kc, k * 6 + 2, none⟩ = some (.int .i64 x.ix) ∧ w.cell? ⟨kc, k * 6 + 3, none⟩ = some (.int .i64 x.old) ∧ w.cell? ⟨kc, k * 6 + 4, none⟩ = some (.int .i64 x.new) ∧ w.cell? ⟨kc, k * 6 + 5, none⟩ = some (.bool x.ok) :=
  ⟨h 0 _ rfl, h 1 _ rfl, h 2 _ rfl, h 3 _ rfl, h 4 _ rfl, h 5 _ rfl⟩
theorem word_calls' {W : World} {base g gw gm : Nat} {s : St} (h : Is W base g gw gm s) (hf : s.fit) (i : Int) {v : Int} (e : s.word i = v) (n : Nat) :
    Calls Try.prog 15 #[.pointer (some ⟨g, 0, none⟩), .int .i64 i] (W.drewN n) fun e w' => e = .returned (.int .i64 v) ∧ w' = W.drewN n := by
  subst e
  exact word_calls (h.left (pw_below_drewN (Below.refl _ _) n)).is hf i
theorem holder_calls' {W : World} {base g gw gm : Nat} {s : St} (h : Is W base g gw gm s) (hf : s.fit) (i : Int) {v : Int} (e : s.holder i = v) (n : Nat) :
    Calls Try.prog 16 #[.pointer (some ⟨g, 0, none⟩), .int .i64 i] (W.drewN n) fun e w' => e = .returned (.int .i64 v) ∧ w' = W.drewN n := by
  subst e
  exact holder_calls (h.left (pw_below_drewN (Below.refl _ _) n)).is hf i
theorem arr_zero (w : World) : w.alloc (.cells #[.int .i64 0, .int .i64 0, .int .i64 0, .int .i64 0] T4) = w.alloc (.cells (arr4 fun _ => 0) T4) := rfl

structure Bd (W w : World) (g gw gm b1 : Nat) (s : St) (A : Option Addr) (fw fh fo : Nat → Int) : Prop where
  is : Is w W.heap.size g gw gm s
  bl : Below W.heap.size W w
  r1 : Arr w g gw gm b1 fw
  r2 : Arr w g gw gm (b1 + 1) fh
  r3 : Arr w g gw gm (b1 + 1 + 1) fo
  lg : Lg w A (b1 + 1 + 1) s.log
  hb : W.heap.size ≤ b1
section
variable {W w w' : World} {g gw gm b1 : Nat} {s : St} {A : Option Addr} {fw fh fo : Nat → Int}
theorem Bd.below (h : Bd W w g gw gm b1 s A fw fh fo) (hb : Below w.heap.size w w') : Bd W w' g gw gm b1 s A fw fh fo := by
  have m := MF.below (gw := gw) (gm := gm) h.is.lt hb
  exact ⟨(h.is.left hb).is, h.bl.trans (hb.mono h.bl.size), h.r1.move m, h.r2.move m, h.r3.move m, h.lg.below hb, h.hb⟩
theorem Bd.put1 (h : Bd W w g gw gm b1 s A fw fh fo) {i : Nat} (hi : i < 4) (u : Int) : Bd W (w.setCell ⟨b1, i, none⟩ (.int .i64 u)) g gw gm b1 s A (fun j => if j = i then u else fw j) fh fo :=
  ⟨h.is.beside h.r1 _ _, below_set h.bl h.hb, h.r1.put hi u, h.r2.aside h.r1 (by omega) _ _, h.r3.aside h.r1 (by omega) _ _, h.lg.put (by omega) _, h.hb⟩
theorem Bd.put2 (h : Bd W w g gw gm b1 s A fw fh fo) {i : Nat} (hi : i < 4) (u : Int) : Bd W (w.setCell ⟨b1 + 1, i, none⟩ (.int .i64 u)) g gw gm b1 s A fw (fun j => if j = i then u else fh j) fo :=
  ⟨h.is.beside h.r2 _ _, below_set h.bl (by have := h.hb; omega), h.r1.aside h.r2 (by omega) _ _, h.r2.put hi u, h.r3.aside h.r2 (by omega) _ _, h.lg.put (by omega) _, h.hb⟩
theorem Bd.put3 (h : Bd W w g gw gm b1 s A fw fh fo) {i : Nat} (hi : i < 4) (u : Int) : Bd W (w.setCell ⟨b1 + 1 + 1, i, none⟩ (.int .i64 u)) g gw gm b1 s A fw fh (fun j => if j = i then u else fo j) :=
  ⟨h.is.beside h.r3 _ _, below_set h.bl (by have := h.hb; omega), h.r1.aside h.r3 (by omega) _ _, h.r2.aside h.r3 (by omega) _ _, h.r3.put hi u, h.lg.put (by omega) _, h.hb⟩
theorem Bd.congr3 (h : Bd W w g gw gm b1 s A fw fh fo) {f2 : Nat → Int} (e : ∀ j, j < 4 → fo j = f2 j) : Bd W w g gw gm b1 s A fw fh f2 := ⟨h.is, h.bl, h.r1, h.r2, h.r3.congr e, h.lg, h.hb⟩
theorem Arr.cellA (h : Arr w g gw gm b1 fw) {i : Nat} (hi : i < 4) {v : Int} (e : fw i = v) : ∀ o, (w.alloc o).cell? ⟨b1, i, none⟩ = some (.int .i64 v) := fun o => by
  rw [← e, ← h.cell hi]
  exact (below_alloc (Below.refl w.heap.size _) o).cell (p := ⟨b1, i, none⟩) h.far.lt
theorem Arr.freeA (h : Arr w g gw gm b1 fw) (i : Nat) : ∀ o, (w.alloc o).frozen? ⟨b1, i, none⟩ = false := fun o => by
  rw [← h.free i]
  exact (below_alloc (Below.refl w.heap.size _) o).frozen (p := ⟨b1, i, none⟩) h.far.lt
end
theorem arrs3 {wr w5 : World} {base g gw gm : Nat} {s : St} (h : Is wr base g gw gm s)
    (hb : Below (((wr.alloc (.cells #[.int .i64 0, .int .i64 0, .int .i64 0, .int .i64 0] T4)).alloc (.cells #[.int .i64 0, .int .i64 0, .int .i64 0, .int .i64 0] T4)).alloc (.cells #[.int .i64 (-1), .int .i64 (-1), .int .i64 (-1), .int .i64 (-1)] T4)).heap.size
      (((wr.alloc (.cells #[.int .i64 0, .int .i64 0, .int .i64 0, .int .i64 0] T4)).alloc (.cells #[.int .i64 0, .int .i64 0, .int .i64 0, .int .i64 0] T4)).alloc (.cells #[.int .i64 (-1), .int .i64 (-1), .int .i64 (-1), .int .i64 (-1)] T4)) w5) :
    Is w5 base g gw gm s ∧ Below wr.heap.size wr w5 ∧ Arr w5 g gw gm wr.heap.size (fun _ => 0) ∧ Arr w5 g gw gm (wr.heap.size + 1) (fun _ => 0) ∧ Arr w5 g gw gm (wr.heap.size + 1 + 1) (fun _ => -1) := by
  have e1 : (wr.alloc (.cells (arr4 fun _ => 0) T4)).heap.size = wr.heap.size + 1 := by simp
  have e2 : ((wr.alloc (.cells (arr4 fun _ => 0) T4)).alloc (.cells (arr4 fun _ => 0) T4)).heap.size = wr.heap.size + 1 + 1 := by simp
  have k1 := (h.left (below_alloc (Below.refl _ _) (.cells (arr4 fun _ => 0) T4))).is
  have k2 := (k1.left (below_alloc (Below.refl _ _) (.cells (arr4 fun _ => 0) T4))).is
  have k3 := (k2.left (below_alloc (Below.refl _ _) (.cells (arr4 fun _ => -1) T4))).is
  have a1 := Arr.new h (Below.refl _ _) (fun _ => 0)
  have a2 := Arr.new k1 (Below.refl _ _) (fun _ => 0)
  have a3 := Arr.new k2 (Below.refl _ _) (fun _ => -1)
  have m2 := MF.below (gw := gw) (gm := gm) k1.lt (below_alloc (Below.refl _ _) (.cells (arr4 fun _ => 0) T4))
  have m3 := MF.below (gw := gw) (gm := gm) k2.lt (below_alloc (Below.refl _ _) (.cells (arr4 fun _ => -1) T4))
  have m5 := MF.below (gw := gw) (gm := gm) k3.lt hb
  rw [e1] at a2
  rw [e2] at a3
  refine ⟨(k3.left hb).is, (below_alloc (below_alloc (below_alloc (Below.refl _ _) _) _) _).trans (hb.mono (by simp; omega)), ((a1.move m2).move m3).move m5, (a2.move m3).move m5, a3.move m5⟩

set_option maxHeartbeats 16000000 in
set_option maxRecDepth 100000 in
theorem replay_walk (A : Option Addr) (n c : Nat) (l : List Raw) (W : World) (h : IsRaws W A n l) :
    Calls Try.prog 4 #[.slice A n c] W fun e w' => e = .returned (.bool true) ∧ Below W.heap.size W w' := by
  have HR := Aside0.mk h
  have hn := h.max
  clear h
  by_cases h200 : (200 : Int) < n
  · have d1 : decide ((200 : Int) < n) = true := decide_eq_true h200
    go_enter Try.func4, Try.ntmps4
    go_wp2_with (first | (go_at_call 9; (with_reducible refine (head_calls W).mono ?_); rintro e w1 ⟨rfl, hb⟩; have B1 := Aside0.mk hb; clear hb) | (go_at_call 10; (with_reducible refine (new44 _).mono ?_); rintro e w2 ⟨g, gw, gm, rfl, hi, hb⟩; have H2 := Aside0.mk (hi.lower B1.out.size); have B2 := Aside0.mk (Below.trans B1.out (hb.mono B1.out.size)); clear hi hb B1))
    go_ret
    exact ⟨rfl, B2.out⟩
  · have d1 : decide ((200 : Int) < n) = false := decide_eq_false h200
    go_enter Try.func4, Try.ntmps4
    go_wp2_with (first | (go_at_call 9; (with_reducible refine (head_calls W).mono ?_); rintro e w1 ⟨rfl, hb⟩; have B1 := Aside0.mk hb; clear hb) | (go_at_call 10; (with_reducible refine (new44 _).mono ?_); rintro e w2 ⟨g, gw, gm, rfl, hi, hb⟩; have H2 := Aside0.mk (hi.lower B1.out.size); have B2 := Aside0.mk (Below.trans B1.out (hb.mono B1.out.size)); clear hi hb B1))
    go_loopw [5] (fun i w' => ∃ k : Nat, k ≤ n ∧ i = .int .i64 k ∧ ∃ s, Aside0 (s = (sz 4 4).runs (l.take k)) ∧ Aside0 (Is w' W.heap.size g gw gm s) ∧ Aside0 (Below W.heap.size W w')) (fun i _ => n - (intOf i).toNat)
    case atStart => exact ⟨0, Nat.zero_le _, rfl, _, ⟨rfl⟩, H2, B2⟩
    case round =>
      clear H2 B2 d1
      obtain ⟨k, hk, rfl, s, HS, HI, HB⟩ := hrel
      have hin := runs_in l k (by rw [HR.out.len]; exact hk)
      rw [← HS.out] at hin
      have HF := Aside0.mk (hin.fit (by omega))
      clear hin
      by_cases hlt : k < n
      · skip
        obtain ⟨ad, e2, hadl, hcl⟩ := HR.out.cell k (by rw [HR.out.len]; exact hlt)
        cases e2
        have hok := HR.out.ok k (by rw [HR.out.len]; exact hlt)
        obtain ⟨r, hr⟩ : ∃ r, l[k]'(by rw [HR.out.len]; exact hlt) = r := ⟨_, rfl⟩
        rw [hr] at hcl hok
        have HRE := Aside0.mk hr
        clear hr
        obtain ⟨⟨kd, th, ix, a, b⟩, ho⟩ : ∃ o, opOf r = o := ⟨_, rfl⟩
        have hrg := opOf_range hok ho
        simp only at hrg
        obtain ⟨k1, k7, t0, t3, x0, x4⟩ := hrg
        obtain ⟨⟨s', m, ok⟩, hrun⟩ : ∃ z, s.run1 ⟨kd, th, ix, a, b⟩ = z := ⟨_, rfl⟩
        have HOK := Aside0.mk hok
        have HO := Aside0.mk ho
        have HRUN := Aside0.mk hrun
        obtain ⟨q0, q1, q2, q3, q4⟩ := raw_cells (w := wr) (ad := ad) (k := k) (r := r) (fun j u hu => (cell_add HB.out hadl).trans (hcl j u hu))
        clear hok ho hrun hcl hadl
        have HSN := Aside0.mk (show s' = (sz 4 4).runs (l.take (k + 1)) by rw [runs_succ _ _ _ (by rw [HR.out.len]; exact hlt), ← HS.out, HRE.out, HO.out, HRUN.out])
        go_wp2_with (first | (go_at_call 12; (with_reducible refine (op_calls' r _ _ HOK.out HO.out).mono ?_); rintro e w3 ⟨rfl, hb⟩; have B3 := Aside0.mk hb; clear hb) | (go_at_call 13; (with_reducible refine (do_calls' (Is.left HI.out B3.out).is HF.out kd th ix a b HRUN.out).mono ?_); rintro e w4 ⟨rfl, hl⟩; have HL := Aside0.mk hl; clear hl))
        go_roundw
        case rel => exact ⟨k + 1, by omega, by go_num, s', HSN, ⟨HL.out.is⟩, ⟨HB.out.trans ((B3.out.mono HB.out.size).trans HL.out.bl)⟩⟩
        case measure => simp [intOf]; omega
      · obtain rfl : k = n := by omega
        have hg := runs_good l HR.out.ok k (by rw [HR.out.len]; exact hk)
        rw [← HS.out] at hg
        have HG := Aside0.mk hg
        have hlen := (show s.log.length ≤ 200 by have hin := runs_in l k (by rw [HR.out.len]; exact hk); rw [← HS.out] at hin; have := hin.l; omega)
        have hin := Aside0.mk (show s.In k by have hin := runs_in l k (by rw [HR.out.len]; exact hk); rw [← HS.out] at hin; exact hin)
        clear hg HS hk
        go_wp2_with (first | (go_at_call 18; (with_reducible refine (log_calls3 (Is.left HI.out (below_alloc (below_alloc (below_alloc (Below.refl _ _) (.cells #[.int .i64 0, .int .i64 0, .int .i64 0, .int .i64 0] T4)) (.cells #[.int .i64 0, .int .i64 0, .int .i64 0, .int .i64 0] T4)) (.cells #[.int .i64 (-1), .int .i64 (-1), .int .i64 (-1), .int .i64 (-1)] T4))).is HF.out (b := wr.heap.size + 1 + 1) (by simp)).mono ?_); rintro e w5 ⟨A5, c5, rfl, hlg, hb5⟩; have HLG := Aside0.mk hlg; have HB5 := Aside0.mk hb5; clear hlg hb5))
        obtain ⟨i5, b5, r1, r2, r3⟩ := arrs3 HI.out HB5.out
        have HBD := Aside0.mk (Bd.mk i5 (HB.out.trans (b5.mono HB.out.size)) r1 r2 r3 HLG.out HB.out.size)
        obtain ⟨b1, hb1⟩ : ∃ b, wr.heap.size = b := ⟨_, rfl⟩
        rw [hb1] at HBD ⊢
        clear i5 b5 r1 r2 r3 HB5 HI HB hb1 HLG
        go_loopw [10] (fun i w' => ∃ k : Nat, k ≤ s.log.length ∧ i = .int .i64 k ∧ ∃ fw fh fo, Aside0 ((⟨fw, fh, fo⟩ : RV).same (replay (s.log.take k))) ∧ Aside0 (Bd W w' g gw gm b1 s A5 fw fh fo)) (fun i _ => s.log.length - (intOf i).toNat)
        case atStart => exact ⟨0, Nat.zero_le _, rfl, _, _, _, ⟨RV.same.refl _⟩, HBD⟩
        case round =>
          clear HBD
          obtain ⟨k2, hk2, rfl, fw, fh, fo, HSM, HBD⟩ := hrel
          by_cases hlt2 : k2 < s.log.length
          · obtain ⟨kc, e2, hkc1, hkc2, hcc⟩ := HBD.out.lg k2 hlt2
            cases e2
            have hok := RV.same.ok HSM.out.symm (HG.out.each k2 hlt2)
            have hst := HSM.out.step s.log[k2]
            rw [← replay_succ _ _ hlt2] at hst
            obtain ⟨x, hx⟩ : ∃ x, s.log[k2] = x := ⟨_, rfl⟩
            rw [hx] at hcc hok hst
            clear hx
            obtain ⟨th, kd, ix, old, new, ok⟩ := x
            obtain ⟨c0, c1, c2, c3, c4, c5⟩ := acc_cells (w := wr) hcc
            obtain ⟨i0, i4, hwords, hmus⟩ := hok
            simp only at c0 c1 c2 c3 c4 c5 i0 i4 hwords hmus
            have dx0 : decide (ix < 0) = false := decide_eq_false (by omega)
            have dx4 : decide (4 ≤ ix) = false := decide_eq_false (by omega)
            have i4n : ix.toNat < 4 := by omega
            have hl3 := HBD.out.r3.far.lt
            have n1 : ¬ wr.heap.size = b1 := by omega
            have n2 : ¬ wr.heap.size = b1 + 1 := by omega
            have n3 : ¬ wr.heap.size = b1 + 1 + 1 := by omega
            have m1 : ¬ b1 = wr.heap.size := by omega
            have m2 : ¬ b1 + 1 = wr.heap.size := by omega
            have m3 : ¬ b1 + 1 + 1 = wr.heap.size := by omega
            have p1 : ¬ b1 + 1 + 1 = b1 + 1 := by omega
            clear hcc hkc1 hkc2 hl3
            by_cases h5 : kd < 5
            · have d5 : decide (kd < 5) = true := decide_eq_true h5
              obtain ⟨hw1, hw2⟩ := hwords h5
              unfold RV.step at hst
              rw [if_pos h5] at hst
              have HST := Aside0.mk hst
              have a1 := HBD.out.r1.cellA i4n hw1.symm
              have f1 := HBD.out.r1.freeA ix.toNat
              clear hwords hmus h5 hw1 hst
              cases ok
              · have hno : new = old := by simpa using hw2
                subst hno
                clear hw2
                go_wp2_with (fail)
                go_quiet (fail)
                go_wp2_with (fail)
                go_roundw
                case rel => exact ⟨k2 + 1, by omega, by go_num, _, _, _, HST, ⟨(HBD.out.below (pw_below_drewN (below_alloc (Below.refl _ _) _) _)).put1 i4n new⟩⟩
                case measure => simp [intOf]; omega
              · clear hw2
                go_wp2_with (fail)
                go_quiet (fail)
                go_wp2_with (fail)
                go_roundw
                case rel => exact ⟨k2 + 1, by omega, by go_num, _, _, _, HST, ⟨(HBD.out.below (pw_below_drewN (below_alloc (Below.refl _ _) _) _)).put1 i4n new⟩⟩
                case measure => simp [intOf]; omega
            · have d5 : decide (kd < 5) = false := decide_eq_false h5
              obtain ⟨hw1, hw2⟩ := hmus h5
              unfold RV.step at hst
              rw [if_neg h5] at hst
              have a2 := HBD.out.r2.cellA i4n hw1.symm
              have f2 := HBD.out.r2.freeA ix.toNat
              have a3 := HBD.out.r3.cellA i4n rfl
              have f3 := HBD.out.r3.freeA ix.toNat
              clear hwords hmus h5 hw1
              by_cases hz : new = 0
              · have dz : (new == 0) = true := beq_iff_eq.2 hz
                rw [if_pos hz] at hst
                have HST := Aside0.mk hst
                clear hst hz
                cases ok
                · go_wp2_with (fail)
                  go_quiet (fail)
                  go_wp2_with (fail)
                  go_roundw
                  case rel => exact ⟨k2 + 1, by omega, by go_num, _, _, _, HST, ⟨((HBD.out.below (pw_below_drewN (below_alloc (Below.refl _ _) _) _)).put2 i4n new).put3 i4n (-1)⟩⟩
                  case measure => simp [intOf]; omega
                · go_wp2_with (fail)
                  go_quiet (fail)
                  go_wp2_with (fail)
                  go_roundw
                  case rel => exact ⟨k2 + 1, by omega, by go_num, _, _, _, HST, ⟨((((HBD.out.below (pw_below_drewN (below_alloc (Below.refl _ _) _) _)).put2 i4n new).put3 i4n th).put3 i4n (-1)).congr3 (fun j _ => by unfold put; split <;> rfl)⟩⟩
                  case measure => simp [intOf]; omega
              · have dz : (new == 0) = false := beq_eq_false_iff_ne.2 hz
                rw [if_neg hz] at hst
                clear hz
                cases ok
                · rw [if_neg (by simp)] at hst
                  have HST := Aside0.mk hst
                  clear hst
                  go_wp2_with (fail)
                  go_quiet (fail)
                  go_wp2_with (fail)
                  go_roundw
                  case rel => exact ⟨k2 + 1, by omega, by go_num, _, _, _, HST, ⟨(HBD.out.below (pw_below_drewN (below_alloc (Below.refl _ _) _) _)).put2 i4n new⟩⟩
                  case measure => simp [intOf]; omega
                · rw [if_pos rfl] at hst
                  have HST := Aside0.mk hst
                  clear hst
                  go_wp2_with (fail)
                  go_quiet (fail)
                  go_wp2_with (fail)
                  go_roundw
                  case rel => exact ⟨k2 + 1, by omega, by go_num, _, _, _, HST, ⟨((HBD.out.below (pw_below_drewN (below_alloc (Below.refl _ _) _) _)).put2 i4n new).put3 i4n th⟩⟩
                  case measure => simp [intOf]; omega
          · obtain rfl : k2 = s.log.length := by omega
            have hsm := HSM.out
            rw [List.take_length] at hsm
            have HV := Aside0.mk (hsm.trans HG.out.last)
            clear hsm hk2 hlt2 HSM
            go_wp2_with (fail)
            go_loopw [12] (fun i w' => ∃ k : Nat, k ≤ 4 ∧ i = .int .i64 k ∧ Aside0 (Bd W w' g gw gm b1 s A5 fw fh fo)) (fun i _ => 4 - (intOf i).toNat)
            case atStart => exact ⟨0, by omega, rfl, HBD⟩
            case round =>
              clear HBD
              obtain ⟨k3, hk3, rfl, HBD⟩ := hrel
              by_cases hlt3 : k3 < 4
              · have hI := hin.out
                have ew := Aside0.mk (show s.word k3 = fw k3 by
                  unfold St.word
                  rw [if_pos (by rw [inL, hI.w]; omega)]
                  exact (HV.out.w k3 hlt3).symm)
                have eh := Aside0.mk (HV.out.o k3 hlt3).symm
                have c1 := HBD.out.r1.cell hlt3
                have c3 := HBD.out.r3.cell hlt3
                clear hI
                go_wp2_with (fail)
                go_quiet (first | ((go_at_call 15; exact Calls.quiet_of_same (word_calls' HBD.out.is HF.out k3 ew.out _))) | ((go_at_call 16; exact Calls.quiet_of_same (holder_calls' HBD.out.is HF.out k3 eh.out _))))
                go_wp2_with (fail)
                go_roundw
                case rel => exact ⟨k3 + 1, by omega, by go_num, ⟨HBD.out.below (pw_below_drewN (Below.refl _ _) _)⟩⟩
                case measure => simp [intOf]; omega
              · obtain rfl : k3 = 4 := by omega
                go_wp2_with (fail)
                go_ret
                exact ⟨rfl, HBD.out.bl⟩
end Go.Proofs.Ytfkoehokjpcogaa.Hand
