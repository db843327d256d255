/- Same at equal logs; the program's memory and the reference memory side by side; no condition but what each states. -/
import Derived.Test.YtfkoehokjpcogaaRefG
namespace Go.Proofs.Ytfkoehokjpcogaa.Hand
open Go.RowKit Go.Proofs.YtfkoehokjpcogaaW.PrintWords Go.Proofs.YtfkoehokjpcogaaW.PrintLast Go.Proofs.YtfkoehokjpcogaaW.PrintMore
set_option linter.unusedVariables false
set_option linter.unusedSimpArgs false
attribute [local go_sem] max2_int min2_int max_two min_two max_three min_three max_four min_four
attribute [local go_sem high] eqAcc

theorem rowA_cells {w : World} {A : Option Addr} {l : List Acc} (h : Kd.C kA w A l.length l) (k : Nat) (hk : k < l.length) {x : Acc} (e : l[k] = x) : ∃ ad, A = some ad ∧
    w.cell? (ad.add (k * 6)) = some (.int .i64 x.th) ∧ w.cell? ⟨(ad.add (k * 6)).block, (ad.add (k * 6)).off + 1, none⟩ = some (.int .i64 x.kd) ∧ w.cell? ⟨(ad.add (k * 6)).block, (ad.add (k * 6)).off + 2, none⟩ = some (.int .i64 x.ix) ∧
      w.cell? ⟨(ad.add (k * 6)).block, (ad.add (k * 6)).off + 3, none⟩ = some (.int .i64 x.old) ∧ w.cell? ⟨(ad.add (k * 6)).block, (ad.add (k * 6)).off + 4, none⟩ = some (.int .i64 x.new) ∧ w.cell? ⟨(ad.add (k * 6)).block, (ad.add (k * 6)).off + 5, none⟩ = some (.bool x.ok) := by
  obtain ⟨ad, c, e1, _, hK, hc0⟩ := Kd.C_get h Acc.zero (k : Int) (by omega) (by omega)
  have e4 : l.getD (k : Int).toNat Acc.zero = x := by rw [Int.toNat_natCast]; simp [List.getD_eq_getElem?_getD, List.getElem?_eq_getElem hk, e]
  rw [e4] at hK
  obtain rfl := kA_open hK
  rw [Int.toNat_natCast] at hc0
  have q : ∀ j u, j ≠ 0 → x.cells[j]? = some u → w.cell? ⟨(ad.add (k * 6)).block, (ad.add (k * 6)).off + j, none⟩ = some u := fun j u hj hu => by
    rw [← add_flat _ hj, Go.Deep.add_add]
    exact hc0 j u hu
  exact ⟨ad, e1, hc0 0 _ rfl, q 1 _ (by decide) rfl, q 2 _ (by decide) rfl, q 3 _ (by decide) rfl, q 4 _ (by decide) rfl, q 5 _ (by decide) rfl⟩

set_option maxHeartbeats 4000000 in
set_option maxRecDepth 100000 in
theorem same_calls (A0 A1 : Option Addr) (c0 c1 : Nat) (l : List Acc) (W : World) (hl : l.length ≤ 1000000) (h0 : Kd.C kA W A0 l.length l) (h1 : Kd.C kA W A1 l.length l) :
    Calls Try.prog 17 #[.slice A0 l.length c0, .slice A1 l.length c1] W fun e w' => e = .returned (.bool true) ∧ ∃ n, w' = W.drewN n := by
  have H0 := Aside0.mk h0
  have H1 := Aside0.mk h1
  clear h0 h1
  go_enter Try.func17, Try.ntmps17
  go_wp2
  go_loopw [5] (fun i w' => ∃ k : Nat, k ≤ l.length ∧ i = .int .i64 k ∧ ∃ n, w' = W.drewN n) (fun i _ => l.length - (intOf i).toNat)
  case atStart => exact ⟨0, Nat.zero_le _, rfl, 0, rfl⟩
  case round =>
    obtain ⟨k, hk, rfl, n, rfl⟩ := hrel
    by_cases hlt : k < l.length
    · obtain ⟨x, hx⟩ : ∃ x, l[k] = x := ⟨_, rfl⟩
      obtain ⟨ad0, e0, a0, a1, a2, a3, a4, a5⟩ := rowA_cells H0.out k hlt hx
      obtain ⟨ad1, e1, b0, b1, b2, b3, b4, b5⟩ := rowA_cells H1.out k hlt hx
      cases e0
      cases e1
      obtain ⟨th, kd, ix, old, new, ok⟩ := x
      simp only at a0 a1 a2 a3 a4 a5 b0 b1 b2 b3 b4 b5
      clear hx
      go_wp2_with (fail)
      go_quiet (fail)
      go_wp2_with (fail)
      go_roundw
      case rel => exact ⟨k + 1, by omega, by go_num, _, rfl⟩
      case measure => simp [intOf]; omega
    · obtain rfl : k = l.length := by omega
      go_wp2_with (fail)
      go_ret
      exact ⟨rfl, _, rfl⟩

/-- The reference memory's blocks and its log's block are none of the program's memory's. -/
structure Apart2 (w : World) (g gw gm rb rw rm : Nat) : Prop where
  a1 : Far w g gw gm rb
  a2 : Far w g gw gm rw
  a3 : Far w g gw gm rm
  a4 : ∃ v, w.cell? ⟨rb, 2, none⟩ = some v ∧ ∀ k, v.ownBlock = some k → Far w g gw gm k
theorem Apart2.rfar {w : World} {g gw gm rb rw rm k : Nat} (h : Apart2 w g gw gm rb rw rm) (hk : k < w.heap.size) (hq : k = g ∨ k = gw ∨ k = gm ∨ ∃ v, w.cell? ⟨g, 0, none⟩ = some v ∧ v.ownBlock = some k) : RFar w rb rw rm k := by
  have key : ∀ j, Far w g gw gm j → k ≠ j := fun j f e => by
    subst e
    rcases hq with h1 | h1 | h1 | ⟨v, h1, h2⟩
    · exact f.hg h1
    · exact f.hw h1
    · exact f.hm h1
    · obtain ⟨v', h3, h4⟩ := f.hl
      rw [h1] at h3
      injection h3 with h3
      subst h3
      exact h4 h2
  obtain ⟨v, hv, hf⟩ := h.a4
  exact ⟨hk, key _ h.a1, key _ h.a2, key _ h.a3, v, hv, fun e => key _ (hf k e) rfl⟩
/-- The two memories side by side. -/
structure Jt (w : World) (base g gw gm rb rw rm : Nat) (s t : St) : Prop where
  is : Is w base g gw gm s
  rf : RIs w base rb rw rm t
  ap : Apart2 w g gw gm rb rw rm
section
variable {w w' : World} {base g gw gm rb rw rm : Nat} {s s' t t' : St}
theorem Jt.m (h : Jt w base g gw gm rb rw rm s t) (l : Left w w' base g gw gm s') : Jt w' base g gw gm rb rw rm s' t := by
  obtain ⟨b1, e1⟩ := l.mf.far h.ap.a1
  obtain ⟨b2, e2⟩ := l.mf.far h.ap.a2
  obtain ⟨b3, e3⟩ := l.mf.far h.ap.a3
  obtain ⟨v, hv, hf⟩ := h.ap.a4
  have hc : ∀ j, w'.cell? ⟨rb, j, none⟩ = w.cell? ⟨rb, j, none⟩ := fun j => by simp only [World.cell?, e1]
  refine ⟨l.is, ?_, b1, b2, b3, v, (hc 2).trans hv, fun k hk => (l.mf.far (hf k hk)).1⟩
  obtain ⟨vl, cw, cm, hB⟩ := h.rf
  have ev := hB.cell.2.2.1
  rw [hv] at ev
  injection ev with ev
  subst ev
  refine ⟨v, cw, cm, e1.trans hB.blk, R_stay hB.words rfl (fun k hk => ?_), R_stay hB.hold rfl (fun k hk => ?_), R_stay hB.lo rfl (fun k hk => (l.mf.far (hf k hk)).2), hB.ne, hB.hg⟩
  · simp [Value.ownBlock] at hk
    rw [← hk]; exact e2
  · simp [Value.ownBlock] at hk
    rw [← hk]; exact e3
theorem Jt.r (h : Jt w base g gw gm rb rw rm s t) (l : RL w w' base rb rw rm t') : Jt w' base g gw gm rb rw rm s t' := by
  obtain ⟨vl, cw, cm, hB⟩ := h.is
  have far := fun k hk hq => l.rf.far (h.ap.rfar (k := k) hk hq)
  obtain ⟨_, eg⟩ := far g hB.lt (.inl rfl)
  obtain ⟨_, ew⟩ := far gw hB.wlt.2 (.inr (.inl rfl))
  obtain ⟨_, em⟩ := far gm hB.mlt.2 (.inr (.inr (.inl rfl)))
  have hc : ∀ j, w'.cell? ⟨g, j, none⟩ = w.cell? ⟨g, j, none⟩ := fun j => by simp only [World.cell?, eg]
  have keep : ∀ k, Far w g gw gm k → Far w' g gw gm k := fun k f => by
    obtain ⟨v, h1, h2⟩ := f.hl
    exact ⟨Nat.lt_of_lt_of_le f.lt l.rf.size, f.hg, f.hw, f.hm, v, (hc 0).trans h1, h2⟩
  refine ⟨⟨vl, cw, cm, eg.trans hB.blk, R_stay hB.lo rfl (fun k hk => ?_), R_stay hB.words rfl (fun k hk => ?_), R_stay hB.mus rfl (fun k hk => ?_), hB.hg⟩, l.is, keep _ h.ap.a1, keep _ h.ap.a2, keep _ h.ap.a3, ?_⟩
  · exact (far k (Kd.R_lt hB.lo k hk) (.inr (.inr (.inr ⟨vl, hB.cell.1, hk⟩)))).2
  · simp [Value.ownBlock] at hk
    rw [← hk]; exact ew
  · simp [Value.ownBlock] at hk
    rw [← hk]; exact em
  · obtain ⟨v, hv, hf⟩ := h.ap.a4
    obtain ⟨v', hv', ho⟩ := l.rf.log v hv
    refine ⟨v', hv', fun k hk => ?_⟩
    rcases ho with ho | ⟨b, hb, hle⟩
    · exact keep _ (hf k (ho ▸ hk))
    · rw [hb] at hk
      injection hk with hk
      subst hk
      obtain ⟨vl2, cw2, cm2, hR⟩ := l.is
      have ev := hR.cell.2.2.1
      rw [hv'] at ev
      injection ev with ev
      subst ev
      have hlt := Kd.R_lt hR.lo b hb
      have q1 := hB.lt
      have q2 := hB.wlt.2
      have q3 := hB.mlt.2
      refine ⟨hlt, by omega, by omega, by omega, vl, (hc 0).trans hB.cell.1, fun e => ?_⟩
      have := Kd.R_lt hB.lo b e
      omega
theorem Jt.below (h : Jt w base g gw gm rb rw rm s t) (hb : Below w.heap.size w w') : Jt w' base g gw gm rb rw rm s t := h.m (h.is.left hb)
end
/-- A new reference memory of four words and four mutexes beside the program's. -/
theorem refNew44 {W : World} {base g gw gm : Nat} {s : St} (h : Is W base g gw gm s) : Calls Try.prog 11 #[.int .i64 4, .int .i64 4] W fun e w' => ∃ rb rw rm, e = .returned (.pointer (some ⟨rb, 0, none⟩)) ∧ Jt w' base g gw gm rb rw rm s (sz 4 4) ∧ Below W.heap.size W w' := by
  refine (refNew_yes 4 4 W (by decide) (by decide)).mono ?_
  rintro e w' ⟨rb, vw, vm, rfl, hrb, hblk, hw, hm, hb⟩
  obtain ⟨rw, cw, rfl, hrw, hrw2, _⟩ := Kd.R_form hw (by simp)
  obtain ⟨rm, cm, rfl, hrm, hrm2, _⟩ := Kd.R_form hm (by simp)
  have o1 : rw < rb := hw.1 rw rfl
  have o2 : rb < rm := hm.1 rm rfl
  have hlt : rb < w'.heap.size := (Array.getElem?_eq_some_iff.1 hblk).1
  have hbs := h.bs
  refine ⟨rb, rw, rm, rfl, ⟨(h.left hb).is, ⟨_, _, _, hblk, Kd.R_lower (Kd.R_mono hw (fun _ _ => trivial)) hbs, Kd.R_lower (Kd.R_mono hm (fun _ _ => trivial)) hbs, Kd.R_nil _ _ _ _ _, by omega, by omega⟩, h.far hb hrb hlt, h.far hb hrw hrw2, h.far hb hrm hrm2, _, by simp [World.cell?, hblk]; rfl, fun k hk => by simp [Value.ownBlock] at hk⟩, hb⟩
end Go.Proofs.Ytfkoehokjpcogaa.Hand
