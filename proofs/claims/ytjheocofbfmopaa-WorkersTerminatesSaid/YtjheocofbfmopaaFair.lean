/- sched.Fair: the call tells whether every window of picks holds every thread; a window of 1 to 100000, at most 100000 picks, 0 to 64 threads. -/
import Derived.RangeFuncNested
import Derived.RangeFuncBound
import Derived.RangeFuncCalls
import Derived.RangeFuncLeaves
import Derived.Shelf.Abstract
import Derived.Shelf.RegionOpen
import Derived.WalkKit
import Derived.OwnWalkIn
import Derived.TacticsInMore
import Derived.LoopNIn
import Derived.LoopIn
import Derived.Test.YtjheocofbfmopaaHand0
import Derived.Test.YtjheocofbfmopaaPCx1
namespace Go.Proofs.Ytjheocofbfmopaa.Sch
open Go.RowKit Go.Shelf Go.Proofs.YtjheocofbfmopaaW.PrintWords Go.Proofs.YtjheocofbfmopaaW.PrintLast Go.Proofs.YtjheocofbfmopaaW.PrintMore
attribute [local go_sem] Oper.semAt_some

def winAt (l : List Int) (w i : Nat) : List Int := (l.drop i).take w
def fairAt (l : List Int) (n w i : Nat) : Bool := (List.range n).all fun t => (winAt l w i).contains (t : Int)
def fair (l : List Int) (n w : Nat) : Bool := (List.range (l.length + 1 - w)).all (fairAt l n w)
def fairOk (l0 : List Int) (a1 a2 : Int) : Prop := 0 ≤ a1 ∧ a1 ≤ 64 ∧ l0.length ≤ 100000 ∧ 1 ≤ a2 ∧ a2 ≤ 100000
instance (l0 : List Int) (a1 a2 : Int) : Decidable (fairOk l0 a1 a2) := by unfold fairOk; exact inferInstance
def sched_Fair.f (l0 : List Int) (a1 a2 : Int) : Option Bool := if fairOk l0 a1 a2 then some (fair l0 a1.toNat a2.toNat) else none

/-- What has come when k rounds are over. -/
def upto (N k : Nat) : List (Fin N) := (List.finRange N).take k
theorem upto_succ {N k : Nat} (h : k < N) : upto N (k + 1) = upto N k ++ [⟨k, h⟩] := by
  unfold upto
  rw [List.take_succ_eq_append_getElem (by simpa using h)]
  simp
theorem upto_length {N k : Nat} (h : k ≤ N) : (upto N k).length = k := by simp [upto, h]

set_option maxRecDepth 100000 in
set_option maxHeartbeats 2000000 in
theorem win1_in (F : Fence) (n : Nat) (h28 : F.fn 29) (hro : F.round = none) (hn : 1 ≤ n) (l Bw Bp n₀ L c W : Nat) (ad : Addr) (hL : L ≤ 100000) (hW1 : 1 ≤ W) (hW2 : W ≤ 100000) (hc : L ≤ c) (hBw : Bw < n₀) (hBp : Bp < n₀) (J Jx : List (Fin (L + 1 - W)) → World → Prop)
    (hY : ∀ pre x w, J pre w → pre.length < L + 1 - W → YieldAt F (n - 1) Try.prog l #[.slice (some (ad.add x.1)) W (c - x.1)] w fun e w' =>
      (e = .returned (.bool true) ∧ J (pre ++ [x]) w' ∧ Below n₀ w w') ∨ (e = .returned (.bool false) ∧ Jx (pre ++ [x]) w'))
    (w : World) (hcw : w.cell? ⟨Bw, 0, none⟩ = some (.int .i64 (W : Int))) (hcp : w.cell? ⟨Bp, 0, none⟩ = some (.slice (some ad) L c)) (h0 : J [] w) :
    CallsIn F n Try.prog 29 #[.func (.yield l) #[] #[], .pointer (some ⟨Bw, 0, none⟩), .pointer (some ⟨Bp, 0, none⟩)] w fun e w' => (∃ v, e = .returned v) ∧
      ((∃ ys, ys = upto (L + 1 - W) (L + 1 - W) ∧ J ys w') ∨ (∃ pre, (∃ k, k ≤ L + 1 - W ∧ pre = upto (L + 1 - W) k) ∧ Jx pre w')) := by
  refine callsIn_of_wp Try.func29 rfl h28 ?_ hro
  simp only [Try.ntmps29, List.size_toArray, List.length_cons, List.length_nil, Nat.reduceAdd, Nat.reduceSub, Array.replicate_succ, Array.replicate_zero, List.push_toArray, List.append_toArray, List.nil_append, List.cons_append]
  gi_wp2
  gi_loopw [4] (fun i wr => ∃ k : Nat, k ≤ L + 1 - W ∧ i = .int .i64 k ∧ J (upto (L + 1 - W) k) wr ∧ Below n₀ w wr) (fun i _ => L + 1 - W - (intOf i).toNat)
  case atStart => exact ⟨0, Nat.zero_le _, rfl, h0, Below.refl _ _⟩
  case round =>
    obtain ⟨k, hk, rfl, hJs, hnx⟩ := hrel
    have hcw2 := (hnx.cell (p := ⟨Bw, 0, none⟩) hBw).trans hcw
    have hcp2 := (hnx.cell (p := ⟨Bp, 0, none⟩) hBp).trans hcp
    by_cases hlt : k + W ≤ L
    · obtain ⟨fn, tmps, assign, body, hy, hR⟩ := hY _ ⟨k, by omega⟩ wr hJs (by rw [upto_length hk]; omega)
      dsimp only at hy
      gi_wp2
      refine hR.mono ?_
      rintro e W3 (⟨rfl, hJ3, hk3⟩ | ⟨rfl, hJx3⟩)
      · gi_wp2
        go_roundw
        case rel => exact ⟨k + 1, by omega, by go_num, by rw [upto_succ (by omega)]; exact hJ3, hnx.trans hk3⟩
        case measure => simp [intOf]; omega
      · gi_wp2
        refine bodyPost_ret (results_none rfl _ _ _) rfl ?_
        exact ⟨⟨_, rfl⟩, .inr ⟨_, ⟨k + 1, by omega, (upto_succ (by omega)).symm⟩, hJx3⟩⟩
    · obtain rfl : k = L + 1 - W := by omega
      gi_wp2
      go_end0
      exact ⟨⟨_, rfl⟩, .inl ⟨_, rfl, hJs⟩⟩

set_option maxRecDepth 100000 in
set_option maxHeartbeats 1000000 in
theorem win1_none (F : Fence) (n : Nat) (h28 : F.fn 29) (hro : F.round = none) {α : Type} (l Bw Bp c W : Nat) (A : Option Addr) (hW1 : 1 ≤ W) (hW2 : W ≤ 100000) (J : List α → World → Prop) (w : World)
    (hcw : w.cell? ⟨Bw, 0, none⟩ = some (.int .i64 (W : Int))) (hcp : w.cell? ⟨Bp, 0, none⟩ = some (.slice A 0 c)) (h0 : J [] w) :
    CallsIn F n Try.prog 29 #[.func (.yield l) #[] #[], .pointer (some ⟨Bw, 0, none⟩), .pointer (some ⟨Bp, 0, none⟩)] w fun e w' => (∃ v, e = .returned v) ∧ J [] w' := by
  refine callsIn_of_wp Try.func29 rfl h28 ?_ hro
  simp only [Try.ntmps29, List.size_toArray, List.length_cons, List.length_nil, Nat.reduceAdd, Nat.reduceSub, Array.replicate_succ, Array.replicate_zero, List.push_toArray, List.append_toArray, List.nil_append, List.cons_append]
  gi_wp2
  gi_loopw [4] (fun i wr => i = .int .i64 0 ∧ wr = w ∧ J [] wr) (fun _ _ => 0)
  case atStart => exact ⟨rfl, rfl, h0⟩
  case round =>
    obtain ⟨rfl, rfl, hJs⟩ := hrel
    gi_wp2
    go_end0
    exact ⟨⟨_, rfl⟩, hJs⟩

set_option maxHeartbeats 1000000 in
theorem windows_in (F : Fence) (n : Nat) (h22 : F.fn 24) (hro : F.round = none) (A : Option Addr) (L c : Nat) (W : Int) (w : World) :
    CallsIn F n Try.prog 24 #[.slice A L c, .int .i64 W] w fun e w' => e = .returned (.func (.func 29) #[] #[.pointer (some ⟨w.heap.size + 1, 0, none⟩), .pointer (some ⟨w.heap.size, 0, none⟩)]) ∧
      w' = (w.alloc (.cells #[.slice A L c] 29)).alloc (.cells #[.int .i64 W] 3) := by
  refine callsIn_of_wp Try.func24 rfl h22 ?_ hro
  simp only [Try.ntmps24, List.size_toArray, List.length_cons, List.length_nil, Nat.reduceAdd, Nat.reduceSub, Array.replicate_succ, Array.replicate_zero, List.push_toArray, List.append_toArray, List.nil_append, List.cons_append]
  gi_wp2
  go_ret
  exact ⟨rfl, rfl⟩

/-- The iterator that windows hands back. -/
theorem win_stops (F : Fence) (n : Nat) (h28 : F.fn 29) (hro : F.round = none) (hn : 1 ≤ n) (Bw Bp n₀ L c W : Nat) (A : Option Addr) (hL : L ≤ 100000) (hW1 : 1 ≤ W) (hW2 : W ≤ 100000) (hc : L ≤ c) (hA : 0 < L → ∃ ad, A = some ad) (w : World) (hBw : Bw < n₀) (hBp : Bp < n₀) (hn₀ : n₀ ≤ w.heap.size)
    (hcw : w.cell? ⟨Bw, 0, none⟩ = some (.int .i64 (W : Int))) (hcp : w.cell? ⟨Bp, 0, none⟩ = some (.slice A L c)) :
    SeqStopsK F n Try.prog 29 #[.pointer (some ⟨Bw, 0, none⟩), .pointer (some ⟨Bp, 0, none⟩)] (fun x : Fin (L + 1 - W) => #[Value.slice (A.map (·.add x.1)) W (c - x.1)]) (Below n₀) (fun ys => ys = upto (L + 1 - W) (L + 1 - W)) (fun pre => ∃ k, k ≤ L + 1 - W ∧ pre = upto (L + 1 - W) k) (L + 1 - W) w := fun l J Jx w1 hw _ _ hY h0 => by
  have hcw' := (hw.cell (p := ⟨Bw, 0, none⟩) (show Bw < _ by omega)).trans hcw
  have hcp' := (hw.cell (p := ⟨Bp, 0, none⟩) (show Bp < _ by omega)).trans hcp
  rcases Nat.eq_zero_or_pos L with rfl | hp
  · have hz : upto (0 + 1 - W) (0 + 1 - W) = [] := List.eq_nil_of_length_eq_zero (by rw [upto_length (Nat.le_refl _)]; omega)
    exact (win1_none F n h28 hro l Bw Bp c W A hW1 hW2 J w1 hcw' hcp' h0).mono fun e w' ⟨he, hj⟩ => ⟨he, .inl ⟨_, rfl, by rw [hz]; exact hj⟩⟩
  · obtain ⟨ad, rfl⟩ := hA hp
    exact win1_in F n h28 hro hn l Bw Bp n₀ L c W ad hL hW1 hW2 hc hBw hBp J Jx hY w1 hcw' hcp' h0

theorem has_from (l : List Int) (m : Int) (hb : l.length ≤ 100000) : ∀ (d k i : Nat), l.length - i = d → d < k → i ≤ l.length → (∀ j (h : j < l.length), j < i → l[j] ≠ m) →
    ∃ r, PC.slices_Index_int_int.l0 k l m (l.length : Int) (i : Int) = some r ∧ decide (r ≥ 0) = l.contains m := by
  intro d
  induction d with
  | zero =>
    intro k i hd hk hi hn
    obtain ⟨k, rfl⟩ : ∃ m, k = m + 1 := ⟨k - 1, by omega⟩
    refine ⟨-1, by simp only [PC.slices_Index_int_int.l0]; rw [if_neg (by omega)], ?_⟩
    have : ¬ m ∈ l := fun h => by
      obtain ⟨j, hj, e⟩ := List.mem_iff_getElem.1 h
      exact hn j hj (by omega) e
    simpa using this
  | succ d ih =>
    intro k i hd hk hi hn
    obtain ⟨k, rfl⟩ : ∃ m, k = m + 1 := ⟨k - 1, by omega⟩
    have hlt : i < l.length := by omega
    simp only [PC.slices_Index_int_int.l0]
    rw [if_pos (by omega), if_pos (by omega), if_pos (by omega)]
    have hr : rd l (i : Int) = l[i] := by simp [rd, List.getD_eq_getElem?_getD, hlt]
    rw [hr]
    by_cases e : m = l[i]
    · rw [if_pos e]
      refine ⟨_, rfl, ?_⟩
      have : m ∈ l := by rw [e]; exact List.getElem_mem _
      rw [List.contains_iff_mem.2 this]
      simp
    · rw [if_neg e]
      have hw : wrap64 ((i : Int) + 1) = ((i + 1 : Nat) : Int) := by unfold wrap64; omega
      rw [hw]
      refine ih k (i + 1) (by omega) (by omega) (by omega) (fun j h hj => ?_)
      by_cases h2 : j = i
      · subst h2; exact fun h3 => e h3.symm
      · exact hn j h (by omega)
theorem contains_calls (A0 : Option Addr) (c0 : Nat) (l0 : List Int) (n : Nat) (m : Int) (w : World) (hn : l0.length = n) (hr0 : Kd.C (Kd.int .i64) w A0 l0.length l0) (hc : n ≤ c0) (hl : n ≤ 100000) :
    Calls Try.prog 25 #[.slice A0 n c0, .int .i64 m] w fun e w' => e = .returned (.bool (l0.contains m)) ∧ Drawn0 w w' := by
  subst hn
  obtain ⟨r, h1, h2⟩ := has_from l0 m hl l0.length (l0.length + 1) 0 (by omega) (by omega) (by omega) (fun j _ h => absurd h (by omega))
  refine PC.slices_Contains_int_int.calls (l0.length + 1) A0 c0 l0 m _ w hr0 hc ?_
  have h3 : PC.slices_Index_int_int.f (l0.length + 1) l0 m = some r := h1
  unfold PC.slices_Contains_int_int.f
  rw [h3, Option.bind_some, h2]

theorem fair_true {l : List Int} {n q : Nat} (h : ∀ x ∈ upto (l.length + 1 - q) (l.length + 1 - q), fairAt l n q x.1 = true) : fair l n q = true := by
  unfold fair
  rw [List.all_eq_true]
  intro i hi
  have hlt : i < l.length + 1 - q := List.mem_range.1 hi
  refine h ⟨i, hlt⟩ ?_
  unfold upto
  rw [List.take_of_length_le (by simp)]
  exact List.mem_finRange _
theorem fair_false {l : List Int} {n q k : Nat} (h : ∃ x ∈ upto (l.length + 1 - q) k, fairAt l n q x.1 = false) : fair l n q = false := by
  obtain ⟨x, _, hx⟩ := h
  unfold fair
  rw [List.all_eq_false]
  exact ⟨x.1, List.mem_range.2 x.2, by rw [hx]; simp⟩
theorem win_length {l : List Int} {q i : Nat} (h : i + q ≤ l.length) : (winAt l q i).length = q := by simp [winAt]; omega
theorem win_reads {w : World} {A : Option Addr} {l : List Int} {c q i : Nat} (h : Kd.C (Kd.int .i64) w A l.length l) (hc : l.length ≤ c) (hi : i + q ≤ l.length) (hq : 1 ≤ q) :
    Kd.C (Kd.int .i64) w (A.map (·.add i)) (winAt l q i).length (winAt l q i) := by
  have h2 := Kd.C_mid (lo := i) (hi := i + q) h (by omega) hi hc
  rw [if_neg (by omega), List.drop_take, show i + q - i = q by omega] at h2
  have h3 : Kd.C (Kd.int .i64) w (A.map (·.add (i * 1))) ((l.drop i).take q).length ((l.drop i).take q) := h2
  rw [Nat.mul_one] at h3
  exact h3
theorem fairAt_true {l : List Int} {n q i : Nat} (h : ∀ s, s < n → (winAt l q i).contains (s : Int) = true) : fairAt l n q i = true := by
  unfold fairAt
  rw [List.all_eq_true]
  exact fun s hs => h s (List.mem_range.1 hs)
theorem fairAt_false {l : List Int} {n q i t : Nat} (ht : t < n) (h : (winAt l q i).contains (t : Int) = false) : fairAt l n q i = false := by
  unfold fairAt
  rw [List.all_eq_false]
  exact ⟨t, List.mem_range.2 ht, by rw [h]; simp⟩

set_option maxRecDepth 100000 in
set_option maxHeartbeats 4000000 in
theorem sched_Fair.calls (A0 : Option Addr) (c0 : Nat) (l0 : List Int) (a1 : Int) (a2 : Int) (r : Bool) (w : World) (hr0 : Kd.C (Kd.int .i64) w A0 l0.length l0) (hc0 : l0.length ≤ c0) (h : sched_Fair.f l0 a1 a2 = some r) :
    Calls Try.prog 16 #[.slice A0 l0.length c0, .int .i64 a1, .int .i64 a2] w fun e w' => e = .returned (.bool r) ∧ Below w.heap.size w w' := by
  unfold sched_Fair.f at h
  split at h
  case isFalse => simp at h
  case isTrue hok =>
  obtain ⟨h1, h2, h3, h4, h5⟩ := hok
  have HS := Aside0.mk (Option.some.inj h)
  have HR := Aside0.mk hr0
  clear h hr0
  obtain ⟨n, rfl⟩ : ∃ n : Nat, a1 = n := ⟨a1.toNat, by omega⟩
  obtain ⟨q, rfl⟩ : ∃ n : Nat, a2 = n := ⟨a2.toNat, by omega⟩
  have hn : (n : Int).toNat = n := by omega
  have hq : (q : Int).toNat = q := by omega
  rw [hn, hq] at HS
  clear hn hq
  refine (callsIn_wide (n := 3)).1 ?_
  refine callsIn_of_wp_marks Try.func16 rfl trivial ?_ rfl
  simp only [Try.ntmps16, List.size_toArray, List.length_cons, List.length_nil, Nat.reduceAdd, Nat.reduceSub, Array.replicate_succ, Array.replicate_zero, List.push_toArray, List.append_toArray, List.nil_append, List.cons_append]
  gi_wp2_with (refine ⟨trivial, ?_⟩; gi_at_call 24; refine (windows_in Fence.wide _ trivial rfl _ _ _ _ _).mono ?_; rintro e w' ⟨rfl, rfl⟩)
  have bT := Boxed.new w 3 (.int .i64 (n : Int))
  have bR := Boxed.new (w.alloc (.cells #[.int .i64 (n : Int)] 3)) 4 (.bool false)
  have bP := Boxed.new ((w.alloc (.cells #[.int .i64 (n : Int)] 3)).alloc (.cells #[.bool false] 4)) 29 (.slice A0 l0.length c0)
  have bW := Boxed.new (((w.alloc (.cells #[.int .i64 (n : Int)] 3)).alloc (.cells #[.bool false] 4)).alloc (.cells #[.slice A0 l0.length c0] 29)) 3 (.int .i64 (q : Int))
  simp only [World.size_alloc] at bR bP bW
  have bT4 := ((bT.alloc (.cells #[.bool false] 4)).alloc (.cells #[.slice A0 l0.length c0] 29)).alloc (.cells #[.int .i64 (q : Int)] 3)
  have bR4 := (bR.alloc (.cells #[.slice A0 l0.length c0] 29)).alloc (.cells #[.int .i64 (q : Int)] 3)
  have bP4 := bP.alloc (.cells #[.int .i64 (q : Int)] 3)
  have hB0 : Below w.heap.size w ((((w.alloc (.cells #[.int .i64 (n : Int)] 3)).alloc (.cells #[.bool false] 4)).alloc (.cells #[.slice A0 l0.length c0] 29)).alloc (.cells #[.int .i64 (q : Int)] 3)) :=
    ((((Below.refl _ w).alloc (Nat.le_refl _) _).alloc (by simp) _).alloc (by simp; omega) _).alloc (by simp; omega) _
  have hA : 0 < l0.length → ∃ ad, A0 = some ad := fun hp => by
    obtain ⟨ad, e, _⟩ := HR.out.2.2 hp
    exact ⟨ad, e⟩
  refine wpIn_rangeFunc_ownF (F := Fence.wide) rfl (by omega) (gf := 29) (lb := #[.pointer (some ⟨w.heap.size + 1 + 1 + 1, 0, none⟩), .pointer (some ⟨w.heap.size + 1 + 1, 0, none⟩)]) rfl trivial (enters_of Try.func29 (by kernel_rfl) rfl)
    (win_stops Fence.wide (3 - 1) trivial rfl (by omega) (w.heap.size + 1 + 1 + 1) (w.heap.size + 1 + 1) (w.heap.size + 4) l0.length c0 q A0 h3 (by omega) (by omega) hc0 hA _ (by omega) (by omega) (by simp) bW.cell bP4.cell) belowK_t (belowK_b (by simp)) (Below.refl _ _) (fun _ => rfl)
    (fun pre W => ((∀ x ∈ pre, fairAt l0 n q x.1 = true) ∧ W.cell? ⟨w.heap.size, 0, none⟩ = some (.int .i64 (n : Int)) ∧ W.cell? ⟨w.heap.size + 1, 0, none⟩ = some (.bool false) ∧ W.frozen? ⟨w.heap.size + 1, 0, none⟩ = false) ∧ Below w.heap.size w W)
    (fun c pre W => (c = .ret ∧ (∃ x ∈ pre, fairAt l0 n q x.1 = false) ∧ W.cell? ⟨w.heap.size + 1, 0, none⟩ = some (.bool false)) ∧ Below w.heap.size w W)
    (OwnFrom.and (Own.from (fun s A B row hs hg hr => ⟨hs.1, cell_kept hs.2.1 hg hr, cell_kept hs.2.2.1 hg hr, (frozen_kept hs.2.2.1 hg hr).trans hs.2.2.2⟩) _) (ownFrom_below (Nat.le_refl _) (by simp; omega)))
    (fun c => OwnFrom.and (Own.from (fun s A B row hs hg hr => ⟨hs.1, hs.2.1, cell_kept hs.2.2 hg hr⟩) _) (ownFrom_below (Nat.le_refl _) (by simp; omega)))
    ⟨⟨by simp, bT4.cell, bR4.cell, bR4.frozen⟩, hB0⟩
    (fun x => { tmps := #[.slice A0 l0.length c0, .int .i64 (n : Int), .int .i64 (q : Int), undef, .pointer (some ⟨w.heap.size, 0, none⟩), undef, .pointer (some ⟨w.heap.size + 1, 0, none⟩), .slice (A0.map (·.add x.1)) q (c0 - x.1), undef, .slice A0 l0.length c0, .int .i64 (q : Int),
      .func (.func 29) #[] #[.pointer (some ⟨w.heap.size + 1 + 1 + 1, 0, none⟩), .pointer (some ⟨w.heap.size + 1 + 1, 0, none⟩)], .slice (A0.map (·.add x.1)) q (c0 - x.1), undef, undef, undef, undef, undef, undef, undef, undef, undef], defers := [] }) ?assign ?body ?done ?stop
  case assign =>
    intro l x W K hK
    gi_wp2
    exact hK
  case body =>
    rintro l pre x W ⟨⟨hp, hcn, hcr, hfr⟩, hB⟩ _
    have hx2 := x.2
    have hx : x.1 + q ≤ l0.length := by omega
    have HC := Aside0.mk (Kd.C_below (win_reads (q := q) HR.out hc0 hx (by omega)) hB)
    have HL := Aside0.mk (win_length (l := l0) hx)
    have HP := Aside0.mk hp
    have HBB := Aside0.mk hB
    obtain ⟨i, hi⟩ := x
    clear hp hB
    dsimp only at hx2 hx HC HL ⊢
    have hone : 1 ≤ 3 - 1 - 1 := by omega
    gi_wp2
    gi_loopw [14] (fun v wr => ∃ t : Nat, t ≤ n ∧ v = .int .i64 t ∧ Drawn0 W wr ∧ Aside0 (∀ s, s < t → (winAt l0 q i).contains (s : Int) = true)) (fun v _ => n - (intOf v).toNat)
    case atStart => exact ⟨0, Nat.zero_le _, rfl, Drawn0.refl _, ⟨fun s hs => absurd hs (by omega)⟩⟩
    case round =>
      obtain ⟨t, ht, rfl, ⟨m, rfl⟩, HT⟩ := hrel
      by_cases htn : t < n
      · have hcl := (contains_calls (A0.map (·.add i)) (c0 - i) (winAt l0 q i) q (t : Int) (W.drewN m) HL.out (Kd.C_drewN HC.out m) (by omega) (by omega))
        have HCL := Aside0.mk hcl
        clear hcl
        obtain ⟨b, hb⟩ : ∃ b, (winAt l0 q i).contains (t : Int) = b := ⟨_, rfl⟩
        rw [hb] at HCL
        have HBQ := Aside0.mk hb
        clear hb
        cases b with
        | true =>
          gi_wp2_with (refine ⟨trivial, ?_⟩; gi_at_call 25; refine (CallsIn.inRound l (callsIn_wide.2 HCL.out)).mono ?_; rintro e w' ⟨rfl, ⟨m2, rfl⟩⟩)
          go_roundw
          case rel => exact ⟨t + 1, by omega, by go_num, ⟨_, rfl⟩, ⟨fun s hs => by
            rcases Nat.lt_or_ge s t with h | h
            · exact HT.out s h
            · obtain rfl : s = t := by omega
              exact HBQ.out⟩⟩
          case measure => simp [intOf]; omega
        | false =>
          gi_wp2_with (refine ⟨trivial, ?_⟩; gi_at_call 25; refine (CallsIn.inRound l (callsIn_wide.2 HCL.out)).mono ?_; rintro e w' ⟨rfl, ⟨m2, rfl⟩⟩)
          have hk0 : KeepsOthers W (W.drewN (m + m2)) := ⟨Nat.le_refl _, fun _ _ h _ => h⟩
          exact ⟨hk0.trans (KeepsOthers.setCell _ _ _), ⟨rfl, ⟨⟨i, hi⟩, List.mem_append.2 (.inr (by simp)), fairAt_false htn HBQ.out⟩, World.cell?_setCell_same' _ _ _ (by show (W.cell? _).isSome = true; rw [hcr]; rfl)⟩, (pw_below_drewN HBB.out _).setCell (p := ⟨w.heap.size + 1, 0, none⟩) (by simp) _⟩
      · have hge : n ≤ t := by omega
        clear htn
        gi_wp2
        exact ⟨⟨Nat.le_refl _, fun _ _ h _ => h⟩, pw_below_drewN (Below.refl _ _) m, ⟨fun y hy => (List.mem_append.1 hy).elim (HP.out y) (fun e => by simp at e; subst e; exact fairAt_true (fun s hs => HT.out s (by omega))), hcn, hcr, hfr⟩, pw_below_drewN HBB.out m⟩
  case done =>
    rintro D ys W hD rfl ⟨⟨hne, hcn, hcr, hfr⟩, hB⟩ hK
    gi_wp2
    have hK' := (KeepsOthers.setCell W ⟨w.heap.size + 1, 0, none⟩ (.bool true)).same D _ hK rfl
    refine ⟨by simp, .inl ⟨_, _, rfl, run_takeDeferred hK', ?_⟩⟩
    have hc5 := cell_kept (World.cell?_setCell_same' W ⟨w.heap.size + 1, 0, none⟩ (.bool true) (by rw [hcr]; rfl)) (grownBy_putObj' _ D (.deferred none)) (fun r e => by cases e; exact ⟨_, hK', rfl⟩)
    refine ⟨.bool true, ?_, ?_, (hB.setCell (p := ⟨w.heap.size + 1, 0, none⟩) (by simp) _).trans (belowK_b (w := w) (Nat.le_refl _) _ D _ _ (by simp at hD; omega) hK' rfl rfl)⟩
    · simp [results, Try.f16, go_sem, hc5]
    · rw [← HS.out, fair_true hne]
  case stop =>
    rintro D c pre W hD ⟨k, hk, rfl⟩ ⟨⟨rfl, hex, hcr⟩, hB⟩ hK
    gi_wp2
    refine ⟨by simp, .inl ⟨_, _, rfl, run_takeDeferred hK, ?_⟩⟩
    have hc5 := cell_kept hcr (grownBy_putObj' _ D (.deferred none)) (fun r e => by cases e; exact ⟨_, hK, rfl⟩)
    refine ⟨.bool false, ?_, ?_, hB.trans (belowK_b (w := w) (Nat.le_refl _) W D _ _ (by simp at hD; omega) hK rfl rfl)⟩
    · simp [results, Try.f16, go_sem, hc5]
    · rw [← HS.out, fair_false hex]
end Go.Proofs.Ytjheocofbfmopaa.Sch
