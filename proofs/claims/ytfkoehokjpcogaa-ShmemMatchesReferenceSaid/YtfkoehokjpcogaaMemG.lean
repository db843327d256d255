/- ropeladderlaw01.head computes true, whatever the world; no condition. -/
import Derived.Test.YtfkoehokjpcogaaMemE
import Derived.Test.YtfkoehokjpcogaaMemF
namespace Go.Proofs.Ytfkoehokjpcogaa.Hand
open Go.RowKit Go.Proofs.YtfkoehokjpcogaaW.PrintWords Go.Proofs.YtfkoehokjpcogaaW.PrintLast Go.Proofs.YtfkoehokjpcogaaW.PrintMore
set_option linter.unusedVariables false

theorem eqAcc (d : Nat) (w : World) (x0 y0 : Int) (x1 y1 : Int) (x2 y2 : Int) (x3 y3 : Int) (x4 y4 : Int) (x5 y5 : Bool) :
    (Op.equalIn (d + 2) 47 (.agg #[.int .i64 x0, .int .i64 x1, .int .i64 x2, .int .i64 x3, .int .i64 x4, .bool x5]) (.agg #[.int .i64 y0, .int .i64 y1, .int .i64 y2, .int .i64 y3, .int .i64 y4, .bool y5])).run Try.prog w = .ok (x0 == y0 && (x1 == y1 && (x2 == y2 && (x3 == y3 && (x4 == y4 && (x5 == y5)))))) w := by
  refine eqA_of Try.underlying47 (by kernel_rfl) ?_
  refine eqf_cons (by rfl) (by go_simp; rfl) (by go_simp; rfl) (by go_simp) ?_
  refine eqf_cons (by rfl) (by go_simp; rfl) (by go_simp; rfl) (by go_simp) ?_
  refine eqf_cons (by rfl) (by go_simp; rfl) (by go_simp; rfl) (by go_simp) ?_
  refine eqf_cons (by rfl) (by go_simp; rfl) (by go_simp; rfl) (by go_simp) ?_
  refine eqf_cons (by rfl) (by go_simp; rfl) (by go_simp; rfl) (by go_simp) ?_
  exact eqf_last (by rfl) (by go_simp; rfl) (by go_simp; rfl) (by go_simp)
attribute [local go_sem] max2_int min2_int max_two min_two max_three min_three max_four min_four
attribute [local go_sem high] eqAcc
/-- The call of New at sizes that are none. -/
theorem no257 : ¬ (((0 : Int) ≤ 257 ∧ (257 : Int) ≤ 256) ∧ ((0 : Int) ≤ 0 ∧ (0 : Int) ≤ 256)) := by omega
theorem noNeg : ¬ (((0 : Int) ≤ 0 ∧ (0 : Int) ≤ 256) ∧ ((0 : Int) ≤ -1 ∧ (-1 : Int) ≤ 256)) := by omega
def hs0 : St := ⟨[], 0, List.replicate 2 0, List.replicate 2 ⟨false, 0⟩⟩
def hs1 : St := ⟨[⟨1, 2, 0, 0, 5, true⟩], 0, [5, 0], [⟨false, 0⟩, ⟨false, 0⟩]⟩
def hs2 : St := ⟨[⟨1, 2, 0, 0, 5, true⟩, ⟨2, 3, 0, 5, 9, true⟩], 0, [9, 0], [⟨false, 0⟩, ⟨false, 0⟩]⟩
def hs3 : St := ⟨[⟨1, 2, 0, 0, 5, true⟩, ⟨2, 3, 0, 5, 9, true⟩, ⟨2, 3, 0, 9, 9, false⟩], 0, [9, 0], [⟨false, 0⟩, ⟨false, 0⟩]⟩
def hs4 : St := ⟨[⟨1, 2, 0, 0, 5, true⟩, ⟨2, 3, 0, 5, 9, true⟩, ⟨2, 3, 0, 9, 9, false⟩, ⟨1, 5, 1, 0, 1, true⟩], 0, [9, 0], [⟨false, 0⟩, ⟨true, 1⟩]⟩
def hs5 : St := ⟨[⟨1, 2, 0, 0, 5, true⟩, ⟨2, 3, 0, 5, 9, true⟩, ⟨2, 3, 0, 9, 9, false⟩, ⟨1, 5, 1, 0, 1, true⟩, ⟨2, 5, 1, 1, 1, false⟩], 0, [9, 0], [⟨false, 0⟩, ⟨true, 1⟩]⟩
def hs6 : St := ⟨[⟨1, 2, 0, 0, 5, true⟩, ⟨2, 3, 0, 5, 9, true⟩, ⟨2, 3, 0, 9, 9, false⟩, ⟨1, 5, 1, 0, 1, true⟩, ⟨2, 5, 1, 1, 1, false⟩, ⟨2, 6, 1, 1, 1, false⟩], 1, [9, 0], [⟨false, 0⟩, ⟨true, 1⟩]⟩
def hs7 : St := ⟨[⟨1, 2, 0, 0, 5, true⟩, ⟨2, 3, 0, 5, 9, true⟩, ⟨2, 3, 0, 9, 9, false⟩, ⟨1, 5, 1, 0, 1, true⟩, ⟨2, 5, 1, 1, 1, false⟩, ⟨2, 6, 1, 1, 1, false⟩, ⟨3, 4, 1, 0, 4, true⟩], 1, [9, 4], [⟨false, 0⟩, ⟨true, 1⟩]⟩
def hs8 : St := { hs7 with V := 2 }
theorem he1 : hs0.add 1 0 5 = (hs1, 5) := by kernel_rfl
theorem he2 : hs1.cas 2 0 5 9 = (hs2, true) := by rfl
theorem he3 : hs2.cas 2 0 5 7 = (hs3, false) := by rfl
theorem he4 : hs3.tryLock 1 1 = (hs4, true) := by rfl
theorem he5 : hs4.tryLock 2 1 = (hs5, false) := by rfl
theorem he6 : hs5.unlock 2 1 = (hs6, false) := by rfl
theorem he7 : hs6.store 3 1 4 = hs7 := by rfl
theorem he8 : hs7.touch 1 1 = (hs7, true) := by rfl
theorem he9 : hs7.touch 1 0 = (hs8, false) := by rfl
theorem he10 : (hs8.load 0 0).2 = 9 := by rfl
theorem he11 : hs7.holder 1 = 1 := by rfl
theorem he12 : hs7.holder 0 = -1 := by rfl
theorem he13 : (hs8.load 0 0).1.word 1 = 4 := by rfl
theorem hf0 : hs0.fit := by unfold St.fit; decide
theorem hf1 : hs1.fit := by unfold St.fit; decide
theorem hf2 : hs2.fit := by unfold St.fit; decide
theorem hf3 : hs3.fit := by unfold St.fit; decide
theorem hf4 : hs4.fit := by unfold St.fit; decide
theorem hf5 : hs5.fit := by unfold St.fit; decide
theorem hf6 : hs6.fit := by unfold St.fit; decide
theorem hf7 : hs7.fit := by unfold St.fit; decide
theorem hf8 : hs8.fit := by unfold St.fit; decide
theorem hf9 : (hs8.load 0 0).1.fit := by unfold St.fit; decide

/-- Block k is none of the memory's, nor its log's. -/
structure Far (w : World) (g gw gm k : Nat) : Prop where
  lt : k < w.heap.size
  hg : k ≠ g
  hw : k ≠ gw
  hm : k ≠ gm
  hl : ∃ v, w.cell? ⟨g, 0, none⟩ = some v ∧ v.ownBlock ≠ some k
theorem MF.far {w w' : World} {g gw gm k : Nat} (h : MF w w' g gw gm) (f : Far w g gw gm k) : Far w' g gw gm k ∧ w'.heap[k]? = w.heap[k]? := by
  refine ⟨⟨Nat.lt_of_lt_of_le f.lt h.size, f.hg, f.hw, f.hm, ?_⟩, h.block k f.lt f.hg f.hw f.hm f.hl⟩
  obtain ⟨v, hv, hn⟩ := f.hl
  obtain ⟨v', hv', ho⟩ := h.log v hv
  refine ⟨v', hv', fun e => ?_⟩
  rcases ho with ho | ⟨b, hb, hle⟩
  · exact hn (ho ▸ e)
  · rw [hb] at e
    injection e with e
    have := f.lt
    omega
/-- A block made behind the memory. -/
theorem Is.far {W w' : World} {base g gw gm k : Nat} {s : St} (h : Is W base g gw gm s) (hb : Below W.heap.size W w') (h1 : W.heap.size ≤ k) (h2 : k < w'.heap.size) : Far w' g gw gm k := by
  obtain ⟨vl, cw, cm, h⟩ := h
  have e1 := h.lt
  have e2 := h.wlt
  have e3 := h.mlt
  refine ⟨h2, by omega, by omega, by omega, vl, (hb.cell (p := ⟨g, 0, none⟩) h.lt).trans h.cell.1, fun e => ?_⟩
  have := Kd.R_lt h.lo k e
  omega
theorem new22 (W : World) : Calls Try.prog 10 #[.int .i64 2, .int .i64 2] W fun e w' => ∃ g gw gm, e = .returned (.pointer (some ⟨g, 0, none⟩)) ∧ Is w' W.heap.size g gw gm hs0 ∧ Below W.heap.size W w' := new_calls 2 2 W (by decide) (by decide)
theorem kA_openM {w : World} {base : Nat} {ok : Nat → Prop} {x : Acc} {cs : List Value} (h : kA.M w base ok x cs) : cs = x.cells := by
  obtain ⟨_, _, rfl, rfl, ⟨_, _, rfl, rfl, ⟨_, _, rfl, rfl, ⟨_, _, rfl, rfl, ⟨_, _, rfl, rfl, rfl⟩⟩⟩⟩⟩ := h
  exact rfl
theorem log_calls2 {W : World} {base g gw gm : Nat} {s : St} (h : Is W base g gw gm s) (hf : s.fit) (hp : 0 < s.log.length) :
    Calls Try.prog 18 #[.pointer (some ⟨g, 0, none⟩)] W fun e w' => ∃ k c, e = .returned (.slice (some ⟨k, 0, none⟩) s.log.length c) ∧ Far w' g gw gm k ∧
      (∀ i j u, i < s.log.length → (s.log.getD i Acc.zero).cells[j]? = some u → w'.cell? ⟨k, i * 6 + j, none⟩ = some u) ∧ Below W.heap.size W w' := by
  refine (log_calls h hf).mono ?_
  rintro e w' ⟨v, rfl, hv, hb⟩
  obtain ⟨k, c, rfl, hk, hk2, _⟩ := Kd.R_form hv hp
  refine ⟨k, c, rfl, h.far hb hk hk2, fun i j u hi hj => ?_, hb⟩
  obtain ⟨cs, _, hM, hcc, _⟩ := Kd.R_elem hv Acc.zero (i : Int) (by omega) (by omega)
  have e := kA_openM hM
  rw [Int.toNat_natCast] at e hcc
  subst e
  exact hcc j u hj

theorem head_cells {w1 w2 : World} {g gw gm k : Nat} (hm : MF w1 w2 g gw gm) (f : Far w1 g gw gm k) (hc : ∀ i j u, i < hs7.log.length → (hs7.log.getD i Acc.zero).cells[j]? = some u → w1.cell? ⟨k, i * 6 + j, none⟩ = some u) :
    w2.cell? ⟨k, 6, none⟩ = some (.int .i64 2) ∧ w2.cell? ⟨k, 7, none⟩ = some (.int .i64 3) ∧ w2.cell? ⟨k, 8, none⟩ = some (.int .i64 0) ∧ w2.cell? ⟨k, 9, none⟩ = some (.int .i64 5) ∧ w2.cell? ⟨k, 10, none⟩ = some (.int .i64 9) ∧ w2.cell? ⟨k, 11, none⟩ = some (.bool true) ∧ w2.cell? ⟨k, 24, none⟩ = some (.int .i64 2) ∧ w2.cell? ⟨k, 25, none⟩ = some (.int .i64 5) ∧ w2.cell? ⟨k, 26, none⟩ = some (.int .i64 1) ∧ w2.cell? ⟨k, 27, none⟩ = some (.int .i64 1) ∧ w2.cell? ⟨k, 28, none⟩ = some (.int .i64 1) ∧ w2.cell? ⟨k, 29, none⟩ = some (.bool false) := by
  have e := (hm.far f).2
  have q : ∀ i j u, i < hs7.log.length → (hs7.log.getD i Acc.zero).cells[j]? = some u → w2.cell? ⟨k, i * 6 + j, none⟩ = some u := fun i j u h1 h2 => by
    rw [← hc i j u h1 h2]
    simp [World.cell?, e]
  exact ⟨q 1 0 _ (by decide) rfl, q 1 1 _ (by decide) rfl, q 1 2 _ (by decide) rfl, q 1 3 _ (by decide) rfl, q 1 4 _ (by decide) rfl, q 1 5 _ (by decide) rfl, q 4 0 _ (by decide) rfl, q 4 1 _ (by decide) rfl, q 4 2 _ (by decide) rfl, q 4 3 _ (by decide) rfl, q 4 4 _ (by decide) rfl, q 4 5 _ (by decide) rfl⟩
theorem log7_calls {W : World} {base g gw gm : Nat} (h : Is W base g gw gm hs7) :
    Calls Try.prog 18 #[.pointer (some ⟨g, 0, none⟩)] W fun e w' => ∃ k c, e = .returned (.slice (some ⟨k, 0, none⟩) 7 c) ∧ Far w' g gw gm k ∧
      (∀ i j u, i < hs7.log.length → (hs7.log.getD i Acc.zero).cells[j]? = some u → w'.cell? ⟨k, i * 6 + j, none⟩ = some u) ∧ Below W.heap.size W w' := log_calls2 h hf7 (by decide)
theorem viol8_calls {W : World} {base g gw gm : Nat} (h : Is W base g gw gm hs8) :
    Calls Try.prog 19 #[.pointer (some ⟨g, 0, none⟩)] W fun e w' => e = .returned (.int .i64 2) ∧ w' = W := violations_calls h hf8

set_option maxHeartbeats 8000000 in
set_option maxRecDepth 100000 in
theorem head_calls (W : World) : Calls Try.prog 9 #[] W fun e w' => e = .returned (.bool true) ∧ Below W.heap.size W w' := by
  go_enter Try.func9, Try.ntmps9
  go_wp2_with (first | (go_at_call 10; (with_reducible refine (new22 W).mono ?_); rintro e w0 ⟨g, gw, gm, rfl, hi, hb⟩; have H0 := Aside0.mk (hi); have B0 := Aside0.mk hb; clear hi hb) | (go_at_call 10; (with_reducible refine (new_nil 257 0 _ no257).mono ?_); rintro e wx ⟨rfl, rfl⟩) | (go_at_call 10; (with_reducible refine (new_nil 0 (-1) _ noNeg).mono ?_); rintro e wx ⟨rfl, rfl⟩) | (go_at_call 21; (with_reducible refine (add_calls H0.out hf0 1 0 5).mono ?_); simp only [he1]; rintro e w1 ⟨rfl, hl⟩; have H1 := Aside0.mk hl.is; have B1 := Aside0.mk (B0.out.trans hl.bl); clear hl) | (go_at_call 22; (with_reducible refine (cas_calls H1.out hf1 2 0 5 9).mono ?_); simp only [he2]; rintro e w2 ⟨rfl, hl⟩; have H2 := Aside0.mk hl.is; have B2 := Aside0.mk (B1.out.trans hl.bl); clear hl) | (go_at_call 22; (with_reducible refine (cas_calls H2.out hf2 2 0 5 7).mono ?_); simp only [he3]; rintro e w3 ⟨rfl, hl⟩; have H3 := Aside0.mk hl.is; have B3 := Aside0.mk (B2.out.trans hl.bl); clear hl) | (go_at_call 20; (with_reducible refine (tryLock_calls H3.out hf3 1 1).mono ?_); simp only [he4]; rintro e w4 ⟨rfl, hl⟩; have H4 := Aside0.mk hl.is; have B4 := Aside0.mk (B3.out.trans hl.bl); clear hl) | (go_at_call 20; (with_reducible refine (tryLock_calls H4.out hf4 2 1).mono ?_); simp only [he5]; rintro e w5 ⟨rfl, hl⟩; have H5 := Aside0.mk hl.is; have B5 := Aside0.mk (B4.out.trans hl.bl); clear hl) | (go_at_call 23; (with_reducible refine (unlock_calls H5.out hf5 2 1).mono ?_); simp only [he6]; rintro e w6 ⟨rfl, hl⟩; have H6 := Aside0.mk hl.is; have B6 := Aside0.mk (B5.out.trans hl.bl); clear hl) | (go_at_call 24; (with_reducible refine (store_calls H6.out hf6 3 1 4).mono ?_); simp only [he7]; rintro e w7 ⟨rfl, hl⟩; have H7 := Aside0.mk hl.is; have B7 := Aside0.mk (B6.out.trans hl.bl); clear hl) | (go_at_call 18; (with_reducible refine (log7_calls H7.out).mono ?_); rintro e w8 ⟨k, c, rfl, hfar, hcell, hb⟩; have H8 := Aside0.mk (H7.out.left hb); have F8 := Aside0.mk hfar; have C8 := Aside0.mk hcell; have B8 := Aside0.mk (B7.out.trans H8.out.bl); clear hfar hcell hb) | (go_at_call 16; (with_reducible refine (holder_calls H8.out.is hf7 1).mono ?_); simp only [he11]; rintro e wx ⟨rfl, rfl⟩) | (go_at_call 16; (with_reducible refine (holder_calls H8.out.is hf7 0).mono ?_); simp only [he12]; rintro e wx ⟨rfl, rfl⟩) | (go_at_call 25; (with_reducible refine (touch_calls H8.out.is hf7 1 1).mono ?_); simp only [he8]; rintro e w9 ⟨rfl, hl⟩; have H9 := Aside0.mk hl; clear hl) | (go_at_call 25; (with_reducible refine (touch_calls H9.out.is hf7 1 0).mono ?_); simp only [he9]; rintro e w10 ⟨rfl, hl⟩; have H10 := Aside0.mk hl; clear hl) | (go_at_call 19; (with_reducible refine (viol8_calls H10.out.is).mono ?_); rintro e wx ⟨rfl, rfl⟩) | (go_at_call 26; (with_reducible refine (load_calls H10.out.is hf8 0 0).mono ?_); simp only [he10]; rintro e w11 ⟨rfl, hl⟩; have H11 := Aside0.mk hl; obtain ⟨c0, c1, c2, c3, c4, c5, c6, c7, c8, c9, c10, c11⟩ := head_cells (H9.out.mf.trans (H10.out.mf.trans hl.mf)) F8.out C8.out; clear hl) | (go_at_call 15; (with_reducible refine (word_calls H11.out.is hf9 1).mono ?_); simp only [he13]; rintro e wx ⟨rfl, rfl⟩))
  go_ret
  exact ⟨rfl, B8.out.trans (H9.out.bl.trans (H10.out.bl.trans H11.out.bl))⟩
end Go.Proofs.Ytfkoehokjpcogaa.Hand
