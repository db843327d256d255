/- ropeladderlaw24: Sizes, Picks, head; ropeladderref24.Same at equal pairs; no condition but what each states. -/
import Derived.Test.YtjheocofbfmopaaWkQ
import Derived.Test.YtjheocofbfmopaaWEqStruct
import Derived.BigQuiet
import Derived.ChangeKeysEq
import Derived.Deep.QuietTactic
namespace Go.Proofs.Ytjheocofbfmopaa.Hand
open Go.RowKit Go.Proofs.YtjheocofbfmopaaW.PrintWords Go.Proofs.YtjheocofbfmopaaW.PrintLast Go.Proofs.YtjheocofbfmopaaW.PrintMore
set_option linter.unusedVariables false
set_option linter.unusedSimpArgs false

/-- The argument: n bytes. -/
structure IsBytes (W : World) (A : Option Addr) (n : Nat) (l : List Int) : Prop where
  len : l.length = n
  max : n ≤ 140737488351232
  cell : ∀ k (h : k < l.length), ∃ ad, A = some ad ∧ ad.block < W.heap.size ∧ W.cell? (ad.add k) = some (.int .u8 l[k])
  rng : ∀ k (h : k < l.length), 0 ≤ l[k] ∧ l[k] ≤ 255
def Row8 (w : World) (a : Option Addr) (len cap : Nat) (zs : List Int) : Prop :=
  (a = none ∧ len = 0 ∧ cap = 0 ∧ zs = []) ∨
  ∃ x, a = some x ∧ len ≤ cap ∧ cap ≤ maxLen ∧ zs.length = cap ∧ (∀ i, i < zs.length → w.cell? (x.add i) = some (.int .u8 (zs.getD i 0))) ∧ ∀ n ∈ zs, (Lit.int .u8 n).wf = true
theorem u8_rng {n : Int} (h : (Lit.int .u8 n).wf = true) : 0 ≤ n ∧ n ≤ 255 := by
  simp [Lit.wf, IntKind.min, IntKind.max, IntKind.signed, IntKind.bits] at h
  constructor <;> omega
theorem bytes_of {W : World} {A : Option Addr} {len cap : Nat} {zs : List Int} (h : Row8 W A len cap zs) (hy : len * 1 ≤ 140737488351232) : IsBytes W A len (zs.take len) := by
  rcases h with ⟨rfl, rfl, rfl, rfl⟩ | ⟨x, rfl, h1, h2, h3, h4, h5⟩
  · exact ⟨rfl, by omega, fun k hk => absurd hk (by simp), fun k hk => absurd hk (by simp)⟩
  · have hl : (zs.take len).length = len := by rw [List.length_take]; omega
    refine ⟨hl, by omega, fun k hk => ?_, fun k hk => ?_⟩
    · have hc := h4 k (by omega)
      rw [show zs.getD k 0 = (zs.take len)[k] by simp [List.getD_eq_getElem?_getD, List.getElem?_eq_getElem (show k < zs.length by omega)]] at hc
      refine ⟨x, rfl, ?_, hc⟩
      have := World.block_lt_of_cell? W _ hc
      rwa [add_block] at this
    · have : (zs.take len)[k] ∈ zs := List.mem_of_mem_take (List.getElem_mem hk)
      exact u8_rng (h5 _ this)
section
attribute [local go_sem] max2_int min2_int max_two min_two max_three min_three max_four min_four
theorem sizes_calls (t c : Int) (W : World) (h0 : 0 ≤ t) (h1 : t ≤ 255) (h2 : 0 ≤ c) (h3 : c ≤ 255) :
    Calls Try.prog 8 #[.int .u8 t, .int .u8 c] W fun e w' => e = .returned (.tuple #[.int .i64 (t % 10), .int .i64 (c % 6 + 1)]) ∧ w' = W := by
  go_enter Try.func8, Try.ntmps8
  go_wp2
  go_ret2
  exact ⟨rfl, rfl⟩
set_option maxHeartbeats 4000000 in
set_option maxRecDepth 100000 in
theorem picks_calls (A : Option Addr) (c : Nat) (l : List Int) (n : Nat) (W : World) (h : IsBytes W A l.length l) (hn : 1 ≤ n) (hn1 : n ≤ 1000000) (hmax : l.length ≤ 1000000) :
    Calls Try.prog 10 #[.slice A l.length c, .int .i64 n] W fun e w' => ∃ v : Value, e = .returned v ∧ Kd.R (Kd.int .i64) 3 w' W.heap.size (fun _ => True) v (l.map (· % (n : Int))) ∧ Below W.heap.size W w' := by
  have HR := Aside0.mk h
  have hm : (if 1 < (n : Int) then (n : Int) else 1) = (n : Int) := by split <;> omega
  have hn0 : (1 : Int) ≤ n := by omega
  have hn2 : (n : Int) ≤ 1000000 := by omega
  clear h
  go_enter Try.func10, Try.ntmps10
  go_wp2
  go_loopw [5, 6] (fun v5 v6 w' => ∃ k : Nat, k ≤ l.length ∧ v6 = .int .i64 k ∧ Aside0 (Kd.R (Kd.int .i64) 3 w' W.heap.size (fun _ => True) v5 ((l.take k).map (· % (n : Int)))) ∧ Aside0 (Below W.heap.size W w')) (fun _ i _ => l.length - (intOf i).toNat)
  case atStart => exact ⟨0, Nat.zero_le _, rfl, ⟨by simpa using Kd.R_nil _ _ _ _ _⟩, ⟨Below.refl _ _⟩⟩
  case round =>
    obtain ⟨k, hk, rfl, HO, HB⟩ := hrel
    by_cases hlt : k < l.length
    · obtain ⟨ad, e2, hb, hc⟩ := HR.out.cell k hlt
      cases e2
      obtain ⟨x0, x1⟩ := HR.out.rng k hlt
      have HT := Aside0.mk (List.take_succ_eq_append_getElem hlt)
      have hll : (l.take k).length = k := by rw [List.length_take]; omega
      have HLL := Aside0.mk hll
      obtain ⟨x, hx⟩ : ∃ x, l[k] = x := ⟨_, rfl⟩
      rw [hx] at hc x0 x1 HT
      have hc2 : wr.cell? (ad.add k) = some (.int .u8 x) := (HB.out.cell (p := ad.add k) (by rw [add_block]; exact hb)).trans hc
      have hcn : ((n : Int) == 0) = false := beq_eq_false_iff_ne.2 (by omega)
      have HLM := Aside0.mk hmax
      clear hx hc hb hll
      go_wp2_with (first | ((with_reducible refine gate_builtin (b := .append) (xs := #[.tmp 13, .tmp 22]) rfl ?_); at_builtin; refine Kd.R_append (Kd.int .i64) (w0 := W) W.heap.size rfl (.tmp 13) (.tmp 22) 29 3 (.int .i64 0) 8 rfl Try.underlying29 info3 rfl (by decide) (by omega) u5 ((l.take k).map (· % (n : Int))) (x % n) [.int .i64 (x % n)] (fun _ => True) (fun _ => False) rfl rfl ?aP (fun _ hk => hk.elim) ?aF HO.out ?aB ?aS ?aL ?_; (case aP => exact rfl); (case aF => exact (fun _ _ => trivial)); (case aB => exact HB.out); (case aS => exact HB.out.size); (case aL => (have := HLM.out; have := HLL.out; rw [List.length_map]; omega)); intro v1 w1 ho hb hg hat; have HO1 := Aside0.mk ho; have HB1 := Aside0.mk hb; clear ho hb hg hat))
      go_roundw
      case rel => exact ⟨k + 1, by omega, by go_num, ⟨by rw [HT.out, List.map_append]; exact HO1.out⟩, HB1⟩
      case measure => simp [intOf]; omega
    · obtain rfl : k = l.length := by omega
      have HO2 := Aside0.mk (show Kd.R (Kd.int .i64) 3 wr W.heap.size (fun _ => True) u5 (l.map (· % (n : Int))) by have := HO.out; rwa [List.take_length] at this)
      clear HO
      go_wp2_with (fail)
      go_ret
      exact ⟨_, rfl, HO2.out, HB.out⟩
end
theorem cells3 : Try.prog.cellsOf 3 = 1 := by kernel_rfl
theorem eqPair (d : Nat) (w : World) (a b : Int) : (Op.equalIn (d + 2) 32 (.agg #[.int .i64 a, .int .i64 b]) (.agg #[.int .i64 a, .int .i64 b])).run Try.prog w = .ok true w := by
  have hi : ∀ z : Int, (Op.equalIn (d + 1) 3 (.int .i64 z) (.int .i64 z)).run Try.prog w = .ok true w := fun z => by
    simp [Op.equalIn, run_underlying Try.underlying3]
  obtain ⟨i0, h0, _⟩ := Option.map_eq_some_iff.1 info3
  rw [run_equalIn_array w (d + 1) _ _ Try.underlying32 h0, cells3]
  have hp0 : (part 3 #[Value.int IntKind.i64 a, Value.int IntKind.i64 b] 0).run Try.prog w = .ok (.int .i64 a) w := by go_simp
  have hp1 : (part 3 #[Value.int IntKind.i64 a, Value.int IntKind.i64 b] 1).run Try.prog w = .ok (.int .i64 b) w := by go_simp
  simp [List.range_succ, Op.eqItems, hp0, hp1, hi]
theorem add_flat (x : Addr) {j : Nat} (hj : j ≠ 0) : x.add j = ⟨x.block, x.off + j, none⟩ := by simp [Addr.add, hj]
theorem rowP_cells {w : World} {A : Option Addr} {l : List (Int × Int)} (h : Kd.C kP w A l.length l) (k : Nat) (hk : k < l.length) {x : Int × Int} (e : l[k] = x) : ∃ ad, A = some ad ∧ w.cell? (ad.add (k * 2)) = some (.int .i64 x.1) ∧ w.cell? ⟨(ad.add (k * 2)).block, (ad.add (k * 2)).off + 1, none⟩ = some (.int .i64 x.2) := by
  obtain ⟨ad, c, e1, _, hK, hc0⟩ := Kd.C_get h (0, 0) (k : Int) (by omega) (by omega)
  have e4 : l.getD (k : Int).toNat (0, 0) = x := by rw [Int.toNat_natCast]; simp [List.getD_eq_getElem?_getD, List.getElem?_eq_getElem hk, e]
  rw [e4] at hK
  obtain rfl := kP_open hK
  rw [Int.toNat_natCast] at hc0
  refine ⟨ad, e1, hc0 0 _ rfl, ?_⟩
  rw [← add_field _ _ 1 (by omega)]
  exact hc0 1 _ rfl
section
attribute [local go_sem high] eqPair
attribute [local go_sem] max2_int min2_int max_two min_two max_three min_three max_four min_four
set_option maxHeartbeats 4000000 in
set_option maxRecDepth 100000 in
theorem same_calls (A0 A1 : Option Addr) (c0 c1 : Nat) (l : List (Int × Int)) (W : World) (hl : l.length ≤ 1000000) (h0 : Kd.C kP W A0 l.length l) (h1 : Kd.C kP W A1 l.length l) :
    Calls Try.prog 12 #[.slice A0 l.length c0, .slice A1 l.length c1] W fun e w' => e = .returned (.bool true) ∧ ∃ n, w' = W.drewN n := by
  have H0 := Aside0.mk h0
  have H1 := Aside0.mk h1
  clear h0 h1
  go_enter Try.func12, Try.ntmps12
  go_wp2
  go_loopw [5] (fun i w' => ∃ k : Nat, k ≤ l.length ∧ i = .int .i64 k ∧ ∃ n, w' = W.drewN n) (fun i _ => l.length - (intOf i).toNat)
  case atStart => exact ⟨0, Nat.zero_le _, rfl, 0, rfl⟩
  case round =>
    obtain ⟨k, hk, rfl, n, rfl⟩ := hrel
    by_cases hlt : k < l.length
    · obtain ⟨x, hx⟩ : ∃ x, l[k] = x := ⟨_, rfl⟩
      obtain ⟨ad0, e0, a0, a1⟩ := rowP_cells H0.out k hlt hx
      obtain ⟨ad1, e1, b0, b1⟩ := rowP_cells H1.out k hlt hx
      cases e0
      cases e1
      obtain ⟨t, u⟩ := x
      simp only at a0 a1 b0 b1
      clear hx
      go_wp2_with (fail)
      go_quiet (fail)
      go_wp2_with (fail)
      go_roundw
      case rel => exact ⟨k + 1, by omega, by go_num, _, rfl⟩
      case measure => simp [intOf]; omega
    · obtain rfl : k = l.length := by omega
      go_wp2_with (fail)
      go_ret
      exact ⟨rfl, _, rfl⟩
end
/-- What a block of literal cells reads as. -/
theorem lit_ints (w : World) (l : List Int) (hl : l.length ≤ 1000) : Kd.C (Kd.int .i64) (w.alloc (.cells (l.map (Value.int .i64)).toArray 3)) (some ⟨w.heap.size, 0, none⟩) l.length l := by
  refine ⟨rfl, by omega, fun _ => ⟨_, rfl, fun j p hj => ⟨[.int .i64 p], rfl, rfl, fun i u hu => ?_⟩⟩⟩
  obtain rfl : i = 0 := by
    cases i with
    | zero => rfl
    | succ i => simp at hu
  simp at hu
  subst hu
  have hlt : j < l.length := (List.getElem?_eq_some_iff.1 hj).1
  have e : (w.alloc (.cells (l.map (Value.int .i64)).toArray 3)).heap[w.heap.size]? = some (.cells (l.map (Value.int .i64)).toArray 3 (0, 0)) := push_get rfl
  have e2 : (⟨w.heap.size, 0, none⟩ : Addr).add (j * (Kd.int .i64).sz + 0) = ⟨w.heap.size, j, none⟩ := by
    show (⟨w.heap.size, 0, none⟩ : Addr).add (j * 1 + 0) = _
    by_cases h0 : j = 0
    · subst h0; rfl
    · rw [show j * 1 + 0 = j by omega, add_flat _ h0]
      simp
  rw [e2]
  simp only [World.cell?, e]
  simp [hj]
end Go.Proofs.Ytjheocofbfmopaa.Hand
