/- A part of the proof. -/
import Derived.Test.YtdmdecgoebnamaaGreatGx
import Derived.Test.YtdmdecgoebnamaaGreatProg
import Derived.Test.YtdmdecgoebnamaaGreatOk
set_option linter.unusedVariables false
set_option linter.unusedSimpArgs false
namespace Go.Proofs.YtdmdecgoebnamaaGreat
open Go.RowKit Go.Show
attribute [local irreducible] Go.wpOps Go.Code.wp Go.wpOp Go.wpAnyH Go.Calls
set_option maxHeartbeats 400000 in
set_option maxRecDepth 10000 in
theorem args_c (k : Int) (w : World) (K : Ending → World → Prop)  (hK : K (.returned (.int .i64 (arity k))) w) :
    Calls Tryz.prog 97 #[.int .i64 k] w K := by
  refine Gx.enter 14 Tryz.func97 rfl rfl (Nat.le_of_ble_eq_true rfl) ?_
  refine Z.s [(2, .int .i64 0)] ?_
  refine wp_seq (Z.s [(3, .int .i64 k)] ?_)
  refine wp_block (wp_seq (Z.s [(4, .bool (k == (0 : Int))), (5, .bool (k == (0 : Int)))] ?_))
  refine Z.c (k == (0 : Int)) (fun h_c4 => ?_) (fun h_c4 => ?_)
  · skip
    refine wp_skip (Z.x (Z.c (k == (0 : Int)) (fun hk_ => ?_) (fun hk_ => absurd (h_c4.symm.trans hk_) (by decide))))
    refine Z.s [(2, .int .i64 0)] ?_
    refine wp_ret (Gx.block_ret (Gx.then_ret (Z.v (.int .i64 0) ?_)))
    have p_c4 := h_c4; try simp [-List.getD_eq_getElem?_getD] at p_c4
    exact Gx.ret_as (v' := .int .i64 (arity k)) (by congr 1; simp [arity, *]) (hK)
  refine Z.s [(4, .bool (k == (1 : Int))), (6, .bool (k == (1 : Int)))] ?_
  refine Z.c (k == (1 : Int)) (fun h_c4_1 => ?_) (fun h_c4_1 => ?_)
  · skip
    refine wp_skip (Z.x (Z.c (k == (1 : Int)) (fun hk_ => ?_) (fun hk_ => absurd (h_c4_1.symm.trans hk_) (by decide))))
    refine Z.s [(2, .int .i64 0)] ?_
    refine wp_ret (Gx.block_ret (Gx.then_ret (Z.v (.int .i64 0) ?_)))
    have p_c4 := h_c4; try simp [-List.getD_eq_getElem?_getD] at p_c4
    have p_c4_1 := h_c4_1; try simp [-List.getD_eq_getElem?_getD] at p_c4_1
    exact Gx.ret_as (v' := .int .i64 (arity k)) (by congr 1; simp [arity, *]) (hK)
  refine Z.s [(4, .bool (k == (2 : Int))), (7, .bool (k == (2 : Int)))] ?_
  refine Z.c (k == (2 : Int)) (fun h_c4_2 => ?_) (fun h_c4_2 => ?_)
  · skip
    refine wp_skip (Z.x (Z.c (k == (2 : Int)) (fun hk_ => ?_) (fun hk_ => absurd (h_c4_2.symm.trans hk_) (by decide))))
    refine Z.s [(2, .int .i64 0)] ?_
    refine wp_ret (Gx.block_ret (Gx.then_ret (Z.v (.int .i64 0) ?_)))
    have p_c4 := h_c4; try simp [-List.getD_eq_getElem?_getD] at p_c4
    have p_c4_1 := h_c4_1; try simp [-List.getD_eq_getElem?_getD] at p_c4_1
    have p_c4_2 := h_c4_2; try simp [-List.getD_eq_getElem?_getD] at p_c4_2
    exact Gx.ret_as (v' := .int .i64 (arity k)) (by congr 1; simp [arity, *]) (hK)
  refine Z.u [(4, .bool (k == (3 : Int))), (8, .bool (k == (3 : Int)))] ?_
  refine Z.x (Z.c (k == (3 : Int)) (fun h_c4_3 => ?_) (fun h_c4_3 => ?_))
  · skip
    refine Z.s [(2, .int .i64 0)] ?_
    refine wp_ret (Gx.block_ret (Gx.then_ret (Z.v (.int .i64 0) ?_)))
    have p_c4 := h_c4; try simp [-List.getD_eq_getElem?_getD] at p_c4
    have p_c4_1 := h_c4_1; try simp [-List.getD_eq_getElem?_getD] at p_c4_1
    have p_c4_2 := h_c4_2; try simp [-List.getD_eq_getElem?_getD] at p_c4_2
    have p_c4_3 := h_c4_3; try simp [-List.getD_eq_getElem?_getD] at p_c4_3
    exact Gx.ret_as (v' := .int .i64 (arity k)) (by congr 1; simp [arity, *]) (hK)
  refine Z.s [(9, .bool (k == (4 : Int))), (10, .bool (k == (4 : Int)))] ?_
  refine Z.c (k == (4 : Int)) (fun h_c9 => ?_) (fun h_c9 => ?_)
  · skip
    refine Z.s [(2, .int .i64 1)] ?_
    refine wp_ret (Gx.block_ret (Gx.then_ret (Z.v (.int .i64 1) ?_)))
    have p_c4 := h_c4; try simp [-List.getD_eq_getElem?_getD] at p_c4
    have p_c4_1 := h_c4_1; try simp [-List.getD_eq_getElem?_getD] at p_c4_1
    have p_c4_2 := h_c4_2; try simp [-List.getD_eq_getElem?_getD] at p_c4_2
    have p_c4_3 := h_c4_3; try simp [-List.getD_eq_getElem?_getD] at p_c4_3
    have p_c9 := h_c9; try simp [-List.getD_eq_getElem?_getD] at p_c9
    exact Gx.ret_as (v' := .int .i64 (arity k)) (by congr 1; simp [arity, *]) (hK)
  refine wp_seq (Z.s [(11, .bool (k == (5 : Int))), (12, .bool (k == (5 : Int)))] ?_)
  refine Z.c (k == (5 : Int)) (fun h_c11 => ?_) (fun h_c11 => ?_)
  · skip
    refine wp_skip (Z.x (Z.c (k == (5 : Int)) (fun hk_ => ?_) (fun hk_ => absurd (h_c11.symm.trans hk_) (by decide))))
    refine Z.s [(2, .int .i64 2)] ?_
    refine wp_ret (Gx.block_ret (Gx.then_ret (Z.v (.int .i64 2) ?_)))
    have p_c4 := h_c4; try simp [-List.getD_eq_getElem?_getD] at p_c4
    have p_c4_1 := h_c4_1; try simp [-List.getD_eq_getElem?_getD] at p_c4_1
    have p_c4_2 := h_c4_2; try simp [-List.getD_eq_getElem?_getD] at p_c4_2
    have p_c4_3 := h_c4_3; try simp [-List.getD_eq_getElem?_getD] at p_c4_3
    have p_c9 := h_c9; try simp [-List.getD_eq_getElem?_getD] at p_c9
    have p_c11 := h_c11; try simp [-List.getD_eq_getElem?_getD] at p_c11
    exact Gx.ret_as (v' := .int .i64 (arity k)) (by congr 1; simp [arity, *]) (hK)
  refine Z.u [(11, .bool (k == (6 : Int))), (13, .bool (k == (6 : Int)))] ?_
  refine Z.x (Z.c (k == (6 : Int)) (fun h_c11_1 => ?_) (fun h_c11_1 => ?_))
  · skip
    refine Z.s [(2, .int .i64 2)] ?_
    refine wp_ret (Gx.block_ret (Gx.then_ret (Z.v (.int .i64 2) ?_)))
    have p_c4 := h_c4; try simp [-List.getD_eq_getElem?_getD] at p_c4
    have p_c4_1 := h_c4_1; try simp [-List.getD_eq_getElem?_getD] at p_c4_1
    have p_c4_2 := h_c4_2; try simp [-List.getD_eq_getElem?_getD] at p_c4_2
    have p_c4_3 := h_c4_3; try simp [-List.getD_eq_getElem?_getD] at p_c4_3
    have p_c9 := h_c9; try simp [-List.getD_eq_getElem?_getD] at p_c9
    have p_c11 := h_c11; try simp [-List.getD_eq_getElem?_getD] at p_c11
    have p_c11_1 := h_c11_1; try simp [-List.getD_eq_getElem?_getD] at p_c11_1
    exact Gx.ret_as (v' := .int .i64 (arity k)) (by congr 1; simp [arity, *]) (hK)
  refine wp_skip (Gx.block_normal (Z.x (Z.s [(2, .int .i64 (-1))] ?_)))
  refine wp_ret (Z.v (.int .i64 (-1)) ?_)
  have p_c4 := h_c4; try simp [-List.getD_eq_getElem?_getD] at p_c4
  have p_c4_1 := h_c4_1; try simp [-List.getD_eq_getElem?_getD] at p_c4_1
  have p_c4_2 := h_c4_2; try simp [-List.getD_eq_getElem?_getD] at p_c4_2
  have p_c4_3 := h_c4_3; try simp [-List.getD_eq_getElem?_getD] at p_c4_3
  have p_c9 := h_c9; try simp [-List.getD_eq_getElem?_getD] at p_c9
  have p_c11 := h_c11; try simp [-List.getD_eq_getElem?_getD] at p_c11
  have p_c11_1 := h_c11_1; try simp [-List.getD_eq_getElem?_getD] at p_c11_1
  exact Gx.ret_as (v' := .int .i64 (arity k)) (by congr 1; simp [arity, *]) (hK)
set_option maxHeartbeats 400000 in
set_option maxRecDepth 10000 in
theorem digits_c (N : Nat) (w : World) (K : Ending → World → Prop) (hN : N ≤ 9223372036854775807) (hK : ∀ w', Gx.Ext w w' → K (.returned (.string (digB N))) w') :
    Calls Tryz.prog 98 #[Z.n N] w K := by
  refine Gx.enter 17 Tryz.func98 rfl rfl (Nat.le_of_ble_eq_true rfl) ?_
  refine Z.s [(2, .string Z.E)] ?_
  refine Z.s [(3, .string Z.E)] ?_
  refine wp_block (Gx.loop (n' := 17) (d' := []) (fun mz l' w' => ∃ (m : Nat) (s : ByteArray), l' = [(0, Z.n m), (3, .string s)] ∧ mz = 0 + m ∧ Gx.Ext w w' ∧ (digB N = digB m ++ s) ∧ (s.size + m ≤ N) ∧ (m = 0 → s.size = 0)) _ _ [(0, Z.n N), (3, .string e0)] (Gx.forget [(0, Z.n N), (3, .string e0)] (by kernel_rfl)) ⟨N, e0, rfl, rfl, (Gx.Ext.refl w), (app_e0 _).symm, (by show 0 + N ≤ N; omega), (fun _ => rfl)⟩ (fun bb1 m1 ll1 w1 hI1 K1 hK1 => ?_))
  obtain ⟨m, s, rfl, rfl, x1, hd, hs, hs0⟩ := hI1
  have zw1 := x1.size
  refine wp_block (Z.r [0, 1, 2, 3, 4, 5, 6, 7, 8] ?_)
  refine Z.p [0] [1, 2, 3, 4, 5, 6, 7, 8] [(4, Z.n m)] ?_
  refine Gx.pure_eq [1] [2, 3, 4, 5, 6, 7, 8] [(5, .int .i64 (Int.tmod ((m : Nat) : Int) (10 : Int)))] [(5, .int .i64 ((m % 10 : Nat) : Int))] rfl (by kernel_rfl) (Gx.eqI (by rw [IntWalk.rem_in _ _ (by omega)]; omega)) ?_
  refine Gx.pure_eq [2] [3, 4, 5, 6, 7, 8] [(6, .int .i64 (IntKind.i64.wrap ((48 : Int) + ((m % 10 : Nat) : Int))))] [(6, .int .i64 ((48 + m % 10 : Nat) : Int))] rfl (by kernel_rfl) (Gx.eqI (Gx.i64n (by omega) (by omega))) ?_
  refine Gx.pure_eq [3] [4, 5, 6, 7, 8] [(7, .int .u8 (IntKind.u8.wrap ((48 + m % 10 : Nat) : Int)))] [(7, .int .u8 ((48 + m % 10 : Nat) : Int))] rfl (by kernel_rfl) (Gx.eqI (IntWalk.u8_in _ (by omega))) ?_
  refine Z.R (.cells #[.int .u8 ((48 + m % 10 : Nat) : Int)] 5) 1 1 (fun k1 w2 l1 x2 b1 zw2 tb1 => ?_)
  refine Gx.cons (Gx.op_bstr rfl (by kernel_rfl) rfl 5 (by kernel_rfl) (by kernel_rfl) (by kernel_rfl) 0 1 1 (by kernel_rfl) b1 [UInt8.ofNat (48 + m % 10)] rfl (Gx.bstr1 (by omega)) ?_)
  refine Z.p [6] [7, 8] [(10, .string s)] ?_
  refine Z.C (⟨#[UInt8.ofNat (48 + m % 10)]⟩ : ByteArray) s ?_ (by show 1 + s.size ≤ _; omega)
  refine Z.p [8] [] [(3, .string ((⟨#[UInt8.ofNat (48 + m % 10)]⟩ : ByteArray) ++ s))] ?_
  refine Z.e (Z.r [0, 1, 2] ?_)
  refine Z.p [0] [1, 2] [(12, Z.n m)] ?_
  refine Gx.pure_eq [1] [2] [(13, .int .i64 (IntKind.i64.wrap (Int.tdiv ((m : Nat) : Int) (10 : Int))))] [(13, .int .i64 ((m / 10 : Nat) : Int))] rfl (by kernel_rfl) (Gx.eqI (IntWalk.i64_quo _ _ (by omega))) ?_
  refine Z.p [2] [] [(0, .int .i64 ((m / 10 : Nat) : Int))] ?_
  refine Z.e (Z.s [(15, .bool (((m / 10 : Nat) : Int) == (0 : Int))), (14, .int .i64 ((m / 10 : Nat) : Int))] ?_)
  refine Z.c (((m / 10 : Nat) : Int) == (0 : Int)) (fun h_c15 => ?_) (fun h_c15 => ?_)
  · skip
    refine Z.s [(2, .string ((⟨#[UInt8.ofNat (48 + m % 10)]⟩ : ByteArray) ++ s)), (16, .string ((⟨#[UInt8.ofNat (48 + m % 10)]⟩ : ByteArray) ++ s))] ?_
    refine wp_ret (Gx.block_ret (Gx.then_ret (Gx.block_ret (Z.v (.string ((⟨#[UInt8.ofNat (48 + m % 10)]⟩ : ByteArray) ++ s)) ?_))))
    have p_c15 := h_c15; try simp [-List.getD_eq_getElem?_getD] at p_c15
    exact Gx.ret_as (v' := .string (digB N)) (by rw [hd, dig_small (m := m) (by have hm := p_c15; omega), show m % 10 = m by have hm := p_c15; omega]) (hK _ (((Gx.Ext.refl w).trans x1).trans x2))
  refine wp_skip (Gx.block_normal (Z.x ?_))
  have p_c15 := h_c15; try simp [-List.getD_eq_getElem?_getD] at p_c15
  rw [Gx.forget [(0, .int .i64 (((m / 10) : Nat) : Int)), (3, .string ((⟨#[UInt8.ofNat (48 + m % 10)]⟩ : ByteArray) ++ s))] (by kernel_rfl)]
  exact hK1 _ _ _ _ (by have hm := p_c15; omega) ⟨(m / 10), ((⟨#[UInt8.ofNat (48 + m % 10)]⟩ : ByteArray) ++ s), rfl, rfl, (((Gx.Ext.refl w).trans x1).trans x2), (by have hm := p_c15; rw [hd, dig_step (by omega), app_assoc]), (by have hm := p_c15; rw [ByteArray.size_append]; show 1 + s.size + m / 10 ≤ N; omega), (fun h => by have hm := p_c15; omega)⟩
theorem digits_i (n : Int) (w : World) (K : Ending → World → Prop) (h0 : 0 ≤ n) (h1 : n ≤ 9223372036854775807) (hK : ∀ w', Gx.Ext w w' → K (.returned (.string (digB n.toNat))) w') : Calls Tryz.prog 98 #[.int .i64 n] w K := by
  obtain ⟨m, rfl⟩ := Int.eq_ofNat_of_zero_le h0
  exact digits_c m w K (by omega) hK
set_option maxHeartbeats 400000 in
set_option maxRecDepth 10000 in
theorem rShow_0 (w0 : World) (n row : Int) (ops : List ByteArray) (args : List TyP) (A1 A2 : Option Addr) (c1 c2 : Nat) (cs : Nat → List Value) (w : World) (K : Ending → World → Prop) (hE : Gx.Ext w0 w) (hlen : args.length = 0) (hn : I64 n) (hr : I64 row) (hl : ops.length ≤ 1048576) (hz : ∀ i, (ops.getD i e0).size ≤ 1048576) (ho : Gx.Rd w0 A1 ops.length 1 (fun i => [.string (ops.getD i e0)])) (ha : Gx.Rd w0 A2 0 5 cs) (hsz : (showP (.mk 0 n row ops args)).size ≤ 1099511627776) (hK : ∀ w', Gx.Ext w w' → K (.returned (.string (showP (.mk 0 n row ops args)))) w') :
    Calls Tryz.prog 63 #[.agg #[.int .i64 0, .int .i64 n, .int .i64 row, .slice A1 ops.length c1, .slice A2 0 c2]] w K := by
  refine Gx.enter 116 Tryz.func63 rfl rfl (Nat.le_of_ble_eq_true rfl) ?_
  refine Z.r [0, 1] ?_
  refine Z.N (.cells #[.int .i64 0, .int .i64 n, .int .i64 row, .slice A1 ops.length c1, .slice A2 0 c2] 96) (fun k1 w1 l1 x1 b1 zw1 tb1 => ?_)
  refine Z.p [1] [] [(2, .string Z.E)] ?_
  refine Z.e (wp_seq (wp_seq (Z.D (fun w' => Gx.Has w' k1 (.cells #[.int .i64 0, .int .i64 n, .int .i64 row, .slice A1 ops.length c1, .slice A2 0 c2] 96)) (fun w2 x2 zw2 => ?_))))
  refine Z.h (b1.ext x2) (fun hS1 => ?_)
  refine Z.t 0 (Z.P k1 4) hS1 ?_
  refine Z.tl 1 4 (.slice A2 0 c2) (fun _ hs => hs) hS1 ?_
  refine Z.t 2 (.int .i64 0) hS1 ?_
  refine Z.t 3 (Z.P k1 0) hS1 ?_
  refine Z.tl 4 0 (.int .i64 0) (fun _ hs => hs) hS1 ?_
  refine Z.o 5 (fun R hR => args_c (0 : Int) _ R  (hR _ _ ⟨(b1.ext x2), fun hS2 => ?_⟩))
  refine Z.t 6 (.bool false) hS2 ?_
  refine Z.q ?_
  refine Z.x (Z.cf ?_)
  refine wp_skip (Z.x (wp_seq (Z.r [0, 1] ?_)))
  refine Z.p [0] [1] [(13, Z.P k1 0)] ?_
  refine Z.L 0 (.int .i64 0) (b1.ext x2) ?_
  refine Z.e (wp_block (Z.st [(15, .bool true), (16, .bool true)] ?_))
  refine wp_seq (Gx.cut (d' := []) (n' := 116) (fun l' w' => l' = [(1, Z.P k1 0), (24, .bool ((decide (n ≥ (1 : Int))) && (decide (n ≤ (26 : Int)))))] ∧ w2 = w') (fun K1 hK1 => ?_) (fun bb1 ll1 w3 hI1 => ?_))
  · refine Z.g [0, 1, 2, 3, 4, 5, 6, 7] ?_
    refine Z.p [0] [1, 2, 3, 4, 5, 6, 7] [(17, Z.P k1 1)] ?_
    refine Z.L 1 (.int .i64 n) (b1.ext x2) ?_
    refine Z.p [2, 3] [4, 5, 6, 7] [(20, .bool (decide (n ≥ (1 : Int)))), (19, .bool (decide (n ≥ (1 : Int))))] ?_
    refine Gx.split (decide (n ≥ (1 : Int))) (fun h_g20 => ?_) (fun h_g20 => ?_)
    · rw [h_g20]
      refine Z.p [4] [5, 6, 7] [(21, Z.P k1 1)] ?_
      refine Z.L 1 (.int .i64 n) (b1.ext x2) ?_
      refine Z.p [6, 7] [] [(24, .bool (decide (n ≤ (26 : Int)))), (23, .bool (decide (n ≤ (26 : Int))))] ?_
      refine Z.e ?_
      rw [Gx.forget [(1, Z.P k1 0), (24, .bool ((decide (n ≥ (1 : Int))) && (decide (n ≤ (26 : Int)))))] (by rw [h_g20]; try kernel_rfl)]
      exact hK1 _ _ _ ⟨rfl, rfl⟩
    rw [h_g20]
    refine Z.p [4, 5, 6, 7] [] [(24, .bool false), (23, undef), (22, undef), (21, undef)] ?_
    refine Z.e ?_
    rw [Gx.forget [(1, Z.P k1 0), (24, .bool ((decide (n ≥ (1 : Int))) && (decide (n ≤ (26 : Int)))))] (by rw [h_g20]; try kernel_rfl)]
    exact hK1 _ _ _ ⟨rfl, rfl⟩
  obtain ⟨rfl, rfl⟩ := hI1
  refine Z.c ((decide (n ≥ (1 : Int))) && (decide (n ≤ (26 : Int)))) (fun h_c24 => ?_) (fun h_c24 => ?_)
  · skip
    refine Z.r [0, 1, 2, 3, 4, 5, 6, 7] ?_
    refine Z.p [0] [1, 2, 3, 4, 5, 6, 7] [(25, Z.P k1 1)] ?_
    refine Z.L 1 (.int .i64 n) (b1.ext x2) ?_
    have p_c24 := h_c24; try simp [-List.getD_eq_getElem?_getD] at p_c24
    refine Gx.pure_eq [2] [3, 4, 5, 6, 7] [(27, .int .i64 (IntKind.i64.wrap ((97 : Int) + n)))] [(27, .int .i64 (97 + n))] rfl (by kernel_rfl) (Gx.eqI (IntWalk.i64_in _ (by omega))) ?_
    refine Gx.pure_eq [3] [4, 5, 6, 7] [(28, .int .i64 (IntKind.i64.wrap ((97 + n) - (1 : Int))))] [(28, .int .i64 (96 + n))] rfl (by kernel_rfl) (Gx.eqI (by rw [IntWalk.i64_in _ (by omega)]; omega)) ?_
    refine Gx.pure_eq [4] [5, 6, 7] [(29, .int .u8 (IntKind.u8.wrap (96 + n)))] [(29, .int .u8 (((96 + n).toNat : Nat) : Int))] rfl (by kernel_rfl) (Gx.eqI (by rw [IntKind.wrap_u8]; omega)) ?_
    refine Z.R (.cells #[.int .u8 (((96 + n).toNat : Nat) : Int)] 5) 1 1 (fun k2 w4 l2 x3 b2 zw4 tb2 => ?_)
    refine Gx.cons (Gx.op_bstr rfl (by kernel_rfl) rfl 5 (by kernel_rfl) (by kernel_rfl) (by kernel_rfl) 0 1 1 (by kernel_rfl) b2 [UInt8.ofNat ((96 + n).toNat)] rfl (Gx.bstr1 (by omega)) ?_)
    refine Z.p [7] [] [(2, .string (⟨#[UInt8.ofNat ((96 + n).toNat)]⟩ : ByteArray))] ?_
    refine Z.e (wp_ret (Gx.then_ret (Gx.block_ret (Gx.then_ret (Z.v (.string (⟨#[UInt8.ofNat ((96 + n).toNat)]⟩ : ByteArray)) ?_)))))
    exact Gx.ret_as (v' := .string (showP (.mk 0 n row ops args))) (by rw [show_0 hlen, varS, if_pos (by simp at h_c24; omega)]) (hK _ ((((Gx.Ext.refl w).trans x1).trans x2).trans x3))
  refine wp_skip (Z.x (wp_seq (Z.r [0, 1, 2] ?_)))
  refine Z.p [0] [1, 2] [(32, Z.P k1 1)] ?_
  refine Z.L 1 (.int .i64 n) (b1.ext x2) ?_
  refine Z.p [2] [] [(34, .bool (decide (n < (0 : Int))))] ?_
  refine Z.e (Z.c (decide (n < (0 : Int))) (fun h_c34 => ?_) (fun h_c34 => ?_))
  · skip
    refine Z.s [(2, .string Z.E)] ?_
    refine wp_ret (Gx.then_ret (Gx.block_ret (Gx.then_ret (Z.v (.string Z.E) ?_))))
    have p_c24 := h_c24; try simp [-List.getD_eq_getElem?_getD] at p_c24
    have p_c34 := h_c34; try simp [-List.getD_eq_getElem?_getD] at p_c34
    exact Gx.ret_as (v' := .string (showP (.mk 0 n row ops args))) (by rw [show_0 hlen, varS, if_neg (by simp at h_c24 h_c34; omega), if_pos (by simpa using h_c34)]; rfl) (hK _ (((Gx.Ext.refl w).trans x1).trans x2))
  refine wp_skip (Z.x (Z.r [0, 1, 2, 3, 4] ?_))
  refine Z.p [0] [1, 2, 3, 4] [(35, Z.P k1 1)] ?_
  refine Z.L 1 (.int .i64 n) (b1.ext x2) ?_
  have p_c24 := h_c24; try simp [-List.getD_eq_getElem?_getD] at p_c24
  have p_c34 := h_c34; try simp [-List.getD_eq_getElem?_getD] at p_c34
  refine Z.k (fun R hR => digits_i n _ R (by unfold I64 at *; omega) (by unfold I64 at *; omega) (fun w5 x4  => hR _ _ ?_))
  have zw5 := x4.size
  refine Z.C (Z.B [97]) (digB n.toNat) ?_ (by have hd := dig_size (m := n.toNat) (by unfold I64 at hn; omega); show 1 + (digB n.toNat).size ≤ _; omega)
  refine Z.p [4] [] [(2, .string ((Z.B [97]) ++ (digB n.toNat)))] ?_
  refine Z.e (wp_ret (Gx.block_ret (Gx.then_ret (Z.v (.string ((Z.B [97]) ++ (digB n.toNat))) ?_))))
  exact Gx.ret_as (v' := .string (showP (.mk 0 n row ops args))) (by rw [show_0 hlen, varS, if_neg (by simp at h_c24 h_c34; omega), if_neg (by simp at h_c34; omega)]; rfl) (hK _ ((((Gx.Ext.refl w).trans x1).trans x2).trans x4))
set_option maxHeartbeats 400000 in
set_option maxRecDepth 10000 in
theorem rShow_1 (w0 : World) (n row : Int) (ops : List ByteArray) (args : List TyP) (A1 A2 : Option Addr) (c1 c2 : Nat) (cs : Nat → List Value) (w : World) (K : Ending → World → Prop) (hE : Gx.Ext w0 w) (hlen : args.length = 0) (hn : I64 n) (hr : I64 row) (hl : ops.length ≤ 1048576) (hz : ∀ i, (ops.getD i e0).size ≤ 1048576) (ho : Gx.Rd w0 A1 ops.length 1 (fun i => [.string (ops.getD i e0)])) (ha : Gx.Rd w0 A2 0 5 cs) (hsz : (showP (.mk 1 n row ops args)).size ≤ 1099511627776) (hK : ∀ w', Gx.Ext w w' → K (.returned (.string (showP (.mk 1 n row ops args)))) w') :
    Calls Tryz.prog 63 #[.agg #[.int .i64 1, .int .i64 n, .int .i64 row, .slice A1 ops.length c1, .slice A2 0 c2]] w K := by
  refine Gx.enter 116 Tryz.func63 rfl rfl (Nat.le_of_ble_eq_true rfl) ?_
  refine Z.r [0, 1] ?_
  refine Z.N (.cells #[.int .i64 1, .int .i64 n, .int .i64 row, .slice A1 ops.length c1, .slice A2 0 c2] 96) (fun k1 w1 l1 x1 b1 zw1 tb1 => ?_)
  refine Z.p [1] [] [(2, .string Z.E)] ?_
  refine Z.e (wp_seq (wp_seq (Z.D (fun w' => Gx.Has w' k1 (.cells #[.int .i64 1, .int .i64 n, .int .i64 row, .slice A1 ops.length c1, .slice A2 0 c2] 96)) (fun w2 x2 zw2 => ?_))))
  refine Z.h (b1.ext x2) (fun hS1 => ?_)
  refine Z.t 0 (Z.P k1 4) hS1 ?_
  refine Z.tl 1 4 (.slice A2 0 c2) (fun _ hs => hs) hS1 ?_
  refine Z.t 2 (.int .i64 0) hS1 ?_
  refine Z.t 3 (Z.P k1 0) hS1 ?_
  refine Z.tl 4 0 (.int .i64 1) (fun _ hs => hs) hS1 ?_
  refine Z.o 5 (fun R hR => args_c (1 : Int) _ R  (hR _ _ ⟨(b1.ext x2), fun hS2 => ?_⟩))
  refine Z.t 6 (.bool false) hS2 ?_
  refine Z.q ?_
  refine Z.x (Z.cf ?_)
  refine wp_skip (Z.x (wp_seq (Z.r [0, 1] ?_)))
  refine Z.p [0] [1] [(13, Z.P k1 0)] ?_
  refine Z.L 0 (.int .i64 1) (b1.ext x2) ?_
  refine Z.e (wp_block (Z.sf [(15, .bool false), (16, .bool false)] ?_))
  refine Z.st [(39, .bool true), (40, .bool true)] ?_
  refine Z.s [(2, .string (Z.B [105, 110, 116]))] ?_
  refine wp_ret (Gx.block_ret (Gx.then_ret (Z.v (.string (Z.B [105, 110, 116])) ?_)))
  exact Gx.ret_as (v' := .string (showP (.mk 1 n row ops args))) (by rw [show_1 hlen]) (hK _ (((Gx.Ext.refl w).trans x1).trans x2))
set_option maxHeartbeats 400000 in
set_option maxRecDepth 10000 in
theorem rShow_2 (w0 : World) (n row : Int) (ops : List ByteArray) (args : List TyP) (A1 A2 : Option Addr) (c1 c2 : Nat) (cs : Nat → List Value) (w : World) (K : Ending → World → Prop) (hE : Gx.Ext w0 w) (hlen : args.length = 0) (hn : I64 n) (hr : I64 row) (hl : ops.length ≤ 1048576) (hz : ∀ i, (ops.getD i e0).size ≤ 1048576) (ho : Gx.Rd w0 A1 ops.length 1 (fun i => [.string (ops.getD i e0)])) (ha : Gx.Rd w0 A2 0 5 cs) (hsz : (showP (.mk 2 n row ops args)).size ≤ 1099511627776) (hK : ∀ w', Gx.Ext w w' → K (.returned (.string (showP (.mk 2 n row ops args)))) w') :
    Calls Tryz.prog 63 #[.agg #[.int .i64 2, .int .i64 n, .int .i64 row, .slice A1 ops.length c1, .slice A2 0 c2]] w K := by
  refine Gx.enter 116 Tryz.func63 rfl rfl (Nat.le_of_ble_eq_true rfl) ?_
  refine Z.r [0, 1] ?_
  refine Z.N (.cells #[.int .i64 2, .int .i64 n, .int .i64 row, .slice A1 ops.length c1, .slice A2 0 c2] 96) (fun k1 w1 l1 x1 b1 zw1 tb1 => ?_)
  refine Z.p [1] [] [(2, .string Z.E)] ?_
  refine Z.e (wp_seq (wp_seq (Z.D (fun w' => Gx.Has w' k1 (.cells #[.int .i64 2, .int .i64 n, .int .i64 row, .slice A1 ops.length c1, .slice A2 0 c2] 96)) (fun w2 x2 zw2 => ?_))))
  refine Z.h (b1.ext x2) (fun hS1 => ?_)
  refine Z.t 0 (Z.P k1 4) hS1 ?_
  refine Z.tl 1 4 (.slice A2 0 c2) (fun _ hs => hs) hS1 ?_
  refine Z.t 2 (.int .i64 0) hS1 ?_
  refine Z.t 3 (Z.P k1 0) hS1 ?_
  refine Z.tl 4 0 (.int .i64 2) (fun _ hs => hs) hS1 ?_
  refine Z.o 5 (fun R hR => args_c (2 : Int) _ R  (hR _ _ ⟨(b1.ext x2), fun hS2 => ?_⟩))
  refine Z.t 6 (.bool false) hS2 ?_
  refine Z.q ?_
  refine Z.x (Z.cf ?_)
  refine wp_skip (Z.x (wp_seq (Z.r [0, 1] ?_)))
  refine Z.p [0] [1] [(13, Z.P k1 0)] ?_
  refine Z.L 0 (.int .i64 2) (b1.ext x2) ?_
  refine Z.e (wp_block (Z.sf [(15, .bool false), (16, .bool false)] ?_))
  refine Z.sf [(39, .bool false), (40, .bool false)] ?_
  refine Z.st [(41, .bool true), (42, .bool true)] ?_
  refine Z.s [(2, .string (Z.B [98, 111, 111, 108]))] ?_
  refine wp_ret (Gx.block_ret (Gx.then_ret (Z.v (.string (Z.B [98, 111, 111, 108])) ?_)))
  exact Gx.ret_as (v' := .string (showP (.mk 2 n row ops args))) (by rw [show_2 hlen]) (hK _ (((Gx.Ext.refl w).trans x1).trans x2))
set_option maxHeartbeats 400000 in
set_option maxRecDepth 10000 in
theorem rShow_3 (w0 : World) (n row : Int) (ops : List ByteArray) (args : List TyP) (A1 A2 : Option Addr) (c1 c2 : Nat) (cs : Nat → List Value) (w : World) (K : Ending → World → Prop) (hE : Gx.Ext w0 w) (hlen : args.length = 0) (hn : I64 n) (hr : I64 row) (hl : ops.length ≤ 1048576) (hz : ∀ i, (ops.getD i e0).size ≤ 1048576) (ho : Gx.Rd w0 A1 ops.length 1 (fun i => [.string (ops.getD i e0)])) (ha : Gx.Rd w0 A2 0 5 cs) (hsz : (showP (.mk 3 n row ops args)).size ≤ 1099511627776) (hK : ∀ w', Gx.Ext w w' → K (.returned (.string (showP (.mk 3 n row ops args)))) w') :
    Calls Tryz.prog 63 #[.agg #[.int .i64 3, .int .i64 n, .int .i64 row, .slice A1 ops.length c1, .slice A2 0 c2]] w K := by
  refine Gx.enter 116 Tryz.func63 rfl rfl (Nat.le_of_ble_eq_true rfl) ?_
  refine Z.r [0, 1] ?_
  refine Z.N (.cells #[.int .i64 3, .int .i64 n, .int .i64 row, .slice A1 ops.length c1, .slice A2 0 c2] 96) (fun k1 w1 l1 x1 b1 zw1 tb1 => ?_)
  refine Z.p [1] [] [(2, .string Z.E)] ?_
  refine Z.e (wp_seq (wp_seq (Z.D (fun w' => Gx.Has w' k1 (.cells #[.int .i64 3, .int .i64 n, .int .i64 row, .slice A1 ops.length c1, .slice A2 0 c2] 96)) (fun w2 x2 zw2 => ?_))))
  refine Z.h (b1.ext x2) (fun hS1 => ?_)
  refine Z.t 0 (Z.P k1 4) hS1 ?_
  refine Z.tl 1 4 (.slice A2 0 c2) (fun _ hs => hs) hS1 ?_
  refine Z.t 2 (.int .i64 0) hS1 ?_
  refine Z.t 3 (Z.P k1 0) hS1 ?_
  refine Z.tl 4 0 (.int .i64 3) (fun _ hs => hs) hS1 ?_
  refine Z.o 5 (fun R hR => args_c (3 : Int) _ R  (hR _ _ ⟨(b1.ext x2), fun hS2 => ?_⟩))
  refine Z.t 6 (.bool false) hS2 ?_
  refine Z.q ?_
  refine Z.x (Z.cf ?_)
  refine wp_skip (Z.x (wp_seq (Z.r [0, 1] ?_)))
  refine Z.p [0] [1] [(13, Z.P k1 0)] ?_
  refine Z.L 0 (.int .i64 3) (b1.ext x2) ?_
  refine Z.e (wp_block (Z.sf [(15, .bool false), (16, .bool false)] ?_))
  refine Z.sf [(39, .bool false), (40, .bool false)] ?_
  refine Z.sf [(41, .bool false), (42, .bool false)] ?_
  refine Z.st [(43, .bool true), (44, .bool true)] ?_
  refine Z.s [(2, .string (Z.B [117, 110, 105, 116]))] ?_
  refine wp_ret (Gx.block_ret (Gx.then_ret (Z.v (.string (Z.B [117, 110, 105, 116])) ?_)))
  exact Gx.ret_as (v' := .string (showP (.mk 3 n row ops args))) (by rw [show_3 hlen]) (hK _ (((Gx.Ext.refl w).trans x1).trans x2))
set_option maxHeartbeats 400000 in
set_option maxRecDepth 10000 in
theorem rShow_4 (w0 : World) (n row : Int) (ops : List ByteArray) (args : List TyP) (A1 A2 : Option Addr) (c1 c2 : Nat) (cs : Nat → List Value) (w : World) (K : Ending → World → Prop) (hE : Gx.Ext w0 w) (hlen : args.length = 1) (hn : I64 n) (hr : I64 row) (hl : ops.length ≤ 1048576) (hz : ∀ i, (ops.getD i e0).size ≤ 1048576) (ho : Gx.Rd w0 A1 ops.length 1 (fun i => [.string (ops.getD i e0)])) (ha : Gx.Rd w0 A2 1 5 cs) (hsz : (showP (.mk 4 n row ops args)).size ≤ 1099511627776) (ihI : ∀ i, i < args.length → ∀ (least : Int) (w : World) (K : Ending → World → Prop), Gx.Ext w0 w → (∀ w', Gx.Ext w w' → K (.returned (.string (inP least (args.getD i ty0)))) w') → Calls Tryz.prog 99 #[.agg (cs i).toArray, .int .i64 least] w K) (hK : ∀ w', Gx.Ext w w' → K (.returned (.string (showP (.mk 4 n row ops args)))) w') :
    Calls Tryz.prog 63 #[.agg #[.int .i64 4, .int .i64 n, .int .i64 row, .slice A1 ops.length c1, .slice A2 1 c2]] w K := by
  refine Gx.enter 116 Tryz.func63 rfl rfl (Nat.le_of_ble_eq_true rfl) ?_
  have hq := hsz; rw [show_4 hlen] at hq; simp only [ByteArray.size_append] at hq
  refine Z.r [0, 1] ?_
  refine Z.N (.cells #[.int .i64 4, .int .i64 n, .int .i64 row, .slice A1 ops.length c1, .slice A2 1 c2] 96) (fun k1 w1 l1 x1 b1 zw1 tb1 => ?_)
  refine Z.p [1] [] [(2, .string Z.E)] ?_
  refine Z.e (wp_seq (wp_seq (Z.D (fun w' => Gx.Has w' k1 (.cells #[.int .i64 4, .int .i64 n, .int .i64 row, .slice A1 ops.length c1, .slice A2 1 c2] 96)) (fun w2 x2 zw2 => ?_))))
  refine Z.h (b1.ext x2) (fun hS1 => ?_)
  refine Z.t 0 (Z.P k1 4) hS1 ?_
  refine Z.tl 1 4 (.slice A2 1 c2) (fun _ hs => hs) hS1 ?_
  refine Z.t 2 (.int .i64 1) hS1 ?_
  refine Z.t 3 (Z.P k1 0) hS1 ?_
  refine Z.tl 4 0 (.int .i64 4) (fun _ hs => hs) hS1 ?_
  refine Z.o 5 (fun R hR => args_c (4 : Int) _ R  (hR _ _ ⟨(b1.ext x2), fun hS2 => ?_⟩))
  refine Z.t 6 (.bool false) hS2 ?_
  refine Z.q ?_
  refine Z.x (Z.cf ?_)
  refine wp_skip (Z.x (wp_seq (Z.r [0, 1] ?_)))
  refine Z.p [0] [1] [(13, Z.P k1 0)] ?_
  refine Z.L 0 (.int .i64 4) (b1.ext x2) ?_
  refine Z.e (wp_block (Z.sf [(15, .bool false), (16, .bool false)] ?_))
  refine Z.sf [(39, .bool false), (40, .bool false)] ?_
  refine Z.sf [(41, .bool false), (42, .bool false)] ?_
  refine Z.sf [(43, .bool false), (44, .bool false)] ?_
  refine Z.st [(45, .bool true), (46, .bool true)] ?_
  refine Z.r [0, 1, 2, 3, 4, 5, 6] ?_
  refine Z.p [0] [1, 2, 3, 4, 5, 6] [(47, Z.P k1 4)] ?_
  refine Z.L 4 (.slice A2 1 c2) (b1.ext x2) ?_
  obtain ⟨a1, ha1, hc1⟩ := (Gx.Rd.ext ha (by decide) hE) 0 (by omega)
  refine Z.I 96 5 ha1 1 c2 0 ?_
  refine Gx.cons (Gx.op_loadAgg rfl (by kernel_rfl) rfl (by kernel_rfl) 5 (Gx.cells_ext hc1 (by decide) (((Gx.Ext.refl w).trans x1).trans x2)) (by kernel_rfl) ?_)
  refine Z.k (fun R hR => ihI 0 (by omega) (2 : Int) _ R (Gx.Ext.trans hE (((Gx.Ext.refl w).trans x1).trans x2)) (fun w3 x3  => hR _ _ ?_))
  have zw3 := x3.size
  refine Z.C (inP (2 : Int) (args.getD 0 ty0)) (Z.B [32, 108, 105, 115, 116]) ?_ (by simp only [litz5]; omega)
  refine Z.p [6] [] [(2, .string ((inP (2 : Int) (args.getD 0 ty0)) ++ (Z.B [32, 108, 105, 115, 116])))] ?_
  refine Z.e (wp_ret (Gx.block_ret (Gx.then_ret (Z.v (.string ((inP (2 : Int) (args.getD 0 ty0)) ++ (Z.B [32, 108, 105, 115, 116]))) ?_))))
  exact Gx.ret_as (v' := .string (showP (.mk 4 n row ops args))) (by rw [show_4 hlen]) (hK _ ((((Gx.Ext.refl w).trans x1).trans x2).trans x3))
set_option maxHeartbeats 400000 in
set_option maxRecDepth 10000 in
theorem rShow_5 (w0 : World) (n row : Int) (ops : List ByteArray) (args : List TyP) (A1 A2 : Option Addr) (c1 c2 : Nat) (cs : Nat → List Value) (w : World) (K : Ending → World → Prop) (hE : Gx.Ext w0 w) (hlen : args.length = 2) (hn : I64 n) (hr : I64 row) (hl : ops.length ≤ 1048576) (hz : ∀ i, (ops.getD i e0).size ≤ 1048576) (ho : Gx.Rd w0 A1 ops.length 1 (fun i => [.string (ops.getD i e0)])) (ha : Gx.Rd w0 A2 2 5 cs) (hsz : (showP (.mk 5 n row ops args)).size ≤ 1099511627776) (ihI : ∀ i, i < args.length → ∀ (least : Int) (w : World) (K : Ending → World → Prop), Gx.Ext w0 w → (∀ w', Gx.Ext w w' → K (.returned (.string (inP least (args.getD i ty0)))) w') → Calls Tryz.prog 99 #[.agg (cs i).toArray, .int .i64 least] w K) (hK : ∀ w', Gx.Ext w w' → K (.returned (.string (showP (.mk 5 n row ops args)))) w') :
    Calls Tryz.prog 63 #[.agg #[.int .i64 5, .int .i64 n, .int .i64 row, .slice A1 ops.length c1, .slice A2 2 c2]] w K := by
  refine Gx.enter 116 Tryz.func63 rfl rfl (Nat.le_of_ble_eq_true rfl) ?_
  have hq := hsz; rw [show_5 hlen] at hq; simp only [ByteArray.size_append] at hq
  refine Z.r [0, 1] ?_
  refine Z.N (.cells #[.int .i64 5, .int .i64 n, .int .i64 row, .slice A1 ops.length c1, .slice A2 2 c2] 96) (fun k1 w1 l1 x1 b1 zw1 tb1 => ?_)
  refine Z.p [1] [] [(2, .string Z.E)] ?_
  refine Z.e (wp_seq (wp_seq (Z.D (fun w' => Gx.Has w' k1 (.cells #[.int .i64 5, .int .i64 n, .int .i64 row, .slice A1 ops.length c1, .slice A2 2 c2] 96)) (fun w2 x2 zw2 => ?_))))
  refine Z.h (b1.ext x2) (fun hS1 => ?_)
  refine Z.t 0 (Z.P k1 4) hS1 ?_
  refine Z.tl 1 4 (.slice A2 2 c2) (fun _ hs => hs) hS1 ?_
  refine Z.t 2 (.int .i64 2) hS1 ?_
  refine Z.t 3 (Z.P k1 0) hS1 ?_
  refine Z.tl 4 0 (.int .i64 5) (fun _ hs => hs) hS1 ?_
  refine Z.o 5 (fun R hR => args_c (5 : Int) _ R  (hR _ _ ⟨(b1.ext x2), fun hS2 => ?_⟩))
  refine Z.t 6 (.bool false) hS2 ?_
  refine Z.q ?_
  refine Z.x (Z.cf ?_)
  refine wp_skip (Z.x (wp_seq (Z.r [0, 1] ?_)))
  refine Z.p [0] [1] [(13, Z.P k1 0)] ?_
  refine Z.L 0 (.int .i64 5) (b1.ext x2) ?_
  refine Z.e (wp_block (Z.sf [(15, .bool false), (16, .bool false)] ?_))
  refine Z.sf [(39, .bool false), (40, .bool false)] ?_
  refine Z.sf [(41, .bool false), (42, .bool false)] ?_
  refine Z.sf [(43, .bool false), (44, .bool false)] ?_
  refine Z.sf [(45, .bool false), (46, .bool false)] ?_
  refine Z.st [(53, .bool true), (54, .bool true)] ?_
  refine wp_seq (Z.D (fun w' => Gx.Has w' k1 (.cells #[.int .i64 5, .int .i64 n, .int .i64 row, .slice A1 ops.length c1, .slice A2 2 c2] 96) ∧ Gx.Ext w w') (fun w3 x3 zw3 => ?_))
  refine Z.h ⟨((b1.ext x2).ext x3), ((((Gx.Ext.refl w).trans x1).trans x2).trans x3)⟩ (fun hS3 => ?_)
  refine Z.t 0 (Z.P k1 4) hS3 ?_
  refine Z.tl 1 4 (.slice A2 2 c2) (fun _ hs => hs.1) hS3 ?_
  obtain ⟨a1, ha1, hc1⟩ := (Gx.Rd.ext ha (by decide) hE) 0 (by omega)
  refine Z.ti 2 96 5 ha1 2 c2 0 hS3 ?_
  refine Gx.any_take 3 ((.agg (cs 0).toArray)) rfl (by kernel_rfl) (by kernel_rfl) (by kernel_rfl) (fun _ _ _ h => h) ⟨((b1.ext x2).ext x3), ((((Gx.Ext.refl w).trans x1).trans x2).trans x3)⟩ (by kernel_rfl) (fun _ hs => Gx.run_loadAgg rfl (by kernel_rfl) 5 (Gx.cells_ext hc1 (by decide) hs.2) (by kernel_rfl)) ?_
  refine Z.h ⟨((b1.ext x2).ext x3), ((((Gx.Ext.refl w).trans x1).trans x2).trans x3)⟩ (fun hS4 => ?_)
  refine Z.t 6 (Z.P k1 4) hS4 ?_
  refine Z.tl 7 4 (.slice A2 2 c2) (fun _ hs => hs.1) hS4 ?_
  obtain ⟨a2, ha2, hc2⟩ := (Gx.Rd.ext ha (by decide) hE) 1 (by omega)
  refine Z.ti 8 96 5 ha2 2 c2 1 hS4 ?_
  refine Gx.any_take 9 ((.agg (cs 1).toArray)) rfl (by kernel_rfl) (by kernel_rfl) (by kernel_rfl) (fun _ _ _ h => h) ⟨((b1.ext x2).ext x3), ((((Gx.Ext.refl w).trans x1).trans x2).trans x3)⟩ (by kernel_rfl) (fun _ hs => Gx.run_loadAgg rfl (by kernel_rfl) 5 (Gx.cells_ext hc2 (by decide) hs.2) (by kernel_rfl)) ?_
  refine Z.o 4 (fun R hR => ihI 0 (by omega) (2 : Int) _ R (Gx.Ext.trans hE ((((Gx.Ext.refl w).trans x1).trans x2).trans x3)) (fun w4 x4  => hR _ _ ⟨⟨(((b1.ext x2).ext x3).ext x4), (((((Gx.Ext.refl w).trans x1).trans x2).trans x3).trans x4)⟩, fun hS5 => ?_⟩))
  have zw4 := x4.size
  refine Z.tc 5 (inP (2 : Int) (args.getD 0 ty0)) (Z.B [32, 42, 32]) hS5 ?_ (by simp only [litz3]; omega)
  refine Z.o 10 (fun R hR => ihI 1 (by omega) (1 : Int) _ R (Gx.Ext.trans hE (((((Gx.Ext.refl w).trans x1).trans x2).trans x3).trans x4)) (fun w5 x5  => hR _ _ ⟨⟨((((b1.ext x2).ext x3).ext x4).ext x5), ((((((Gx.Ext.refl w).trans x1).trans x2).trans x3).trans x4).trans x5)⟩, fun hS6 => ?_⟩))
  have zw5 := x5.size
  refine Z.tc 11 ((inP (2 : Int) (args.getD 0 ty0)) ++ (Z.B [32, 42, 32])) (inP (1 : Int) (args.getD 1 ty0)) hS6 ?_ (by simp only [ByteArray.size_append, litz3]; omega)
  refine Z.t 12 (.string (((inP (2 : Int) (args.getD 0 ty0)) ++ (Z.B [32, 42, 32])) ++ (inP (1 : Int) (args.getD 1 ty0)))) hS6 ?_
  refine Z.q ?_
  refine Z.x (wp_ret (Gx.block_ret (Gx.then_ret (Z.v (.string (((inP (2 : Int) (args.getD 0 ty0)) ++ (Z.B [32, 42, 32])) ++ (inP (1 : Int) (args.getD 1 ty0)))) ?_))))
  exact Gx.ret_as (v' := .string (showP (.mk 5 n row ops args))) (by rw [show_5 hlen]) (hK _ ((((((Gx.Ext.refl w).trans x1).trans x2).trans x3).trans x4).trans x5))
set_option maxHeartbeats 400000 in
set_option maxRecDepth 10000 in
theorem rShow_bad (w0 : World) (k : Int) (n row : Int) (ops : List ByteArray) (args : List TyP) (A1 A2 : Option Addr) (c1 c2 : Nat) (cs : Nat → List Value) (w : World) (K : Ending → World → Prop) (hbad : ¬ (args.length : Int) = arity k) (hK : ∀ w', Gx.Ext w w' → K (.returned (.string (showP (.mk k n row ops args)))) w') :
    Calls Tryz.prog 63 #[.agg #[.int .i64 k, .int .i64 n, .int .i64 row, .slice A1 ops.length c1, .slice A2 args.length c2]] w K := by
  refine Gx.enter 116 Tryz.func63 rfl rfl (Nat.le_of_ble_eq_true rfl) ?_
  refine Z.r [0, 1] ?_
  refine Z.N (.cells #[.int .i64 k, .int .i64 n, .int .i64 row, .slice A1 ops.length c1, .slice A2 args.length c2] 96) (fun k1 w1 l1 x1 b1 zw1 tb1 => ?_)
  refine Z.p [1] [] [(2, .string Z.E)] ?_
  refine Z.e (wp_seq (wp_seq (Z.D (fun w' => Gx.Has w' k1 (.cells #[.int .i64 k, .int .i64 n, .int .i64 row, .slice A1 ops.length c1, .slice A2 args.length c2] 96)) (fun w2 x2 zw2 => ?_))))
  refine Z.h (b1.ext x2) (fun hS1 => ?_)
  refine Z.t 0 (Z.P k1 4) hS1 ?_
  refine Z.tl 1 4 (.slice A2 args.length c2) (fun _ hs => hs) hS1 ?_
  refine Z.t 2 (Z.n args.length) hS1 ?_
  refine Z.t 3 (Z.P k1 0) hS1 ?_
  refine Z.tl 4 0 (.int .i64 k) (fun _ hs => hs) hS1 ?_
  refine Z.o 5 (fun R hR => args_c k _ R  (hR _ _ ⟨(b1.ext x2), fun hS2 => ?_⟩))
  refine Z.t 6 (.bool (((args.length : Nat) : Int) != (arity k))) hS2 ?_
  refine Z.q ?_
  refine Z.x (Z.c (((args.length : Nat) : Int) != (arity k)) (fun h_c12 => ?_) (fun h_c12 => ?_))
  · skip
    refine Z.s [(2, .string Z.E)] ?_
    refine wp_ret (Gx.then_ret (Z.v (.string Z.E) ?_))
    have p_c12 := h_c12; try simp [-List.getD_eq_getElem?_getD] at p_c12
    exact Gx.ret_as (v' := .string (showP (.mk k n row ops args))) (by rw [show_bad hbad]; rfl) (hK _ (((Gx.Ext.refl w).trans x1).trans x2))
  have p_c12 := h_c12; try simp [-List.getD_eq_getElem?_getD] at p_c12
  exact absurd (by simpa using h_c12) hbad
set_option maxHeartbeats 400000 in
set_option maxRecDepth 10000 in
theorem rShow_6 (w0 : World) (n row : Int) (ops : List ByteArray) (args : List TyP) (A1 A2 : Option Addr) (c1 c2 : Nat) (cs : Nat → List Value) (w : World) (K : Ending → World → Prop) (hE : Gx.Ext w0 w) (hlen : args.length = 2) (hn : I64 n) (hr : I64 row) (hl : ops.length ≤ 1048576) (hz : ∀ i, (ops.getD i e0).size ≤ 1048576) (ho : Gx.Rd w0 A1 ops.length 1 (fun i => [.string (ops.getD i e0)])) (ha : Gx.Rd w0 A2 2 5 cs) (hsz : (showP (.mk 6 n row ops args)).size ≤ 1099511627776) (ihI : ∀ i, i < args.length → ∀ (least : Int) (w : World) (K : Ending → World → Prop), Gx.Ext w0 w → (∀ w', Gx.Ext w w' → K (.returned (.string (inP least (args.getD i ty0)))) w') → Calls Tryz.prog 99 #[.agg (cs i).toArray, .int .i64 least] w K) (hK : ∀ w', Gx.Ext w w' → K (.returned (.string (showP (.mk 6 n row ops args)))) w') :
    Calls Tryz.prog 63 #[.agg #[.int .i64 6, .int .i64 n, .int .i64 row, .slice A1 ops.length c1, .slice A2 2 c2]] w K := by
  refine Gx.enter 116 Tryz.func63 rfl rfl (Nat.le_of_ble_eq_true rfl) ?_
  have hq := hsz; rw [show_6 hlen] at hq; simp only [ByteArray.size_append] at hq
  refine Z.r [0, 1] ?_
  refine Z.N (.cells #[.int .i64 6, .int .i64 n, .int .i64 row, .slice A1 ops.length c1, .slice A2 2 c2] 96) (fun k1 w1 l1 x1 b1 zw1 tb1 => ?_)
  refine Z.p [1] [] [(2, .string Z.E)] ?_
  refine Z.e (wp_seq (wp_seq (Z.D (fun w' => Gx.Has w' k1 (.cells #[.int .i64 6, .int .i64 n, .int .i64 row, .slice A1 ops.length c1, .slice A2 2 c2] 96)) (fun w2 x2 zw2 => ?_))))
  refine Z.h (b1.ext x2) (fun hS1 => ?_)
  refine Z.t 0 (Z.P k1 4) hS1 ?_
  refine Z.tl 1 4 (.slice A2 2 c2) (fun _ hs => hs) hS1 ?_
  refine Z.t 2 (.int .i64 2) hS1 ?_
  refine Z.t 3 (Z.P k1 0) hS1 ?_
  refine Z.tl 4 0 (.int .i64 6) (fun _ hs => hs) hS1 ?_
  refine Z.o 5 (fun R hR => args_c (6 : Int) _ R  (hR _ _ ⟨(b1.ext x2), fun hS2 => ?_⟩))
  refine Z.t 6 (.bool false) hS2 ?_
  refine Z.q ?_
  refine Z.x (Z.cf ?_)
  refine wp_skip (Z.x (wp_seq (Z.r [0, 1] ?_)))
  refine Z.p [0] [1] [(13, Z.P k1 0)] ?_
  refine Z.L 0 (.int .i64 6) (b1.ext x2) ?_
  refine Z.e (wp_block (Z.sf [(15, .bool false), (16, .bool false)] ?_))
  refine Z.sf [(39, .bool false), (40, .bool false)] ?_
  refine Z.sf [(41, .bool false), (42, .bool false)] ?_
  refine Z.sf [(43, .bool false), (44, .bool false)] ?_
  refine Z.sf [(45, .bool false), (46, .bool false)] ?_
  refine Z.sf [(53, .bool false), (54, .bool false)] ?_
  refine wp_skip (Gx.block_normal (Z.x (Z.s [(3, .string Z.E)] ?_)))
  refine wp_seq (Z.s [(4, .int .i64 0)] ?_)
  refine wp_block (Gx.loop (n' := 116) (d' := []) (fun mz l' w' => ∃ (i : Nat), l' = [(1, Z.P k1 0), (3, .string (joinB (ops.take i))), (4, Z.n i)] ∧ mz = ops.length - i ∧ Gx.Ext w w' ∧ Gx.Has w' k1 (.cells #[.int .i64 6, .int .i64 n, .int .i64 row, .slice A1 ops.length c1, .slice A2 2 c2] 96) ∧ (i ≤ ops.length) ∧ ((joinB (ops.take i)).size ≤ i * 1048578)) _ _ [(1, Z.P k1 0), (3, .string (joinB (ops.take 0))), (4, Z.n 0)] (Gx.forget [(1, Z.P k1 0), (3, .string (joinB (ops.take 0))), (4, Z.n 0)] (by kernel_rfl)) ⟨0, rfl, rfl, (((Gx.Ext.refl w).trans x1).trans x2), (b1.ext x2), (Nat.zero_le _), (by show 0 ≤ _; omega)⟩ (fun bb1 m1 ll1 w3 hI1 K1 hK1 => ?_))
  obtain ⟨i, rfl, rfl, x3, b2, hi, hjz⟩ := hI1
  have zw3 := x3.size
  have tb2 := b2.lt
  have hzi := hz i
  refine wp_seq (Z.r [0, 1, 2, 3, 4] ?_)
  refine Z.p [0, 1] [2, 3, 4] [(68, Z.P k1 3), (67, Z.n i)] ?_
  refine Z.L 3 (.slice A1 ops.length c1) b2 ?_
  refine Z.p [3, 4] [] [(71, .bool (decide (((i : Nat) : Int) < ((ops.length : Nat) : Int)))), (70, Z.n ops.length)] ?_
  refine Z.e (Z.c (decide (((i : Nat) : Int) < ((ops.length : Nat) : Int))) (fun h_c71 => ?_) (fun h_c71 => ?_))
  · skip
    refine wp_skip (Z.x (wp_seq (wp_block (wp_seq (Z.s [(75, .bool (decide (((i : Nat) : Int) > (0 : Int)))), (74, Z.n i)] ?_)))))
    refine Z.c (decide (((i : Nat) : Int) > (0 : Int))) (fun h_c75 => ?_) (fun h_c75 => ?_)
    · skip
      refine Z.g [0, 1, 2] ?_
      refine Z.p [0] [1, 2] [(76, .string (joinB (ops.take i)))] ?_
      have p_c71 := h_c71; try simp [-List.getD_eq_getElem?_getD] at p_c71
      have p_c75 := h_c75; try simp [-List.getD_eq_getElem?_getD] at p_c75
      refine Z.C (joinB (ops.take i)) (Z.B [44, 32]) ?_ (by have hd := dig_size (m := row.toNat) (by unfold I64 at hr; omega); simp only [litz2]; omega)
      refine Z.p [2] [] [(3, .string ((joinB (ops.take i)) ++ (Z.B [44, 32])))] ?_
      refine Gx.ops_nil (Z.x (Z.g [0, 1, 2, 3, 4, 5, 6, 7] ?_))
      refine Z.p [0, 1] [2, 3, 4, 5, 6, 7] [(79, Z.P k1 3), (78, .string ((joinB (ops.take i)) ++ (Z.B [44, 32])))] ?_
      refine Z.L 3 (.slice A1 ops.length c1) b2 ?_
      refine Z.p [3] [4, 5, 6, 7] [(81, Z.n i)] ?_
      obtain ⟨a1, ha1, hc1⟩ := (Gx.Rd.ext ho (by decide) hE) i (by omega)
      refine Z.I 9 1 ha1 ops.length c1 i ?_
      refine Z.Lo [.string (ops.getD i e0)] (.string (ops.getD i e0)) 1 hc1 ((Gx.Ext.refl w).trans x3) ?_
      refine Z.C ((joinB (ops.take i)) ++ (Z.B [44, 32])) (ops.getD i e0) ?_ (by have hd := dig_size (m := row.toNat) (by unfold I64 at hr; omega); simp only [ByteArray.size_append, litz2]; omega)
      refine Z.p [7] [] [(3, .string (((joinB (ops.take i)) ++ (Z.B [44, 32])) ++ (ops.getD i e0)))] ?_
      refine Gx.ops_nil (Gx.block_normal (Z.x (Z.g [0, 1, 2] ?_)))
      refine Z.p [0] [1, 2] [(72, Z.n i)] ?_
      refine Gx.pure_eq [1] [2] [(73, .int .i64 (IntKind.i64.wrap (((i : Nat) : Int) + (1 : Int))))] [(73, .int .i64 ((i + 1 : Nat) : Int))] rfl (by kernel_rfl) (Gx.eqI (Gx.i64n (by omega) (by omega))) ?_
      refine Z.p [2] [] [(4, .int .i64 ((i + 1 : Nat) : Int))] ?_
      refine Gx.ops_nil (Z.x ?_)
      rw [Gx.forget [(1, Z.P k1 0), (3, .string (joinB (ops.take (i + 1)))), (4, .int .i64 (((i + 1) : Nat) : Int))] (by rw [join_succ (by omega), if_pos (by simpa using h_c75)]; try kernel_rfl)]
      exact hK1 _ _ _ _ (by omega) ⟨(i + 1), rfl, rfl, ((Gx.Ext.refl w).trans x3), b2, (by omega), (by rw [join_succ (by omega)]; split <;> simp only [ByteArray.size_append, litz2] <;> omega)⟩
    refine wp_skip (Z.x (Z.g [0, 1, 2, 3, 4, 5, 6, 7] ?_))
    refine Z.p [0, 1] [2, 3, 4, 5, 6, 7] [(79, Z.P k1 3), (78, .string (joinB (ops.take i)))] ?_
    refine Z.L 3 (.slice A1 ops.length c1) b2 ?_
    refine Z.p [3] [4, 5, 6, 7] [(81, Z.n i)] ?_
    have p_c71 := h_c71; try simp [-List.getD_eq_getElem?_getD] at p_c71
    have p_c75 := h_c75; try simp [-List.getD_eq_getElem?_getD] at p_c75
    obtain ⟨a2, ha2, hc2⟩ := (Gx.Rd.ext ho (by decide) hE) i (by omega)
    refine Z.I 9 1 ha2 ops.length c1 i ?_
    refine Z.Lo [.string (ops.getD i e0)] (.string (ops.getD i e0)) 1 hc2 ((Gx.Ext.refl w).trans x3) ?_
    refine Z.C (joinB (ops.take i)) (ops.getD i e0) ?_ (by have hd := dig_size (m := row.toNat) (by unfold I64 at hr; omega); omega)
    refine Z.p [7] [] [(3, .string ((joinB (ops.take i)) ++ (ops.getD i e0)))] ?_
    refine Gx.ops_nil (Gx.block_normal (Z.x (Z.g [0, 1, 2] ?_)))
    refine Z.p [0] [1, 2] [(72, Z.n i)] ?_
    refine Gx.pure_eq [1] [2] [(73, .int .i64 (IntKind.i64.wrap (((i : Nat) : Int) + (1 : Int))))] [(73, .int .i64 ((i + 1 : Nat) : Int))] rfl (by kernel_rfl) (Gx.eqI (Gx.i64n (by omega) (by omega))) ?_
    refine Z.p [2] [] [(4, .int .i64 ((i + 1 : Nat) : Int))] ?_
    refine Gx.ops_nil (Z.x ?_)
    rw [Gx.forget [(1, Z.P k1 0), (3, .string (joinB (ops.take (i + 1)))), (4, .int .i64 (((i + 1) : Nat) : Int))] (by rw [join_succ (by omega), if_neg (by simpa using h_c75)]; try kernel_rfl)]
    exact hK1 _ _ _ _ (by omega) ⟨(i + 1), rfl, rfl, ((Gx.Ext.refl w).trans x3), b2, (by omega), (by rw [join_succ (by omega)]; split <;> simp only [ByteArray.size_append, litz2] <;> omega)⟩
  refine wp_exit (Gx.then_exit (Gx.then_exit (Gx.block_exit (Z.x (wp_seq ?_)))))
  have p_c71 := h_c71; try simp [-List.getD_eq_getElem?_getD] at p_c71
  obtain rfl : i = ops.length := by omega
  rw [join_all] at *
  refine Z.r [0, 1, 2] ?_
  refine Z.p [0] [1, 2] [(85, Z.P k1 2)] ?_
  refine Z.L 2 (.int .i64 row) b2 ?_
  refine Z.p [2] [] [(87, .bool (decide (row > (0 : Int))))] ?_
  refine Z.e (Z.c (decide (row > (0 : Int))) (fun h_c87 => ?_) (fun h_c87 => ?_))
  · skip
    refine wp_seq (Z.s [(89, .bool (!((joinB ops).toList == Z.E.toList))), (88, .string (joinB ops))] ?_)
    refine Z.c (!((joinB ops).toList == Z.E.toList)) (fun h_c89 => ?_) (fun h_c89 => ?_)
    · skip
      refine Z.g [0, 1, 2] ?_
      refine Z.p [0] [1, 2] [(90, .string (joinB ops))] ?_
      have p_c87 := h_c87; try simp [-List.getD_eq_getElem?_getD] at p_c87
      have p_c89 := h_c89; try simp [-List.getD_eq_getElem?_getD] at p_c89
      refine Z.C (joinB ops) (Z.B [32]) ?_ (by have hd := dig_size (m := row.toNat) (by unfold I64 at hr; omega); simp only [litz1]; omega)
      refine Z.p [2] [] [(3, .string ((joinB ops) ++ (Z.B [32])))] ?_
      refine Gx.ops_nil (Z.x (Z.g [0, 1, 2, 3, 4, 5, 6] ?_))
      refine Z.p [0] [1, 2, 3, 4, 5, 6] [(92, .string ((joinB ops) ++ (Z.B [32])))] ?_
      refine Z.C ((joinB ops) ++ (Z.B [32])) (Z.B [124, 32, 114]) ?_ (by have hd := dig_size (m := row.toNat) (by unfold I64 at hr; omega); simp only [ByteArray.size_append, litz1, litz3]; omega)
      refine Z.p [2] [3, 4, 5, 6] [(94, Z.P k1 2)] ?_
      refine Z.L 2 (.int .i64 row) b2 ?_
      refine Z.k (fun R hR => digits_i row _ R (by unfold I64 at *; omega) (by unfold I64 at *; omega) (fun w4 x4  => hR _ _ ?_))
      have zw4 := x4.size
      refine Z.C (((joinB ops) ++ (Z.B [32])) ++ (Z.B [124, 32, 114])) (digB row.toNat) ?_ (by have hd := dig_size (m := row.toNat) (by unfold I64 at hr; omega); simp only [ByteArray.size_append, litz1, litz3]; omega)
      refine Z.p [6] [] [(3, .string ((((joinB ops) ++ (Z.B [32])) ++ (Z.B [124, 32, 114])) ++ (digB row.toNat)))] ?_
      refine Gx.ops_nil (Z.x (Z.s [(5, .string (Z.B [32, 45, 62, 32]))] ?_))
      refine wp_seq (Z.s [(99, .bool (!(((((joinB ops) ++ (Z.B [32])) ++ (Z.B [124, 32, 114])) ++ (digB row.toNat)).toList == Z.E.toList))), (98, .string ((((joinB ops) ++ (Z.B [32])) ++ (Z.B [124, 32, 114])) ++ (digB row.toNat)))] ?_)
      refine Z.c (!(((((joinB ops) ++ (Z.B [32])) ++ (Z.B [124, 32, 114])) ++ (digB row.toNat)).toList == Z.E.toList)) (fun h_c99 => ?_) (fun h_c99 => ?_)
      · skip
        refine Z.g [0, 1, 2, 3] ?_
        refine Z.p [0] [1, 2, 3] [(100, .string ((((joinB ops) ++ (Z.B [32])) ++ (Z.B [124, 32, 114])) ++ (digB row.toNat)))] ?_
        have p_c99 := h_c99; try simp [-List.getD_eq_getElem?_getD] at p_c99
        refine Z.C (Z.B [32, 45, 123]) ((((joinB ops) ++ (Z.B [32])) ++ (Z.B [124, 32, 114])) ++ (digB row.toNat)) ?_ (by have hd := dig_size (m := row.toNat) (by unfold I64 at hr; omega); simp only [ByteArray.size_append, litz1, litz3]; omega)
        refine Z.C ((Z.B [32, 45, 123]) ++ ((((joinB ops) ++ (Z.B [32])) ++ (Z.B [124, 32, 114])) ++ (digB row.toNat))) (Z.B [125, 45, 62, 32]) ?_ (by have hd := dig_size (m := row.toNat) (by unfold I64 at hr; omega); simp only [ByteArray.size_append, litz1, litz3, litz4]; omega)
        refine Z.p [3] [] [(5, .string (((Z.B [32, 45, 123]) ++ ((((joinB ops) ++ (Z.B [32])) ++ (Z.B [124, 32, 114])) ++ (digB row.toNat))) ++ (Z.B [125, 45, 62, 32])))] ?_
        refine Gx.ops_nil (Z.x (wp_seq (Z.D (fun w' => Gx.Has w' k1 (.cells #[.int .i64 6, .int .i64 n, .int .i64 row, .slice A1 ops.length c1, .slice A2 2 c2] 96) ∧ Gx.Ext w w') (fun w5 x5 zw5 => ?_))))
        refine Z.h ⟨((b2.ext x4).ext x5), ((((Gx.Ext.refl w).trans x3).trans x4).trans x5)⟩ (fun hS3 => ?_)
        refine Z.t 0 (Z.P k1 4) hS3 ?_
        refine Z.tl 1 4 (.slice A2 2 c2) (fun _ hs => hs.1) hS3 ?_
        obtain ⟨a3, ha3, hc3⟩ := (Gx.Rd.ext ha (by decide) hE) 0 (by omega)
        refine Z.ti 2 96 5 ha3 2 c2 0 hS3 ?_
        refine Gx.any_take 3 ((.agg (cs 0).toArray)) rfl (by kernel_rfl) (by kernel_rfl) (by kernel_rfl) (fun _ _ _ h => h) ⟨((b2.ext x4).ext x5), ((((Gx.Ext.refl w).trans x3).trans x4).trans x5)⟩ (by kernel_rfl) (fun _ hs => Gx.run_loadAgg rfl (by kernel_rfl) 5 (Gx.cells_ext hc3 (by decide) hs.2) (by kernel_rfl)) ?_
        refine Z.h ⟨((b2.ext x4).ext x5), ((((Gx.Ext.refl w).trans x3).trans x4).trans x5)⟩ (fun hS4 => ?_)
        refine Z.t 5 (.string (((Z.B [32, 45, 123]) ++ ((((joinB ops) ++ (Z.B [32])) ++ (Z.B [124, 32, 114])) ++ (digB row.toNat))) ++ (Z.B [125, 45, 62, 32]))) hS4 ?_
        refine Z.t 7 (Z.P k1 4) hS4 ?_
        refine Z.tl 8 4 (.slice A2 2 c2) (fun _ hs => hs.1) hS4 ?_
        obtain ⟨a4, ha4, hc4⟩ := (Gx.Rd.ext ha (by decide) hE) 1 (by omega)
        refine Z.ti 9 96 5 ha4 2 c2 1 hS4 ?_
        refine Gx.any_take 10 ((.agg (cs 1).toArray)) rfl (by kernel_rfl) (by kernel_rfl) (by kernel_rfl) (fun _ _ _ h => h) ⟨((b2.ext x4).ext x5), ((((Gx.Ext.refl w).trans x3).trans x4).trans x5)⟩ (by kernel_rfl) (fun _ hs => Gx.run_loadAgg rfl (by kernel_rfl) 5 (Gx.cells_ext hc4 (by decide) hs.2) (by kernel_rfl)) ?_
        refine Z.o 4 (fun R hR => ihI 0 (by omega) (1 : Int) _ R (Gx.Ext.trans hE ((((Gx.Ext.refl w).trans x3).trans x4).trans x5)) (fun w6 x6  => hR _ _ ⟨⟨(((b2.ext x4).ext x5).ext x6), (((((Gx.Ext.refl w).trans x3).trans x4).trans x5).trans x6)⟩, fun hS5 => ?_⟩))
        have zw6 := x6.size
        refine Z.tc 6 (inP (1 : Int) (args.getD 0 ty0)) (((Z.B [32, 45, 123]) ++ ((((joinB ops) ++ (Z.B [32])) ++ (Z.B [124, 32, 114])) ++ (digB row.toNat))) ++ (Z.B [125, 45, 62, 32])) hS5 ?_ (by have hd := dig_size (m := row.toNat) (by unfold I64 at hr; omega); simp only [ByteArray.size_append, litz1, litz3, litz4]; omega)
        refine Z.o 11 (fun R hR => ihI 1 (by omega) (0 : Int) _ R (Gx.Ext.trans hE (((((Gx.Ext.refl w).trans x3).trans x4).trans x5).trans x6)) (fun w7 x7  => hR _ _ ⟨⟨((((b2.ext x4).ext x5).ext x6).ext x7), ((((((Gx.Ext.refl w).trans x3).trans x4).trans x5).trans x6).trans x7)⟩, fun hS6 => ?_⟩))
        have zw7 := x7.size
        refine Z.tc 12 ((inP (1 : Int) (args.getD 0 ty0)) ++ (((Z.B [32, 45, 123]) ++ ((((joinB ops) ++ (Z.B [32])) ++ (Z.B [124, 32, 114])) ++ (digB row.toNat))) ++ (Z.B [125, 45, 62, 32]))) (inP (0 : Int) (args.getD 1 ty0)) hS6 ?_ (by have hd := dig_size (m := row.toNat) (by unfold I64 at hr; omega); simp only [ByteArray.size_append, litz1, litz3, litz4]; omega)
        refine Z.t 13 (.string (((inP (1 : Int) (args.getD 0 ty0)) ++ (((Z.B [32, 45, 123]) ++ ((((joinB ops) ++ (Z.B [32])) ++ (Z.B [124, 32, 114])) ++ (digB row.toNat))) ++ (Z.B [125, 45, 62, 32]))) ++ (inP (0 : Int) (args.getD 1 ty0)))) hS6 ?_
        refine Z.q ?_
        refine Z.x (wp_ret (Z.v (.string (((inP (1 : Int) (args.getD 0 ty0)) ++ (((Z.B [32, 45, 123]) ++ ((((joinB ops) ++ (Z.B [32])) ++ (Z.B [124, 32, 114])) ++ (digB row.toNat))) ++ (Z.B [125, 45, 62, 32]))) ++ (inP (0 : Int) (args.getD 1 ty0)))) ?_))
        exact Gx.ret_as (v' := .string (showP (.mk 6 n row ops args))) (by rw [show_6 hlen]; unfold arrB rowB bS bR bL bE bArr; rw [if_pos (show row > 0 by simpa using h_c87), if_pos h_c89, if_pos h_c99]) (hK _ ((((((Gx.Ext.refl w).trans x3).trans x4).trans x5).trans x6).trans x7))
      refine wp_skip (Z.x (wp_seq (Z.D (fun w' => Gx.Has w' k1 (.cells #[.int .i64 6, .int .i64 n, .int .i64 row, .slice A1 ops.length c1, .slice A2 2 c2] 96) ∧ Gx.Ext w w') (fun w8 x8 zw8 => ?_))))
      refine Z.h ⟨((b2.ext x4).ext x8), ((((Gx.Ext.refl w).trans x3).trans x4).trans x8)⟩ (fun hS7 => ?_)
      refine Z.t 0 (Z.P k1 4) hS7 ?_
      refine Z.tl 1 4 (.slice A2 2 c2) (fun _ hs => hs.1) hS7 ?_
      have p_c99 := h_c99; try simp [-List.getD_eq_getElem?_getD] at p_c99
      obtain ⟨a5, ha5, hc5⟩ := (Gx.Rd.ext ha (by decide) hE) 0 (by omega)
      refine Z.ti 2 96 5 ha5 2 c2 0 hS7 ?_
      refine Gx.any_take 3 ((.agg (cs 0).toArray)) rfl (by kernel_rfl) (by kernel_rfl) (by kernel_rfl) (fun _ _ _ h => h) ⟨((b2.ext x4).ext x8), ((((Gx.Ext.refl w).trans x3).trans x4).trans x8)⟩ (by kernel_rfl) (fun _ hs => Gx.run_loadAgg rfl (by kernel_rfl) 5 (Gx.cells_ext hc5 (by decide) hs.2) (by kernel_rfl)) ?_
      refine Z.h ⟨((b2.ext x4).ext x8), ((((Gx.Ext.refl w).trans x3).trans x4).trans x8)⟩ (fun hS8 => ?_)
      refine Z.t 5 (.string (Z.B [32, 45, 62, 32])) hS8 ?_
      refine Z.t 7 (Z.P k1 4) hS8 ?_
      refine Z.tl 8 4 (.slice A2 2 c2) (fun _ hs => hs.1) hS8 ?_
      obtain ⟨a6, ha6, hc6⟩ := (Gx.Rd.ext ha (by decide) hE) 1 (by omega)
      refine Z.ti 9 96 5 ha6 2 c2 1 hS8 ?_
      refine Gx.any_take 10 ((.agg (cs 1).toArray)) rfl (by kernel_rfl) (by kernel_rfl) (by kernel_rfl) (fun _ _ _ h => h) ⟨((b2.ext x4).ext x8), ((((Gx.Ext.refl w).trans x3).trans x4).trans x8)⟩ (by kernel_rfl) (fun _ hs => Gx.run_loadAgg rfl (by kernel_rfl) 5 (Gx.cells_ext hc6 (by decide) hs.2) (by kernel_rfl)) ?_
      refine Z.o 4 (fun R hR => ihI 0 (by omega) (1 : Int) _ R (Gx.Ext.trans hE ((((Gx.Ext.refl w).trans x3).trans x4).trans x8)) (fun w9 x9  => hR _ _ ⟨⟨(((b2.ext x4).ext x8).ext x9), (((((Gx.Ext.refl w).trans x3).trans x4).trans x8).trans x9)⟩, fun hS9 => ?_⟩))
      have zw9 := x9.size
      refine Z.tc 6 (inP (1 : Int) (args.getD 0 ty0)) (Z.B [32, 45, 62, 32]) hS9 ?_ (by have hd := dig_size (m := row.toNat) (by unfold I64 at hr; omega); simp only [litz4]; omega)
      refine Z.o 11 (fun R hR => ihI 1 (by omega) (0 : Int) _ R (Gx.Ext.trans hE (((((Gx.Ext.refl w).trans x3).trans x4).trans x8).trans x9)) (fun w10 x10  => hR _ _ ⟨⟨((((b2.ext x4).ext x8).ext x9).ext x10), ((((((Gx.Ext.refl w).trans x3).trans x4).trans x8).trans x9).trans x10)⟩, fun hS10 => ?_⟩))
      have zw10 := x10.size
      refine Z.tc 12 ((inP (1 : Int) (args.getD 0 ty0)) ++ (Z.B [32, 45, 62, 32])) (inP (0 : Int) (args.getD 1 ty0)) hS10 ?_ (by have hd := dig_size (m := row.toNat) (by unfold I64 at hr; omega); simp only [ByteArray.size_append, litz4]; omega)
      refine Z.t 13 (.string (((inP (1 : Int) (args.getD 0 ty0)) ++ (Z.B [32, 45, 62, 32])) ++ (inP (0 : Int) (args.getD 1 ty0)))) hS10 ?_
      refine Z.q ?_
      refine Z.x (wp_ret (Z.v (.string (((inP (1 : Int) (args.getD 0 ty0)) ++ (Z.B [32, 45, 62, 32])) ++ (inP (0 : Int) (args.getD 1 ty0)))) ?_))
      exact Gx.ret_as (v' := .string (showP (.mk 6 n row ops args))) (by rw [show_6 hlen]; unfold arrB rowB bS bR bL bE bArr; rw [if_pos (show row > 0 by simpa using h_c87), if_pos h_c89, if_neg (fun q => Bool.false_ne_true (h_c99.symm.trans q))]) (hK _ ((((((Gx.Ext.refl w).trans x3).trans x4).trans x8).trans x9).trans x10))
    refine wp_skip (Z.x (Z.g [0, 1, 2, 3, 4, 5, 6] ?_))
    refine Z.p [0] [1, 2, 3, 4, 5, 6] [(92, .string (joinB ops))] ?_
    have p_c87 := h_c87; try simp [-List.getD_eq_getElem?_getD] at p_c87
    have p_c89 := h_c89; try simp [-List.getD_eq_getElem?_getD] at p_c89
    refine Z.C (joinB ops) (Z.B [124, 32, 114]) ?_ (by have hd := dig_size (m := row.toNat) (by unfold I64 at hr; omega); simp only [litz3]; omega)
    refine Z.p [2] [3, 4, 5, 6] [(94, Z.P k1 2)] ?_
    refine Z.L 2 (.int .i64 row) b2 ?_
    refine Z.k (fun R hR => digits_i row _ R (by unfold I64 at *; omega) (by unfold I64 at *; omega) (fun w11 x11  => hR _ _ ?_))
    have zw11 := x11.size
    refine Z.C ((joinB ops) ++ (Z.B [124, 32, 114])) (digB row.toNat) ?_ (by have hd := dig_size (m := row.toNat) (by unfold I64 at hr; omega); simp only [ByteArray.size_append, litz3]; omega)
    refine Z.p [6] [] [(3, .string (((joinB ops) ++ (Z.B [124, 32, 114])) ++ (digB row.toNat)))] ?_
    refine Gx.ops_nil (Z.x (Z.s [(5, .string (Z.B [32, 45, 62, 32]))] ?_))
    refine wp_seq (Z.s [(99, .bool (!((((joinB ops) ++ (Z.B [124, 32, 114])) ++ (digB row.toNat)).toList == Z.E.toList))), (98, .string (((joinB ops) ++ (Z.B [124, 32, 114])) ++ (digB row.toNat)))] ?_)
    refine Z.c (!((((joinB ops) ++ (Z.B [124, 32, 114])) ++ (digB row.toNat)).toList == Z.E.toList)) (fun h_c99 => ?_) (fun h_c99 => ?_)
    · skip
      refine Z.g [0, 1, 2, 3] ?_
      refine Z.p [0] [1, 2, 3] [(100, .string (((joinB ops) ++ (Z.B [124, 32, 114])) ++ (digB row.toNat)))] ?_
      have p_c99 := h_c99; try simp [-List.getD_eq_getElem?_getD] at p_c99
      refine Z.C (Z.B [32, 45, 123]) (((joinB ops) ++ (Z.B [124, 32, 114])) ++ (digB row.toNat)) ?_ (by have hd := dig_size (m := row.toNat) (by unfold I64 at hr; omega); simp only [ByteArray.size_append, litz3]; omega)
      refine Z.C ((Z.B [32, 45, 123]) ++ (((joinB ops) ++ (Z.B [124, 32, 114])) ++ (digB row.toNat))) (Z.B [125, 45, 62, 32]) ?_ (by have hd := dig_size (m := row.toNat) (by unfold I64 at hr; omega); simp only [ByteArray.size_append, litz3, litz4]; omega)
      refine Z.p [3] [] [(5, .string (((Z.B [32, 45, 123]) ++ (((joinB ops) ++ (Z.B [124, 32, 114])) ++ (digB row.toNat))) ++ (Z.B [125, 45, 62, 32])))] ?_
      refine Gx.ops_nil (Z.x (wp_seq (Z.D (fun w' => Gx.Has w' k1 (.cells #[.int .i64 6, .int .i64 n, .int .i64 row, .slice A1 ops.length c1, .slice A2 2 c2] 96) ∧ Gx.Ext w w') (fun w12 x12 zw12 => ?_))))
      refine Z.h ⟨((b2.ext x11).ext x12), ((((Gx.Ext.refl w).trans x3).trans x11).trans x12)⟩ (fun hS11 => ?_)
      refine Z.t 0 (Z.P k1 4) hS11 ?_
      refine Z.tl 1 4 (.slice A2 2 c2) (fun _ hs => hs.1) hS11 ?_
      obtain ⟨a7, ha7, hc7⟩ := (Gx.Rd.ext ha (by decide) hE) 0 (by omega)
      refine Z.ti 2 96 5 ha7 2 c2 0 hS11 ?_
      refine Gx.any_take 3 ((.agg (cs 0).toArray)) rfl (by kernel_rfl) (by kernel_rfl) (by kernel_rfl) (fun _ _ _ h => h) ⟨((b2.ext x11).ext x12), ((((Gx.Ext.refl w).trans x3).trans x11).trans x12)⟩ (by kernel_rfl) (fun _ hs => Gx.run_loadAgg rfl (by kernel_rfl) 5 (Gx.cells_ext hc7 (by decide) hs.2) (by kernel_rfl)) ?_
      refine Z.h ⟨((b2.ext x11).ext x12), ((((Gx.Ext.refl w).trans x3).trans x11).trans x12)⟩ (fun hS12 => ?_)
      refine Z.t 5 (.string (((Z.B [32, 45, 123]) ++ (((joinB ops) ++ (Z.B [124, 32, 114])) ++ (digB row.toNat))) ++ (Z.B [125, 45, 62, 32]))) hS12 ?_
      refine Z.t 7 (Z.P k1 4) hS12 ?_
      refine Z.tl 8 4 (.slice A2 2 c2) (fun _ hs => hs.1) hS12 ?_
      obtain ⟨a8, ha8, hc8⟩ := (Gx.Rd.ext ha (by decide) hE) 1 (by omega)
      refine Z.ti 9 96 5 ha8 2 c2 1 hS12 ?_
      refine Gx.any_take 10 ((.agg (cs 1).toArray)) rfl (by kernel_rfl) (by kernel_rfl) (by kernel_rfl) (fun _ _ _ h => h) ⟨((b2.ext x11).ext x12), ((((Gx.Ext.refl w).trans x3).trans x11).trans x12)⟩ (by kernel_rfl) (fun _ hs => Gx.run_loadAgg rfl (by kernel_rfl) 5 (Gx.cells_ext hc8 (by decide) hs.2) (by kernel_rfl)) ?_
      refine Z.o 4 (fun R hR => ihI 0 (by omega) (1 : Int) _ R (Gx.Ext.trans hE ((((Gx.Ext.refl w).trans x3).trans x11).trans x12)) (fun w13 x13  => hR _ _ ⟨⟨(((b2.ext x11).ext x12).ext x13), (((((Gx.Ext.refl w).trans x3).trans x11).trans x12).trans x13)⟩, fun hS13 => ?_⟩))
      have zw13 := x13.size
      refine Z.tc 6 (inP (1 : Int) (args.getD 0 ty0)) (((Z.B [32, 45, 123]) ++ (((joinB ops) ++ (Z.B [124, 32, 114])) ++ (digB row.toNat))) ++ (Z.B [125, 45, 62, 32])) hS13 ?_ (by have hd := dig_size (m := row.toNat) (by unfold I64 at hr; omega); simp only [ByteArray.size_append, litz3, litz4]; omega)
      refine Z.o 11 (fun R hR => ihI 1 (by omega) (0 : Int) _ R (Gx.Ext.trans hE (((((Gx.Ext.refl w).trans x3).trans x11).trans x12).trans x13)) (fun w14 x14  => hR _ _ ⟨⟨((((b2.ext x11).ext x12).ext x13).ext x14), ((((((Gx.Ext.refl w).trans x3).trans x11).trans x12).trans x13).trans x14)⟩, fun hS14 => ?_⟩))
      have zw14 := x14.size
      refine Z.tc 12 ((inP (1 : Int) (args.getD 0 ty0)) ++ (((Z.B [32, 45, 123]) ++ (((joinB ops) ++ (Z.B [124, 32, 114])) ++ (digB row.toNat))) ++ (Z.B [125, 45, 62, 32]))) (inP (0 : Int) (args.getD 1 ty0)) hS14 ?_ (by have hd := dig_size (m := row.toNat) (by unfold I64 at hr; omega); simp only [ByteArray.size_append, litz3, litz4]; omega)
      refine Z.t 13 (.string (((inP (1 : Int) (args.getD 0 ty0)) ++ (((Z.B [32, 45, 123]) ++ (((joinB ops) ++ (Z.B [124, 32, 114])) ++ (digB row.toNat))) ++ (Z.B [125, 45, 62, 32]))) ++ (inP (0 : Int) (args.getD 1 ty0)))) hS14 ?_
      refine Z.q ?_
      refine Z.x (wp_ret (Z.v (.string (((inP (1 : Int) (args.getD 0 ty0)) ++ (((Z.B [32, 45, 123]) ++ (((joinB ops) ++ (Z.B [124, 32, 114])) ++ (digB row.toNat))) ++ (Z.B [125, 45, 62, 32]))) ++ (inP (0 : Int) (args.getD 1 ty0)))) ?_))
      exact Gx.ret_as (v' := .string (showP (.mk 6 n row ops args))) (by rw [show_6 hlen]; unfold arrB rowB bS bR bL bE bArr; rw [if_pos (show row > 0 by simpa using h_c87), if_neg (fun q => Bool.false_ne_true (h_c89.symm.trans q)), if_pos h_c99]) (hK _ ((((((Gx.Ext.refl w).trans x3).trans x11).trans x12).trans x13).trans x14))
    refine wp_skip (Z.x (wp_seq (Z.D (fun w' => Gx.Has w' k1 (.cells #[.int .i64 6, .int .i64 n, .int .i64 row, .slice A1 ops.length c1, .slice A2 2 c2] 96) ∧ Gx.Ext w w') (fun w15 x15 zw15 => ?_))))
    refine Z.h ⟨((b2.ext x11).ext x15), ((((Gx.Ext.refl w).trans x3).trans x11).trans x15)⟩ (fun hS15 => ?_)
    refine Z.t 0 (Z.P k1 4) hS15 ?_
    refine Z.tl 1 4 (.slice A2 2 c2) (fun _ hs => hs.1) hS15 ?_
    have p_c99 := h_c99; try simp [-List.getD_eq_getElem?_getD] at p_c99
    obtain ⟨a9, ha9, hc9⟩ := (Gx.Rd.ext ha (by decide) hE) 0 (by omega)
    refine Z.ti 2 96 5 ha9 2 c2 0 hS15 ?_
    refine Gx.any_take 3 ((.agg (cs 0).toArray)) rfl (by kernel_rfl) (by kernel_rfl) (by kernel_rfl) (fun _ _ _ h => h) ⟨((b2.ext x11).ext x15), ((((Gx.Ext.refl w).trans x3).trans x11).trans x15)⟩ (by kernel_rfl) (fun _ hs => Gx.run_loadAgg rfl (by kernel_rfl) 5 (Gx.cells_ext hc9 (by decide) hs.2) (by kernel_rfl)) ?_
    refine Z.h ⟨((b2.ext x11).ext x15), ((((Gx.Ext.refl w).trans x3).trans x11).trans x15)⟩ (fun hS16 => ?_)
    refine Z.t 5 (.string (Z.B [32, 45, 62, 32])) hS16 ?_
    refine Z.t 7 (Z.P k1 4) hS16 ?_
    refine Z.tl 8 4 (.slice A2 2 c2) (fun _ hs => hs.1) hS16 ?_
    obtain ⟨a10, ha10, hc10⟩ := (Gx.Rd.ext ha (by decide) hE) 1 (by omega)
    refine Z.ti 9 96 5 ha10 2 c2 1 hS16 ?_
    refine Gx.any_take 10 ((.agg (cs 1).toArray)) rfl (by kernel_rfl) (by kernel_rfl) (by kernel_rfl) (fun _ _ _ h => h) ⟨((b2.ext x11).ext x15), ((((Gx.Ext.refl w).trans x3).trans x11).trans x15)⟩ (by kernel_rfl) (fun _ hs => Gx.run_loadAgg rfl (by kernel_rfl) 5 (Gx.cells_ext hc10 (by decide) hs.2) (by kernel_rfl)) ?_
    refine Z.o 4 (fun R hR => ihI 0 (by omega) (1 : Int) _ R (Gx.Ext.trans hE ((((Gx.Ext.refl w).trans x3).trans x11).trans x15)) (fun w16 x16  => hR _ _ ⟨⟨(((b2.ext x11).ext x15).ext x16), (((((Gx.Ext.refl w).trans x3).trans x11).trans x15).trans x16)⟩, fun hS17 => ?_⟩))
    have zw16 := x16.size
    refine Z.tc 6 (inP (1 : Int) (args.getD 0 ty0)) (Z.B [32, 45, 62, 32]) hS17 ?_ (by have hd := dig_size (m := row.toNat) (by unfold I64 at hr; omega); simp only [litz4]; omega)
    refine Z.o 11 (fun R hR => ihI 1 (by omega) (0 : Int) _ R (Gx.Ext.trans hE (((((Gx.Ext.refl w).trans x3).trans x11).trans x15).trans x16)) (fun w17 x17  => hR _ _ ⟨⟨((((b2.ext x11).ext x15).ext x16).ext x17), ((((((Gx.Ext.refl w).trans x3).trans x11).trans x15).trans x16).trans x17)⟩, fun hS18 => ?_⟩))
    have zw17 := x17.size
    refine Z.tc 12 ((inP (1 : Int) (args.getD 0 ty0)) ++ (Z.B [32, 45, 62, 32])) (inP (0 : Int) (args.getD 1 ty0)) hS18 ?_ (by have hd := dig_size (m := row.toNat) (by unfold I64 at hr; omega); simp only [ByteArray.size_append, litz4]; omega)
    refine Z.t 13 (.string (((inP (1 : Int) (args.getD 0 ty0)) ++ (Z.B [32, 45, 62, 32])) ++ (inP (0 : Int) (args.getD 1 ty0)))) hS18 ?_
    refine Z.q ?_
    refine Z.x (wp_ret (Z.v (.string (((inP (1 : Int) (args.getD 0 ty0)) ++ (Z.B [32, 45, 62, 32])) ++ (inP (0 : Int) (args.getD 1 ty0)))) ?_))
    exact Gx.ret_as (v' := .string (showP (.mk 6 n row ops args))) (by rw [show_6 hlen]; unfold arrB rowB bS bR bL bE bArr; rw [if_pos (show row > 0 by simpa using h_c87), if_neg (fun q => Bool.false_ne_true (h_c89.symm.trans q)), if_neg (fun q => Bool.false_ne_true (h_c99.symm.trans q))]) (hK _ ((((((Gx.Ext.refl w).trans x3).trans x11).trans x15).trans x16).trans x17))
  refine wp_skip (Z.x (Z.s [(5, .string (Z.B [32, 45, 62, 32]))] ?_))
  refine wp_seq (Z.s [(99, .bool (!((joinB ops).toList == Z.E.toList))), (98, .string (joinB ops))] ?_)
  refine Z.c (!((joinB ops).toList == Z.E.toList)) (fun h_c99 => ?_) (fun h_c99 => ?_)
  · skip
    refine Z.g [0, 1, 2, 3] ?_
    refine Z.p [0] [1, 2, 3] [(100, .string (joinB ops))] ?_
    have p_c87 := h_c87; try simp [-List.getD_eq_getElem?_getD] at p_c87
    have p_c99 := h_c99; try simp [-List.getD_eq_getElem?_getD] at p_c99
    refine Z.C (Z.B [32, 45, 123]) (joinB ops) ?_ (by have hd := dig_size (m := row.toNat) (by unfold I64 at hr; omega); simp only [litz3]; omega)
    refine Z.C ((Z.B [32, 45, 123]) ++ (joinB ops)) (Z.B [125, 45, 62, 32]) ?_ (by have hd := dig_size (m := row.toNat) (by unfold I64 at hr; omega); simp only [ByteArray.size_append, litz3, litz4]; omega)
    refine Z.p [3] [] [(5, .string (((Z.B [32, 45, 123]) ++ (joinB ops)) ++ (Z.B [125, 45, 62, 32])))] ?_
    refine Gx.ops_nil (Z.x (wp_seq (Z.D (fun w' => Gx.Has w' k1 (.cells #[.int .i64 6, .int .i64 n, .int .i64 row, .slice A1 ops.length c1, .slice A2 2 c2] 96) ∧ Gx.Ext w w') (fun w18 x18 zw18 => ?_))))
    refine Z.h ⟨(b2.ext x18), (((Gx.Ext.refl w).trans x3).trans x18)⟩ (fun hS19 => ?_)
    refine Z.t 0 (Z.P k1 4) hS19 ?_
    refine Z.tl 1 4 (.slice A2 2 c2) (fun _ hs => hs.1) hS19 ?_
    obtain ⟨a11, ha11, hc11⟩ := (Gx.Rd.ext ha (by decide) hE) 0 (by omega)
    refine Z.ti 2 96 5 ha11 2 c2 0 hS19 ?_
    refine Gx.any_take 3 ((.agg (cs 0).toArray)) rfl (by kernel_rfl) (by kernel_rfl) (by kernel_rfl) (fun _ _ _ h => h) ⟨(b2.ext x18), (((Gx.Ext.refl w).trans x3).trans x18)⟩ (by kernel_rfl) (fun _ hs => Gx.run_loadAgg rfl (by kernel_rfl) 5 (Gx.cells_ext hc11 (by decide) hs.2) (by kernel_rfl)) ?_
    refine Z.h ⟨(b2.ext x18), (((Gx.Ext.refl w).trans x3).trans x18)⟩ (fun hS20 => ?_)
    refine Z.t 5 (.string (((Z.B [32, 45, 123]) ++ (joinB ops)) ++ (Z.B [125, 45, 62, 32]))) hS20 ?_
    refine Z.t 7 (Z.P k1 4) hS20 ?_
    refine Z.tl 8 4 (.slice A2 2 c2) (fun _ hs => hs.1) hS20 ?_
    obtain ⟨a12, ha12, hc12⟩ := (Gx.Rd.ext ha (by decide) hE) 1 (by omega)
    refine Z.ti 9 96 5 ha12 2 c2 1 hS20 ?_
    refine Gx.any_take 10 ((.agg (cs 1).toArray)) rfl (by kernel_rfl) (by kernel_rfl) (by kernel_rfl) (fun _ _ _ h => h) ⟨(b2.ext x18), (((Gx.Ext.refl w).trans x3).trans x18)⟩ (by kernel_rfl) (fun _ hs => Gx.run_loadAgg rfl (by kernel_rfl) 5 (Gx.cells_ext hc12 (by decide) hs.2) (by kernel_rfl)) ?_
    refine Z.o 4 (fun R hR => ihI 0 (by omega) (1 : Int) _ R (Gx.Ext.trans hE (((Gx.Ext.refl w).trans x3).trans x18)) (fun w19 x19  => hR _ _ ⟨⟨((b2.ext x18).ext x19), ((((Gx.Ext.refl w).trans x3).trans x18).trans x19)⟩, fun hS21 => ?_⟩))
    have zw19 := x19.size
    refine Z.tc 6 (inP (1 : Int) (args.getD 0 ty0)) (((Z.B [32, 45, 123]) ++ (joinB ops)) ++ (Z.B [125, 45, 62, 32])) hS21 ?_ (by have hd := dig_size (m := row.toNat) (by unfold I64 at hr; omega); simp only [ByteArray.size_append, litz3, litz4]; omega)
    refine Z.o 11 (fun R hR => ihI 1 (by omega) (0 : Int) _ R (Gx.Ext.trans hE ((((Gx.Ext.refl w).trans x3).trans x18).trans x19)) (fun w20 x20  => hR _ _ ⟨⟨(((b2.ext x18).ext x19).ext x20), (((((Gx.Ext.refl w).trans x3).trans x18).trans x19).trans x20)⟩, fun hS22 => ?_⟩))
    have zw20 := x20.size
    refine Z.tc 12 ((inP (1 : Int) (args.getD 0 ty0)) ++ (((Z.B [32, 45, 123]) ++ (joinB ops)) ++ (Z.B [125, 45, 62, 32]))) (inP (0 : Int) (args.getD 1 ty0)) hS22 ?_ (by have hd := dig_size (m := row.toNat) (by unfold I64 at hr; omega); simp only [ByteArray.size_append, litz3, litz4]; omega)
    refine Z.t 13 (.string (((inP (1 : Int) (args.getD 0 ty0)) ++ (((Z.B [32, 45, 123]) ++ (joinB ops)) ++ (Z.B [125, 45, 62, 32]))) ++ (inP (0 : Int) (args.getD 1 ty0)))) hS22 ?_
    refine Z.q ?_
    refine Z.x (wp_ret (Z.v (.string (((inP (1 : Int) (args.getD 0 ty0)) ++ (((Z.B [32, 45, 123]) ++ (joinB ops)) ++ (Z.B [125, 45, 62, 32]))) ++ (inP (0 : Int) (args.getD 1 ty0)))) ?_))
    exact Gx.ret_as (v' := .string (showP (.mk 6 n row ops args))) (by rw [show_6 hlen]; unfold arrB rowB bS bR bL bE bArr; rw [if_neg (show ¬ row > 0 by simpa using h_c87), if_pos h_c99]) (hK _ (((((Gx.Ext.refl w).trans x3).trans x18).trans x19).trans x20))
  refine wp_skip (Z.x (wp_seq (Z.D (fun w' => Gx.Has w' k1 (.cells #[.int .i64 6, .int .i64 n, .int .i64 row, .slice A1 ops.length c1, .slice A2 2 c2] 96) ∧ Gx.Ext w w') (fun w21 x21 zw21 => ?_))))
  refine Z.h ⟨(b2.ext x21), (((Gx.Ext.refl w).trans x3).trans x21)⟩ (fun hS23 => ?_)
  refine Z.t 0 (Z.P k1 4) hS23 ?_
  refine Z.tl 1 4 (.slice A2 2 c2) (fun _ hs => hs.1) hS23 ?_
  have p_c87 := h_c87; try simp [-List.getD_eq_getElem?_getD] at p_c87
  have p_c99 := h_c99; try simp [-List.getD_eq_getElem?_getD] at p_c99
  obtain ⟨a13, ha13, hc13⟩ := (Gx.Rd.ext ha (by decide) hE) 0 (by omega)
  refine Z.ti 2 96 5 ha13 2 c2 0 hS23 ?_
  refine Gx.any_take 3 ((.agg (cs 0).toArray)) rfl (by kernel_rfl) (by kernel_rfl) (by kernel_rfl) (fun _ _ _ h => h) ⟨(b2.ext x21), (((Gx.Ext.refl w).trans x3).trans x21)⟩ (by kernel_rfl) (fun _ hs => Gx.run_loadAgg rfl (by kernel_rfl) 5 (Gx.cells_ext hc13 (by decide) hs.2) (by kernel_rfl)) ?_
  refine Z.h ⟨(b2.ext x21), (((Gx.Ext.refl w).trans x3).trans x21)⟩ (fun hS24 => ?_)
  refine Z.t 5 (.string (Z.B [32, 45, 62, 32])) hS24 ?_
  refine Z.t 7 (Z.P k1 4) hS24 ?_
  refine Z.tl 8 4 (.slice A2 2 c2) (fun _ hs => hs.1) hS24 ?_
  obtain ⟨a14, ha14, hc14⟩ := (Gx.Rd.ext ha (by decide) hE) 1 (by omega)
  refine Z.ti 9 96 5 ha14 2 c2 1 hS24 ?_
  refine Gx.any_take 10 ((.agg (cs 1).toArray)) rfl (by kernel_rfl) (by kernel_rfl) (by kernel_rfl) (fun _ _ _ h => h) ⟨(b2.ext x21), (((Gx.Ext.refl w).trans x3).trans x21)⟩ (by kernel_rfl) (fun _ hs => Gx.run_loadAgg rfl (by kernel_rfl) 5 (Gx.cells_ext hc14 (by decide) hs.2) (by kernel_rfl)) ?_
  refine Z.o 4 (fun R hR => ihI 0 (by omega) (1 : Int) _ R (Gx.Ext.trans hE (((Gx.Ext.refl w).trans x3).trans x21)) (fun w22 x22  => hR _ _ ⟨⟨((b2.ext x21).ext x22), ((((Gx.Ext.refl w).trans x3).trans x21).trans x22)⟩, fun hS25 => ?_⟩))
  have zw22 := x22.size
  refine Z.tc 6 (inP (1 : Int) (args.getD 0 ty0)) (Z.B [32, 45, 62, 32]) hS25 ?_ (by have hd := dig_size (m := row.toNat) (by unfold I64 at hr; omega); simp only [litz4]; omega)
  refine Z.o 11 (fun R hR => ihI 1 (by omega) (0 : Int) _ R (Gx.Ext.trans hE ((((Gx.Ext.refl w).trans x3).trans x21).trans x22)) (fun w23 x23  => hR _ _ ⟨⟨(((b2.ext x21).ext x22).ext x23), (((((Gx.Ext.refl w).trans x3).trans x21).trans x22).trans x23)⟩, fun hS26 => ?_⟩))
  have zw23 := x23.size
  refine Z.tc 12 ((inP (1 : Int) (args.getD 0 ty0)) ++ (Z.B [32, 45, 62, 32])) (inP (0 : Int) (args.getD 1 ty0)) hS26 ?_ (by have hd := dig_size (m := row.toNat) (by unfold I64 at hr; omega); simp only [ByteArray.size_append, litz4]; omega)
  refine Z.t 13 (.string (((inP (1 : Int) (args.getD 0 ty0)) ++ (Z.B [32, 45, 62, 32])) ++ (inP (0 : Int) (args.getD 1 ty0)))) hS26 ?_
  refine Z.q ?_
  refine Z.x (wp_ret (Z.v (.string (((inP (1 : Int) (args.getD 0 ty0)) ++ (Z.B [32, 45, 62, 32])) ++ (inP (0 : Int) (args.getD 1 ty0)))) ?_))
  exact Gx.ret_as (v' := .string (showP (.mk 6 n row ops args))) (by rw [show_6 hlen]; unfold arrB rowB bS bR bL bE bArr; rw [if_neg (show ¬ row > 0 by simpa using h_c87), if_neg (fun q => Bool.false_ne_true (h_c99.symm.trans q))]) (hK _ (((((Gx.Ext.refl w).trans x3).trans x21).trans x22).trans x23))
set_option maxHeartbeats 400000 in
set_option maxRecDepth 10000 in
theorem in_c (w0 : World) (k n row : Int) (ops : List ByteArray) (args : List TyP) (A1 A2 : Option Addr) (c1 c2 : Nat) (least : Int) (w : World) (K : Ending → World → Prop) (hE : Gx.Ext w0 w) (hsz : (showP (.mk k n row ops args)).size ≤ 1099511627776) (hS : ∀ (w : World) (K : Ending → World → Prop), Gx.Ext w0 w → (∀ w', Gx.Ext w w' → K (.returned (.string (showP (.mk k n row ops args)))) w') → Calls Tryz.prog 63 #[.agg #[.int .i64 k, .int .i64 n, .int .i64 row, .slice A1 ops.length c1, .slice A2 args.length c2]] w K) (hK : ∀ w', Gx.Ext w w' → K (.returned (.string (inP least (.mk k n row ops args)))) w') :
    Calls Tryz.prog 99 #[.agg #[.int .i64 k, .int .i64 n, .int .i64 row, .slice A1 ops.length c1, .slice A2 args.length c2], .int .i64 least] w K := by
  refine Gx.enter 24 Tryz.func99 rfl rfl (Nat.le_of_ble_eq_true rfl) ?_
  refine Z.r [0, 1] ?_
  refine Z.N (.cells #[.int .i64 k, .int .i64 n, .int .i64 row, .slice A1 ops.length c1, .slice A2 args.length c2] 96) (fun k1 w1 l1 x1 b1 zw1 tb1 => ?_)
  refine Z.p [1] [] [(4, .string Z.E)] ?_
  refine Z.e (Z.s [(5, .int .i64 3)] ?_)
  refine wp_seq (Z.r [0, 1] ?_)
  refine Z.p [0] [1] [(7, Z.P k1 0)] ?_
  refine Z.L 0 (.int .i64 k) b1 ?_
  refine Z.e (wp_block (Z.s [(9, .bool (k == (6 : Int))), (10, .bool (k == (6 : Int)))] ?_))
  refine Z.c (k == (6 : Int)) (fun h_c9 => ?_) (fun h_c9 => ?_)
  · skip
    refine Z.u [(5, .int .i64 0)] ?_
    refine Gx.block_normal (Z.x (Z.r [0, 1, 2] ?_))
    refine Z.L 0 (.agg #[.int .i64 k, .int .i64 n, .int .i64 row, .slice A1 ops.length c1, .slice A2 args.length c2]) b1 ?_
    refine Z.k (fun R hR => hS  _ R (Gx.Ext.trans hE ((Gx.Ext.refl w).trans x1)) (fun w2 x2  => hR _ _ ?_))
    have zw2 := x2.size
    refine Z.p [2] [] [(6, .string (showP (.mk k n row ops args)))] ?_
    refine Z.e (wp_seq (Z.s [(19, .bool (decide ((0 : Int) < least))), (18, .int .i64 least), (17, .int .i64 0)] ?_))
    refine Z.c (decide ((0 : Int) < least)) (fun h_c19 => ?_) (fun h_c19 => ?_)
    · skip
      refine Z.r [0, 1, 2, 3] ?_
      refine Z.p [0] [1, 2, 3] [(20, .string (showP (.mk k n row ops args)))] ?_
      have p_c9 := h_c9; try simp [-List.getD_eq_getElem?_getD] at p_c9
      have p_c19 := h_c19; try simp [-List.getD_eq_getElem?_getD] at p_c19
      refine Z.C (Z.B [40]) (showP (.mk k n row ops args)) ?_ (by simp only [litz1]; omega)
      refine Z.C ((Z.B [40]) ++ (showP (.mk k n row ops args))) (Z.B [41]) ?_ (by simp only [ByteArray.size_append, litz1]; omega)
      refine Z.p [3] [] [(4, .string (((Z.B [40]) ++ (showP (.mk k n row ops args))) ++ (Z.B [41])))] ?_
      refine Z.e (wp_ret (Gx.then_ret (Z.v (.string (((Z.B [40]) ++ (showP (.mk k n row ops args))) ++ (Z.B [41]))) ?_)))
      have hl : lvl k = (0 : Int) := by unfold lvl; simp [p_c9]
      exact Gx.ret_as (v' := .string (inP least (.mk k n row ops args))) (by unfold inP parB; rw [show TyP.kind (.mk k n row ops args) = k from rfl, hl, if_pos (by simpa using h_c19)]; try rfl) (hK _ (((Gx.Ext.refl w).trans x1).trans x2))
    refine wp_skip (Z.x (Z.s [(4, .string (showP (.mk k n row ops args))), (23, .string (showP (.mk k n row ops args)))] ?_))
    refine wp_ret (Z.v (.string (showP (.mk k n row ops args))) ?_)
    have p_c9 := h_c9; try simp [-List.getD_eq_getElem?_getD] at p_c9
    have p_c19 := h_c19; try simp [-List.getD_eq_getElem?_getD] at p_c19
    have hl : lvl k = (0 : Int) := by unfold lvl; simp [p_c9]
    exact Gx.ret_as (v' := .string (inP least (.mk k n row ops args))) (by unfold inP parB; rw [show TyP.kind (.mk k n row ops args) = k from rfl, hl, if_neg (by simpa using h_c19)]; try rfl) (hK _ (((Gx.Ext.refl w).trans x1).trans x2))
  refine Z.s [(11, .bool (k == (5 : Int))), (12, .bool (k == (5 : Int)))] ?_
  refine Z.c (k == (5 : Int)) (fun h_c11 => ?_) (fun h_c11 => ?_)
  · skip
    refine Z.u [(5, .int .i64 1)] ?_
    refine Gx.block_normal (Z.x (Z.r [0, 1, 2] ?_))
    refine Z.L 0 (.agg #[.int .i64 k, .int .i64 n, .int .i64 row, .slice A1 ops.length c1, .slice A2 args.length c2]) b1 ?_
    refine Z.k (fun R hR => hS  _ R (Gx.Ext.trans hE ((Gx.Ext.refl w).trans x1)) (fun w3 x3  => hR _ _ ?_))
    have zw3 := x3.size
    refine Z.p [2] [] [(6, .string (showP (.mk k n row ops args)))] ?_
    refine Z.e (wp_seq (Z.s [(19, .bool (decide ((1 : Int) < least))), (18, .int .i64 least), (17, .int .i64 1)] ?_))
    refine Z.c (decide ((1 : Int) < least)) (fun h_c19 => ?_) (fun h_c19 => ?_)
    · skip
      refine Z.r [0, 1, 2, 3] ?_
      refine Z.p [0] [1, 2, 3] [(20, .string (showP (.mk k n row ops args)))] ?_
      have p_c9 := h_c9; try simp [-List.getD_eq_getElem?_getD] at p_c9
      have p_c11 := h_c11; try simp [-List.getD_eq_getElem?_getD] at p_c11
      have p_c19 := h_c19; try simp [-List.getD_eq_getElem?_getD] at p_c19
      refine Z.C (Z.B [40]) (showP (.mk k n row ops args)) ?_ (by simp only [litz1]; omega)
      refine Z.C ((Z.B [40]) ++ (showP (.mk k n row ops args))) (Z.B [41]) ?_ (by simp only [ByteArray.size_append, litz1]; omega)
      refine Z.p [3] [] [(4, .string (((Z.B [40]) ++ (showP (.mk k n row ops args))) ++ (Z.B [41])))] ?_
      refine Z.e (wp_ret (Gx.then_ret (Z.v (.string (((Z.B [40]) ++ (showP (.mk k n row ops args))) ++ (Z.B [41]))) ?_)))
      have hl : lvl k = (1 : Int) := by unfold lvl; simp [p_c9, p_c11]
      exact Gx.ret_as (v' := .string (inP least (.mk k n row ops args))) (by unfold inP parB; rw [show TyP.kind (.mk k n row ops args) = k from rfl, hl, if_pos (by simpa using h_c19)]; try rfl) (hK _ (((Gx.Ext.refl w).trans x1).trans x3))
    refine wp_skip (Z.x (Z.s [(4, .string (showP (.mk k n row ops args))), (23, .string (showP (.mk k n row ops args)))] ?_))
    refine wp_ret (Z.v (.string (showP (.mk k n row ops args))) ?_)
    have p_c9 := h_c9; try simp [-List.getD_eq_getElem?_getD] at p_c9
    have p_c11 := h_c11; try simp [-List.getD_eq_getElem?_getD] at p_c11
    have p_c19 := h_c19; try simp [-List.getD_eq_getElem?_getD] at p_c19
    have hl : lvl k = (1 : Int) := by unfold lvl; simp [p_c9, p_c11]
    exact Gx.ret_as (v' := .string (inP least (.mk k n row ops args))) (by unfold inP parB; rw [show TyP.kind (.mk k n row ops args) = k from rfl, hl, if_neg (by simpa using h_c19)]; try rfl) (hK _ (((Gx.Ext.refl w).trans x1).trans x3))
  refine Z.s [(13, .bool (k == (4 : Int))), (14, .bool (k == (4 : Int)))] ?_
  refine Z.c (k == (4 : Int)) (fun h_c13 => ?_) (fun h_c13 => ?_)
  · skip
    refine Z.u [(5, .int .i64 2)] ?_
    refine Gx.block_normal (Z.x (Z.r [0, 1, 2] ?_))
    refine Z.L 0 (.agg #[.int .i64 k, .int .i64 n, .int .i64 row, .slice A1 ops.length c1, .slice A2 args.length c2]) b1 ?_
    refine Z.k (fun R hR => hS  _ R (Gx.Ext.trans hE ((Gx.Ext.refl w).trans x1)) (fun w4 x4  => hR _ _ ?_))
    have zw4 := x4.size
    refine Z.p [2] [] [(6, .string (showP (.mk k n row ops args)))] ?_
    refine Z.e (wp_seq (Z.s [(19, .bool (decide ((2 : Int) < least))), (18, .int .i64 least), (17, .int .i64 2)] ?_))
    refine Z.c (decide ((2 : Int) < least)) (fun h_c19 => ?_) (fun h_c19 => ?_)
    · skip
      refine Z.r [0, 1, 2, 3] ?_
      refine Z.p [0] [1, 2, 3] [(20, .string (showP (.mk k n row ops args)))] ?_
      have p_c9 := h_c9; try simp [-List.getD_eq_getElem?_getD] at p_c9
      have p_c11 := h_c11; try simp [-List.getD_eq_getElem?_getD] at p_c11
      have p_c13 := h_c13; try simp [-List.getD_eq_getElem?_getD] at p_c13
      have p_c19 := h_c19; try simp [-List.getD_eq_getElem?_getD] at p_c19
      refine Z.C (Z.B [40]) (showP (.mk k n row ops args)) ?_ (by simp only [litz1]; omega)
      refine Z.C ((Z.B [40]) ++ (showP (.mk k n row ops args))) (Z.B [41]) ?_ (by simp only [ByteArray.size_append, litz1]; omega)
      refine Z.p [3] [] [(4, .string (((Z.B [40]) ++ (showP (.mk k n row ops args))) ++ (Z.B [41])))] ?_
      refine Z.e (wp_ret (Gx.then_ret (Z.v (.string (((Z.B [40]) ++ (showP (.mk k n row ops args))) ++ (Z.B [41]))) ?_)))
      have hl : lvl k = (2 : Int) := by unfold lvl; simp [p_c9, p_c11, p_c13]
      exact Gx.ret_as (v' := .string (inP least (.mk k n row ops args))) (by unfold inP parB; rw [show TyP.kind (.mk k n row ops args) = k from rfl, hl, if_pos (by simpa using h_c19)]; try rfl) (hK _ (((Gx.Ext.refl w).trans x1).trans x4))
    refine wp_skip (Z.x (Z.s [(4, .string (showP (.mk k n row ops args))), (23, .string (showP (.mk k n row ops args)))] ?_))
    refine wp_ret (Z.v (.string (showP (.mk k n row ops args))) ?_)
    have p_c9 := h_c9; try simp [-List.getD_eq_getElem?_getD] at p_c9
    have p_c11 := h_c11; try simp [-List.getD_eq_getElem?_getD] at p_c11
    have p_c13 := h_c13; try simp [-List.getD_eq_getElem?_getD] at p_c13
    have p_c19 := h_c19; try simp [-List.getD_eq_getElem?_getD] at p_c19
    have hl : lvl k = (2 : Int) := by unfold lvl; simp [p_c9, p_c11, p_c13]
    exact Gx.ret_as (v' := .string (inP least (.mk k n row ops args))) (by unfold inP parB; rw [show TyP.kind (.mk k n row ops args) = k from rfl, hl, if_neg (by simpa using h_c19)]; try rfl) (hK _ (((Gx.Ext.refl w).trans x1).trans x4))
  refine wp_skip (Gx.block_normal (Z.x (Z.r [0, 1, 2] ?_)))
  refine Z.L 0 (.agg #[.int .i64 k, .int .i64 n, .int .i64 row, .slice A1 ops.length c1, .slice A2 args.length c2]) b1 ?_
  refine Z.k (fun R hR => hS  _ R (Gx.Ext.trans hE ((Gx.Ext.refl w).trans x1)) (fun w5 x5  => hR _ _ ?_))
  have zw5 := x5.size
  refine Z.p [2] [] [(6, .string (showP (.mk k n row ops args)))] ?_
  refine Z.e (wp_seq (Z.s [(19, .bool (decide ((3 : Int) < least))), (18, .int .i64 least), (17, .int .i64 3)] ?_))
  refine Z.c (decide ((3 : Int) < least)) (fun h_c19 => ?_) (fun h_c19 => ?_)
  · skip
    refine Z.r [0, 1, 2, 3] ?_
    refine Z.p [0] [1, 2, 3] [(20, .string (showP (.mk k n row ops args)))] ?_
    have p_c9 := h_c9; try simp [-List.getD_eq_getElem?_getD] at p_c9
    have p_c11 := h_c11; try simp [-List.getD_eq_getElem?_getD] at p_c11
    have p_c13 := h_c13; try simp [-List.getD_eq_getElem?_getD] at p_c13
    have p_c19 := h_c19; try simp [-List.getD_eq_getElem?_getD] at p_c19
    refine Z.C (Z.B [40]) (showP (.mk k n row ops args)) ?_ (by simp only [litz1]; omega)
    refine Z.C ((Z.B [40]) ++ (showP (.mk k n row ops args))) (Z.B [41]) ?_ (by simp only [ByteArray.size_append, litz1]; omega)
    refine Z.p [3] [] [(4, .string (((Z.B [40]) ++ (showP (.mk k n row ops args))) ++ (Z.B [41])))] ?_
    refine Z.e (wp_ret (Gx.then_ret (Z.v (.string (((Z.B [40]) ++ (showP (.mk k n row ops args))) ++ (Z.B [41]))) ?_)))
    have hl : lvl k = (3 : Int) := by unfold lvl; simp [p_c9, p_c11, p_c13]
    exact Gx.ret_as (v' := .string (inP least (.mk k n row ops args))) (by unfold inP parB; rw [show TyP.kind (.mk k n row ops args) = k from rfl, hl, if_pos (by simpa using h_c19)]; try rfl) (hK _ (((Gx.Ext.refl w).trans x1).trans x5))
  refine wp_skip (Z.x (Z.s [(4, .string (showP (.mk k n row ops args))), (23, .string (showP (.mk k n row ops args)))] ?_))
  refine wp_ret (Z.v (.string (showP (.mk k n row ops args))) ?_)
  have p_c9 := h_c9; try simp [-List.getD_eq_getElem?_getD] at p_c9
  have p_c11 := h_c11; try simp [-List.getD_eq_getElem?_getD] at p_c11
  have p_c13 := h_c13; try simp [-List.getD_eq_getElem?_getD] at p_c13
  have p_c19 := h_c19; try simp [-List.getD_eq_getElem?_getD] at p_c19
  have hl : lvl k = (3 : Int) := by unfold lvl; simp [p_c9, p_c11, p_c13]
  exact Gx.ret_as (v' := .string (inP least (.mk k n row ops args))) (by unfold inP parB; rw [show TyP.kind (.mk k n row ops args) = k from rfl, hl, if_neg (by simpa using h_c19)]; try rfl) (hK _ (((Gx.Ext.refl w).trans x1).trans x5))
theorem show_in {w0 : World} {t : TyP} {v : Value} (h : TyIn w0 t v) (hsz : (showP t).size ≤ 1099511627776) :
    (∀ (w : World) (K : Ending → World → Prop), Gx.Ext w0 w → (∀ w', Gx.Ext w w' → K (.returned (.string (showP t))) w') → Calls Tryz.prog 63 #[v] w K) ∧
    (∀ (least : Int) (w : World) (K : Ending → World → Prop), Gx.Ext w0 w → (∀ w', Gx.Ext w w' → K (.returned (.string (inP least t))) w') → Calls Tryz.prog 99 #[v, .int .i64 least] w K) := by
  induction h with
  | @mk k n row ops args A1 A2 c1 c2 cs hk hn hr hc1 hl hz ho ha hV ih =>
    have hS : ∀ (w : World) (K : Ending → World → Prop), Gx.Ext w0 w → (∀ w', Gx.Ext w w' → K (.returned (.string (showP (.mk k n row ops args)))) w') → Calls Tryz.prog 63 #[.agg #[.int .i64 k, .int .i64 n, .int .i64 row, .slice A1 ops.length c1, .slice A2 args.length c2]] w K := by
      intro w K hE hK
      by_cases hb : (args.length : Int) = arity k
      · have ihI : ∀ i, i < args.length → ∀ (least : Int) (w : World) (K : Ending → World → Prop), Gx.Ext w0 w → (∀ w', Gx.Ext w w' → K (.returned (.string (inP least (args.getD i ty0)))) w') → Calls Tryz.prog 99 #[.agg (cs i).toArray, .int .i64 least] w K :=
          fun i hi => (ih i hi (Nat.le_trans (show_part hb hi) hsz)).2
        rcases arity_range k with ⟨h1, rfl | rfl | rfl | rfl⟩ | ⟨h1, rfl⟩ | ⟨h1, rfl | rfl⟩ | h1
        · have e : args.length = 0 := by omega
          rw [e] at ha ⊢; exact rShow_0 w0 n row ops args A1 A2 c1 c2 cs w K hE e hn hr hl.1 hz ho ha hsz hK
        · have e : args.length = 0 := by omega
          rw [e] at ha ⊢; exact rShow_1 w0 n row ops args A1 A2 c1 c2 cs w K hE e hn hr hl.1 hz ho ha hsz hK
        · have e : args.length = 0 := by omega
          rw [e] at ha ⊢; exact rShow_2 w0 n row ops args A1 A2 c1 c2 cs w K hE e hn hr hl.1 hz ho ha hsz hK
        · have e : args.length = 0 := by omega
          rw [e] at ha ⊢; exact rShow_3 w0 n row ops args A1 A2 c1 c2 cs w K hE e hn hr hl.1 hz ho ha hsz hK
        · have e : args.length = 1 := by omega
          rw [e] at ha ⊢; exact rShow_4 w0 n row ops args A1 A2 c1 c2 cs w K hE e hn hr hl.1 hz ho ha hsz ihI hK
        · have e : args.length = 2 := by omega
          rw [e] at ha ⊢; exact rShow_5 w0 n row ops args A1 A2 c1 c2 cs w K hE e hn hr hl.1 hz ho ha hsz ihI hK
        · have e : args.length = 2 := by omega
          rw [e] at ha ⊢; exact rShow_6 w0 n row ops args A1 A2 c1 c2 cs w K hE e hn hr hl.1 hz ho ha hsz ihI hK
        · omega
      · exact rShow_bad w0 k n row ops args A1 A2 c1 c2 cs w K hb hK
    exact ⟨hS, fun least w K hE hK => in_c w0 k n row ops args A1 A2 c1 c2 least w K hE hsz hS hK⟩
end Go.Proofs.YtdmdecgoebnamaaGreat
