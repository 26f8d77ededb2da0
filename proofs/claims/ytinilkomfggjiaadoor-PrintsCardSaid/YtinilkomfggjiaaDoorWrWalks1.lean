/- The walks, written by a program of ours (wip/gx/gx.py, writegen.py). -/
import Derived.Test.YtinilkomfggjiaaDoorRows
import Derived.Test.YtinilkomfggjiaaDoorGs
import Derived.Test.YtinilkomfggjiaaDoorSynWr
set_option linter.unusedVariables false
set_option linter.unusedSimpArgs false
namespace Go.Proofs.YtinilkomfggjiaaDoor
open Go.RowKit Go.Lex Go.Syn
open Go.Show (digB e0 dig_small dig_step app_e0 app_assoc)
attribute [local irreducible] Go.wpOps Go.Code.wp Go.wpOp Go.wpAnyH Go.Calls
set_option maxHeartbeats 400000 in
set_option maxRecDepth 10000 in
theorem digits_c (N : Nat) (w : World) (K : Ending → World → Prop) (hN : N ≤ 9223372036854775807) (hK : ∀ w', Gx.Ext w w' → K (.returned (.string (digB N))) w') :
    Calls Tryd.prog 19 #[Z.n N] w K := by
  refine Gx.enter 17 Tryd.func19 rfl rfl (Nat.le_of_ble_eq_true rfl) ?_
  refine Z.s [(2, .string Z.E)] ?_
  refine Z.s [(3, .string Z.E)] ?_
  refine wp_block (Gx.loop (n' := 17) (d' := []) (fun mz l' w' => ∃ (m : Nat) (s : ByteArray), l' = [(0, Z.n m), (3, .string s)] ∧ mz = 0 + m ∧ Gx.Ext w w' ∧ (digB N = digB m ++ s) ∧ (s.size + m ≤ N) ∧ (m = 0 → s.size = 0)) _ _ [(0, Z.n N), (3, .string e0)] (Gx.forget [(0, Z.n N), (3, .string e0)] (by kernel_rfl)) ⟨N, e0, rfl, rfl, (Gx.Ext.refl w), (app_e0 _).symm, (by show 0 + N ≤ N; omega), (fun _ => rfl)⟩ (fun bb1 m1 ll1 w1 hI1 K1 hK1 => ?_))
  obtain ⟨m, s, rfl, rfl, x1, hd, hs, hs0⟩ := hI1
  have zw1 := x1.size
  refine wp_block (Z.r [0, 1, 2, 3, 4, 5, 6, 7, 8] ?_)
  refine Z.p [0] [1, 2, 3, 4, 5, 6, 7, 8] [(4, Z.n m)] ?_
  refine Gx.pure_eq [1] [2, 3, 4, 5, 6, 7, 8] [(5, .int .i64 (Int.tmod ((m : Nat) : Int) (10 : Int)))] [(5, .int .i64 ((m % 10 : Nat) : Int))] rfl (by kernel_rfl) (Gx.eqI (by rw [IntWalk.rem_in _ _ (by omega)]; omega)) ?_
  refine Gx.pure_eq [2] [3, 4, 5, 6, 7, 8] [(6, .int .i64 (IntKind.i64.wrap ((48 : Int) + ((m % 10 : Nat) : Int))))] [(6, .int .i64 ((48 + m % 10 : Nat) : Int))] rfl (by kernel_rfl) (Gx.eqI (Gx.i64n (by omega) (by omega))) ?_
  refine Gx.pure_eq [3] [4, 5, 6, 7, 8] [(7, .int .u8 (IntKind.u8.wrap ((48 + m % 10 : Nat) : Int)))] [(7, .int .u8 ((48 + m % 10 : Nat) : Int))] rfl (by kernel_rfl) (Gx.eqI (IntWalk.u8_in _ (by omega))) ?_
  refine Z.R (.cells #[.int .u8 ((48 + m % 10 : Nat) : Int)] 5) 1 1 (fun k1 w2 l1 x2 b1 zw2 tb1 => ?_)
  refine Gx.cons (Gx.op_bstr rfl (by kernel_rfl) rfl 5 (by kernel_rfl) (by kernel_rfl) (by kernel_rfl) 0 1 1 (by kernel_rfl) b1 [UInt8.ofNat (48 + m % 10)] rfl (Gx.bstr1 (by omega)) ?_)
  refine Z.p [6] [7, 8] [(10, .string s)] ?_
  refine Z.C (⟨#[UInt8.ofNat (48 + m % 10)]⟩ : ByteArray) s ?_ (by show 1 + s.size ≤ _; omega)
  refine Z.p [8] [] [(3, .string ((⟨#[UInt8.ofNat (48 + m % 10)]⟩ : ByteArray) ++ s))] ?_
  refine Z.e (Z.r [0, 1, 2] ?_)
  refine Z.p [0] [1, 2] [(12, Z.n m)] ?_
  refine Gx.pure_eq [1] [2] [(13, .int .i64 (IntKind.i64.wrap (Int.tdiv ((m : Nat) : Int) (10 : Int))))] [(13, .int .i64 ((m / 10 : Nat) : Int))] rfl (by kernel_rfl) (Gx.eqI (IntWalk.i64_quo _ _ (by omega))) ?_
  refine Z.p [2] [] [(0, .int .i64 ((m / 10 : Nat) : Int))] ?_
  refine Z.e (Z.s [(15, .bool (((m / 10 : Nat) : Int) == (0 : Int))), (14, .int .i64 ((m / 10 : Nat) : Int))] ?_)
  refine Z.c (((m / 10 : Nat) : Int) == (0 : Int)) (fun h_c15 => ?_) (fun h_c15 => ?_)
  · skip
    have n_c15 : m / 10 = 0 := by have z := Gx.k1 h_c15; omega
    refine Z.s [(2, .string ((⟨#[UInt8.ofNat (48 + m % 10)]⟩ : ByteArray) ++ s)), (16, .string ((⟨#[UInt8.ofNat (48 + m % 10)]⟩ : ByteArray) ++ s))] ?_
    refine wp_ret (Gx.block_ret (Gx.then_ret (Gx.block_ret (Z.v (.string ((⟨#[UInt8.ofNat (48 + m % 10)]⟩ : ByteArray) ++ s)) ?_))))
    exact Gx.ret_as (v' := .string (digB N)) (by rw [hd, dig_small (m := m) (by omega), show m % 10 = m by omega]) (hK _ (((Gx.Ext.refl w).trans x1).trans x2))
  have n_c15 : ¬ m / 10 = 0 := by have z := Gx.k0 h_c15; omega
  refine wp_skip (Gx.block_normal (Z.x ?_))
  rw [Gx.forget [(0, .int .i64 (((m / 10) : Nat) : Int)), (3, .string ((⟨#[UInt8.ofNat (48 + m % 10)]⟩ : ByteArray) ++ s))] (by kernel_rfl)]
  exact hK1 _ _ _ _ (by omega) ⟨(m / 10), ((⟨#[UInt8.ofNat (48 + m % 10)]⟩ : ByteArray) ++ s), rfl, rfl, (((Gx.Ext.refl w).trans x1).trans x2), (by rw [hd, dig_step (by omega), app_assoc]), (by rw [ByteArray.size_append]; show 1 + s.size + m / 10 ≤ N; omega), (fun h => by omega)⟩


theorem digits_i (n : Int) (w : World) (K : Ending → World → Prop) (h0 : 0 ≤ n) (h1 : n ≤ 9223372036854775807) (hK : ∀ w', Gx.Ext w w' → K (.returned (.string (digB n.toNat))) w') : Calls Tryd.prog 19 #[.int .i64 n] w K := by
  obtain ⟨m, rfl⟩ := Int.eq_ofNat_of_zero_le h0
  exact digits_c m w K (by omega) hK
def WOK (w0 : World) (t : Nd) (A : Option Addr) (c : Nat) (s : ByteArray) : Prop :=
  ∀ (w : World) (K : Ending → World → Prop), Gx.Ext w0 w → (∀ w', Gx.Ext w w' → K (.returned (.string s)) w') → Calls Tryd.prog 7 #[.agg #[Z.n t.k, Z.n t.a, .string t.nm, .int .i64 t.n, .slice A t.ks.length c]] w K

set_option maxHeartbeats 1000000 in
set_option maxRecDepth 10000 in
theorem level_c (t : Nd) (A : Option Addr) (c : Nat) (w : World) (K : Ending → World → Prop)  (hK : ∀ w', Gx.Ext w w' → K (.returned (.int .i64 (lvl t))) w') :
    Calls Tryd.prog 22 #[.agg #[Z.n t.k, Z.n t.a, .string t.nm, .int .i64 t.n, .slice A t.ks.length c]] w K := by
  refine Gx.enter 37 Tryd.func22 rfl rfl (Nat.le_of_ble_eq_true rfl) ?_
  refine Z.r [0, 1] ?_
  refine Z.N (.cells #[Z.n t.k, Z.n t.a, .string t.nm, .int .i64 t.n, .slice A t.ks.length c] 24) (fun k1 w1 l1 x1 b1 zw1 tb1 => ?_)
  refine Z.p [1] [] [(2, .int .i64 0)] ?_
  refine Z.e (wp_seq (Z.r [0, 1] ?_))
  refine Z.p [0] [1] [(3, Z.P k1 0)] ?_
  refine Z.L 0 (Z.n t.k) b1 ?_
  refine Z.e (wp_block (wp_seq (Z.s [(5, .bool (((t.k : Nat) : Int) == (9 : Int))), (6, .bool (((t.k : Nat) : Int) == (9 : Int)))] ?_)))
  refine Z.c (((t.k : Nat) : Int) == (9 : Int)) (fun h_c5 => ?_) (fun h_c5 => ?_)
  · skip
    have n_c5 : t.k = 9 := by have z := Gx.k1 h_c5; omega
    refine wp_skip (Z.x (Z.c (((t.k : Nat) : Int) == (9 : Int)) (fun hk_ => ?_) (fun hk_ => absurd (h_c5.symm.trans hk_) (by decide))))
    refine Z.s [(2, .int .i64 0)] ?_
    refine wp_ret (Gx.block_ret (Gx.then_ret (Z.v (.int .i64 0) ?_)))
    exact Gx.ret_as (v' := .int .i64 (lvl t)) (by congr 1; unfold lvl; simp [n_c5] <;> (first | assumption | simp_all)) (hK _ ((Gx.Ext.refl w).trans x1))
  have n_c5 : ¬ t.k = 9 := by have z := Gx.k0 h_c5; omega
  refine Z.s [(5, .bool (((t.k : Nat) : Int) == (7 : Int))), (7, .bool (((t.k : Nat) : Int) == (7 : Int)))] ?_
  refine Z.c (((t.k : Nat) : Int) == (7 : Int)) (fun h_c5_1 => ?_) (fun h_c5_1 => ?_)
  · skip
    have n_c5_1 : t.k = 7 := by have z := Gx.k1 h_c5_1; omega
    refine wp_skip (Z.x (Z.c (((t.k : Nat) : Int) == (7 : Int)) (fun hk_ => ?_) (fun hk_ => absurd (h_c5_1.symm.trans hk_) (by decide))))
    refine Z.s [(2, .int .i64 0)] ?_
    refine wp_ret (Gx.block_ret (Gx.then_ret (Z.v (.int .i64 0) ?_)))
    exact Gx.ret_as (v' := .int .i64 (lvl t)) (by congr 1; unfold lvl; simp [n_c5, n_c5_1] <;> (first | assumption | simp_all)) (hK _ ((Gx.Ext.refl w).trans x1))
  have n_c5_1 : ¬ t.k = 7 := by have z := Gx.k0 h_c5_1; omega
  refine Z.s [(5, .bool (((t.k : Nat) : Int) == (11 : Int))), (8, .bool (((t.k : Nat) : Int) == (11 : Int)))] ?_
  refine Z.c (((t.k : Nat) : Int) == (11 : Int)) (fun h_c5_2 => ?_) (fun h_c5_2 => ?_)
  · skip
    have n_c5_2 : t.k = 11 := by have z := Gx.k1 h_c5_2; omega
    refine wp_skip (Z.x (Z.c (((t.k : Nat) : Int) == (11 : Int)) (fun hk_ => ?_) (fun hk_ => absurd (h_c5_2.symm.trans hk_) (by decide))))
    refine Z.s [(2, .int .i64 0)] ?_
    refine wp_ret (Gx.block_ret (Gx.then_ret (Z.v (.int .i64 0) ?_)))
    exact Gx.ret_as (v' := .int .i64 (lvl t)) (by congr 1; unfold lvl; simp [n_c5, n_c5_1, n_c5_2] <;> (first | assumption | simp_all)) (hK _ ((Gx.Ext.refl w).trans x1))
  have n_c5_2 : ¬ t.k = 11 := by have z := Gx.k0 h_c5_2; omega
  refine Z.s [(5, .bool (((t.k : Nat) : Int) == (17 : Int))), (9, .bool (((t.k : Nat) : Int) == (17 : Int)))] ?_
  refine Z.c (((t.k : Nat) : Int) == (17 : Int)) (fun h_c5_3 => ?_) (fun h_c5_3 => ?_)
  · skip
    have n_c5_3 : t.k = 17 := by have z := Gx.k1 h_c5_3; omega
    refine wp_skip (Z.x (Z.c (((t.k : Nat) : Int) == (17 : Int)) (fun hk_ => ?_) (fun hk_ => absurd (h_c5_3.symm.trans hk_) (by decide))))
    refine Z.s [(2, .int .i64 0)] ?_
    refine wp_ret (Gx.block_ret (Gx.then_ret (Z.v (.int .i64 0) ?_)))
    exact Gx.ret_as (v' := .int .i64 (lvl t)) (by congr 1; unfold lvl; simp [n_c5, n_c5_1, n_c5_2, n_c5_3] <;> (first | assumption | simp_all)) (hK _ ((Gx.Ext.refl w).trans x1))
  have n_c5_3 : ¬ t.k = 17 := by have z := Gx.k0 h_c5_3; omega
  refine Z.s [(5, .bool (((t.k : Nat) : Int) == (20 : Int))), (10, .bool (((t.k : Nat) : Int) == (20 : Int)))] ?_
  refine Z.c (((t.k : Nat) : Int) == (20 : Int)) (fun h_c5_4 => ?_) (fun h_c5_4 => ?_)
  · skip
    have n_c5_4 : t.k = 20 := by have z := Gx.k1 h_c5_4; omega
    refine wp_skip (Z.x (Z.c (((t.k : Nat) : Int) == (20 : Int)) (fun hk_ => ?_) (fun hk_ => absurd (h_c5_4.symm.trans hk_) (by decide))))
    refine Z.s [(2, .int .i64 0)] ?_
    refine wp_ret (Gx.block_ret (Gx.then_ret (Z.v (.int .i64 0) ?_)))
    exact Gx.ret_as (v' := .int .i64 (lvl t)) (by congr 1; unfold lvl; simp [n_c5, n_c5_1, n_c5_2, n_c5_3, n_c5_4] <;> (first | assumption | simp_all)) (hK _ ((Gx.Ext.refl w).trans x1))
  have n_c5_4 : ¬ t.k = 20 := by have z := Gx.k0 h_c5_4; omega
  refine Z.s [(5, .bool (((t.k : Nat) : Int) == (10 : Int))), (11, .bool (((t.k : Nat) : Int) == (10 : Int)))] ?_
  refine Z.c (((t.k : Nat) : Int) == (10 : Int)) (fun h_c5_5 => ?_) (fun h_c5_5 => ?_)
  · skip
    have n_c5_5 : t.k = 10 := by have z := Gx.k1 h_c5_5; omega
    refine wp_skip (Z.x (Z.c (((t.k : Nat) : Int) == (10 : Int)) (fun hk_ => ?_) (fun hk_ => absurd (h_c5_5.symm.trans hk_) (by decide))))
    refine Z.s [(2, .int .i64 0)] ?_
    refine wp_ret (Gx.block_ret (Gx.then_ret (Z.v (.int .i64 0) ?_)))
    exact Gx.ret_as (v' := .int .i64 (lvl t)) (by congr 1; unfold lvl; simp [n_c5, n_c5_1, n_c5_2, n_c5_3, n_c5_4, n_c5_5] <;> (first | assumption | simp_all)) (hK _ ((Gx.Ext.refl w).trans x1))
  have n_c5_5 : ¬ t.k = 10 := by have z := Gx.k0 h_c5_5; omega
  refine Z.u [(5, .bool (((t.k : Nat) : Int) == (29 : Int))), (12, .bool (((t.k : Nat) : Int) == (29 : Int)))] ?_
  refine Z.x (Z.c (((t.k : Nat) : Int) == (29 : Int)) (fun h_c5_6 => ?_) (fun h_c5_6 => ?_))
  · skip
    have n_c5_6 : t.k = 29 := by have z := Gx.k1 h_c5_6; omega
    refine Z.s [(2, .int .i64 0)] ?_
    refine wp_ret (Gx.block_ret (Gx.then_ret (Z.v (.int .i64 0) ?_)))
    exact Gx.ret_as (v' := .int .i64 (lvl t)) (by congr 1; unfold lvl; simp [n_c5, n_c5_1, n_c5_2, n_c5_3, n_c5_4, n_c5_5, n_c5_6] <;> (first | assumption | simp_all)) (hK _ ((Gx.Ext.refl w).trans x1))
  have n_c5_6 : ¬ t.k = 29 := by have z := Gx.k0 h_c5_6; omega
  refine Z.s [(13, .bool (((t.k : Nat) : Int) == (28 : Int))), (14, .bool (((t.k : Nat) : Int) == (28 : Int)))] ?_
  refine Z.c (((t.k : Nat) : Int) == (28 : Int)) (fun h_c13 => ?_) (fun h_c13 => ?_)
  · skip
    have n_c13 : t.k = 28 := by have z := Gx.k1 h_c13; omega
    refine Z.s [(2, .int .i64 1)] ?_
    refine wp_ret (Gx.block_ret (Gx.then_ret (Z.v (.int .i64 1) ?_)))
    exact Gx.ret_as (v' := .int .i64 (lvl t)) (by congr 1; unfold lvl; simp [n_c5, n_c5_1, n_c5_2, n_c5_3, n_c5_4, n_c5_5, n_c5_6, n_c13] <;> (first | assumption | simp_all)) (hK _ ((Gx.Ext.refl w).trans x1))
  have n_c13 : ¬ t.k = 28 := by have z := Gx.k0 h_c13; omega
  refine Z.s [(15, .bool (((t.k : Nat) : Int) == (27 : Int))), (16, .bool (((t.k : Nat) : Int) == (27 : Int)))] ?_
  refine Z.c (((t.k : Nat) : Int) == (27 : Int)) (fun h_c15 => ?_) (fun h_c15 => ?_)
  · skip
    have n_c15 : t.k = 27 := by have z := Gx.k1 h_c15; omega
    refine Z.s [(2, .int .i64 2)] ?_
    refine wp_ret (Gx.block_ret (Gx.then_ret (Z.v (.int .i64 2) ?_)))
    exact Gx.ret_as (v' := .int .i64 (lvl t)) (by congr 1; unfold lvl; simp [n_c5, n_c5_1, n_c5_2, n_c5_3, n_c5_4, n_c5_5, n_c5_6, n_c13, n_c15] <;> (first | assumption | simp_all)) (hK _ ((Gx.Ext.refl w).trans x1))
  have n_c15 : ¬ t.k = 27 := by have z := Gx.k0 h_c15; omega
  refine wp_seq (Z.s [(17, .bool (((t.k : Nat) : Int) == (24 : Int))), (18, .bool (((t.k : Nat) : Int) == (24 : Int)))] ?_)
  refine Z.c (((t.k : Nat) : Int) == (24 : Int)) (fun h_c17 => ?_) (fun h_c17 => ?_)
  · skip
    have n_c17 : t.k = 24 := by have z := Gx.k1 h_c17; omega
    refine wp_skip (Z.x (Z.c (((t.k : Nat) : Int) == (24 : Int)) (fun hk_ => ?_) (fun hk_ => absurd (h_c17.symm.trans hk_) (by decide))))
    refine Z.s [(2, .int .i64 3)] ?_
    refine wp_ret (Gx.block_ret (Gx.then_ret (Z.v (.int .i64 3) ?_)))
    exact Gx.ret_as (v' := .int .i64 (lvl t)) (by congr 1; unfold lvl; simp [n_c5, n_c5_1, n_c5_2, n_c5_3, n_c5_4, n_c5_5, n_c5_6, n_c13, n_c15, n_c17] <;> (first | assumption | simp_all)) (hK _ ((Gx.Ext.refl w).trans x1))
  have n_c17 : ¬ t.k = 24 := by have z := Gx.k0 h_c17; omega
  refine Z.s [(17, .bool (((t.k : Nat) : Int) == (25 : Int))), (19, .bool (((t.k : Nat) : Int) == (25 : Int)))] ?_
  refine Z.c (((t.k : Nat) : Int) == (25 : Int)) (fun h_c17_1 => ?_) (fun h_c17_1 => ?_)
  · skip
    have n_c17_1 : t.k = 25 := by have z := Gx.k1 h_c17_1; omega
    refine wp_skip (Z.x (Z.c (((t.k : Nat) : Int) == (25 : Int)) (fun hk_ => ?_) (fun hk_ => absurd (h_c17_1.symm.trans hk_) (by decide))))
    refine Z.s [(2, .int .i64 3)] ?_
    refine wp_ret (Gx.block_ret (Gx.then_ret (Z.v (.int .i64 3) ?_)))
    exact Gx.ret_as (v' := .int .i64 (lvl t)) (by congr 1; unfold lvl; simp [n_c5, n_c5_1, n_c5_2, n_c5_3, n_c5_4, n_c5_5, n_c5_6, n_c13, n_c15, n_c17, n_c17_1] <;> (first | assumption | simp_all)) (hK _ ((Gx.Ext.refl w).trans x1))
  have n_c17_1 : ¬ t.k = 25 := by have z := Gx.k0 h_c17_1; omega
  refine Z.u [(17, .bool (((t.k : Nat) : Int) == (26 : Int))), (20, .bool (((t.k : Nat) : Int) == (26 : Int)))] ?_
  refine Z.x (Z.c (((t.k : Nat) : Int) == (26 : Int)) (fun h_c17_2 => ?_) (fun h_c17_2 => ?_))
  · skip
    have n_c17_2 : t.k = 26 := by have z := Gx.k1 h_c17_2; omega
    refine Z.s [(2, .int .i64 3)] ?_
    refine wp_ret (Gx.block_ret (Gx.then_ret (Z.v (.int .i64 3) ?_)))
    exact Gx.ret_as (v' := .int .i64 (lvl t)) (by congr 1; unfold lvl; simp [n_c5, n_c5_1, n_c5_2, n_c5_3, n_c5_4, n_c5_5, n_c5_6, n_c13, n_c15, n_c17, n_c17_1, n_c17_2] <;> (first | assumption | simp_all)) (hK _ ((Gx.Ext.refl w).trans x1))
  have n_c17_2 : ¬ t.k = 26 := by have z := Gx.k0 h_c17_2; omega
  refine Z.s [(21, .bool (((t.k : Nat) : Int) == (16 : Int))), (22, .bool (((t.k : Nat) : Int) == (16 : Int)))] ?_
  refine Z.c (((t.k : Nat) : Int) == (16 : Int)) (fun h_c21 => ?_) (fun h_c21 => ?_)
  · skip
    have n_c21 : t.k = 16 := by have z := Gx.k1 h_c21; omega
    refine Z.s [(2, .int .i64 2)] ?_
    refine wp_ret (Gx.block_ret (Gx.then_ret (Z.v (.int .i64 2) ?_)))
    exact Gx.ret_as (v' := .int .i64 (lvl t)) (by congr 1; unfold lvl; simp [n_c5, n_c5_1, n_c5_2, n_c5_3, n_c5_4, n_c5_5, n_c5_6, n_c13, n_c15, n_c17, n_c17_1, n_c17_2, n_c21] <;> (first | assumption | simp_all)) (hK _ ((Gx.Ext.refl w).trans x1))
  have n_c21 : ¬ t.k = 16 := by have z := Gx.k0 h_c21; omega
  refine wp_seq (Z.s [(23, .bool (((t.k : Nat) : Int) == (8 : Int))), (24, .bool (((t.k : Nat) : Int) == (8 : Int)))] ?_)
  refine Z.c (((t.k : Nat) : Int) == (8 : Int)) (fun h_c23 => ?_) (fun h_c23 => ?_)
  · skip
    have n_c23 : t.k = 8 := by have z := Gx.k1 h_c23; omega
    refine wp_skip (Z.x (Z.c (((t.k : Nat) : Int) == (8 : Int)) (fun hk_ => ?_) (fun hk_ => absurd (h_c23.symm.trans hk_) (by decide))))
    refine Z.s [(2, .int .i64 5)] ?_
    refine wp_ret (Gx.block_ret (Gx.then_ret (Z.v (.int .i64 5) ?_)))
    exact Gx.ret_as (v' := .int .i64 (lvl t)) (by congr 1; unfold lvl; simp [n_c5, n_c5_1, n_c5_2, n_c5_3, n_c5_4, n_c5_5, n_c5_6, n_c13, n_c15, n_c17, n_c17_1, n_c17_2, n_c21, n_c23] <;> (first | assumption | simp_all)) (hK _ ((Gx.Ext.refl w).trans x1))
  have n_c23 : ¬ t.k = 8 := by have z := Gx.k0 h_c23; omega
  refine Z.s [(23, .bool (((t.k : Nat) : Int) == (19 : Int))), (25, .bool (((t.k : Nat) : Int) == (19 : Int)))] ?_
  refine Z.c (((t.k : Nat) : Int) == (19 : Int)) (fun h_c23_1 => ?_) (fun h_c23_1 => ?_)
  · skip
    have n_c23_1 : t.k = 19 := by have z := Gx.k1 h_c23_1; omega
    refine wp_skip (Z.x (Z.c (((t.k : Nat) : Int) == (19 : Int)) (fun hk_ => ?_) (fun hk_ => absurd (h_c23_1.symm.trans hk_) (by decide))))
    refine Z.s [(2, .int .i64 5)] ?_
    refine wp_ret (Gx.block_ret (Gx.then_ret (Z.v (.int .i64 5) ?_)))
    exact Gx.ret_as (v' := .int .i64 (lvl t)) (by congr 1; unfold lvl; simp [n_c5, n_c5_1, n_c5_2, n_c5_3, n_c5_4, n_c5_5, n_c5_6, n_c13, n_c15, n_c17, n_c17_1, n_c17_2, n_c21, n_c23, n_c23_1] <;> (first | assumption | simp_all)) (hK _ ((Gx.Ext.refl w).trans x1))
  have n_c23_1 : ¬ t.k = 19 := by have z := Gx.k0 h_c23_1; omega
  refine Z.s [(23, .bool (((t.k : Nat) : Int) == (13 : Int))), (26, .bool (((t.k : Nat) : Int) == (13 : Int)))] ?_
  refine Z.c (((t.k : Nat) : Int) == (13 : Int)) (fun h_c23_2 => ?_) (fun h_c23_2 => ?_)
  · skip
    have n_c23_2 : t.k = 13 := by have z := Gx.k1 h_c23_2; omega
    refine wp_skip (Z.x (Z.c (((t.k : Nat) : Int) == (13 : Int)) (fun hk_ => ?_) (fun hk_ => absurd (h_c23_2.symm.trans hk_) (by decide))))
    refine Z.s [(2, .int .i64 5)] ?_
    refine wp_ret (Gx.block_ret (Gx.then_ret (Z.v (.int .i64 5) ?_)))
    exact Gx.ret_as (v' := .int .i64 (lvl t)) (by congr 1; unfold lvl; simp [n_c5, n_c5_1, n_c5_2, n_c5_3, n_c5_4, n_c5_5, n_c5_6, n_c13, n_c15, n_c17, n_c17_1, n_c17_2, n_c21, n_c23, n_c23_1, n_c23_2] <;> (first | assumption | simp_all)) (hK _ ((Gx.Ext.refl w).trans x1))
  have n_c23_2 : ¬ t.k = 13 := by have z := Gx.k0 h_c23_2; omega
  refine Z.u [(23, .bool (((t.k : Nat) : Int) == (14 : Int))), (27, .bool (((t.k : Nat) : Int) == (14 : Int)))] ?_
  refine Z.x (Z.c (((t.k : Nat) : Int) == (14 : Int)) (fun h_c23_3 => ?_) (fun h_c23_3 => ?_))
  · skip
    have n_c23_3 : t.k = 14 := by have z := Gx.k1 h_c23_3; omega
    refine Z.s [(2, .int .i64 5)] ?_
    refine wp_ret (Gx.block_ret (Gx.then_ret (Z.v (.int .i64 5) ?_)))
    exact Gx.ret_as (v' := .int .i64 (lvl t)) (by congr 1; unfold lvl; simp [n_c5, n_c5_1, n_c5_2, n_c5_3, n_c5_4, n_c5_5, n_c5_6, n_c13, n_c15, n_c17, n_c17_1, n_c17_2, n_c21, n_c23, n_c23_1, n_c23_2, n_c23_3] <;> (first | assumption | simp_all)) (hK _ ((Gx.Ext.refl w).trans x1))
  have n_c23_3 : ¬ t.k = 14 := by have z := Gx.k0 h_c23_3; omega
  refine Z.s [(28, .bool (((t.k : Nat) : Int) == (18 : Int))), (29, .bool (((t.k : Nat) : Int) == (18 : Int)))] ?_
  refine Z.c (((t.k : Nat) : Int) == (18 : Int)) (fun h_c28 => ?_) (fun h_c28 => ?_)
  · skip
    have n_c28 : t.k = 18 := by have z := Gx.k1 h_c28; omega
    refine wp_seq (Z.r [0, 1] ?_)
    refine Z.p [0] [1] [(30, Z.P k1 2)] ?_
    refine Z.L 2 (.string t.nm) b1 ?_
    refine Z.e (wp_block (wp_seq (Z.s [(32, .bool (t.nm.toList == (Z.B [61, 61]).toList)), (33, .bool (t.nm.toList == (Z.B [61, 61]).toList))] ?_)))
    refine Z.c (t.nm.toList == (Z.B [61, 61]).toList) (fun h_c32 => ?_) (fun h_c32 => ?_)
    · skip
      refine wp_skip (Z.x (Z.c (t.nm.toList == (Z.B [61, 61]).toList) (fun hk_ => ?_) (fun hk_ => absurd (h_c32.symm.trans hk_) (by decide))))
      refine Z.s [(2, .int .i64 1)] ?_
      refine wp_ret (Gx.block_ret (Gx.then_ret (Gx.block_ret (Gx.then_ret (Z.v (.int .i64 1) ?_)))))
      have q_c32 : t.nm = (Z.B [61, 61]) := beq_tl.1 h_c32
      exact Gx.ret_as (v' := .int .i64 (lvl t)) (by congr 1; unfold lvl; simp [n_c5, n_c5_1, n_c5_2, n_c5_3, n_c5_4, n_c5_5, n_c5_6, n_c13, n_c15, n_c17, n_c17_1, n_c17_2, n_c21, n_c23, n_c23_1, n_c23_2, n_c23_3, n_c28, q_c32] <;> (first | assumption | simp_all)) (hK _ ((Gx.Ext.refl w).trans x1))
    refine Z.u [(32, .bool (t.nm.toList == (Z.B [60]).toList)), (34, .bool (t.nm.toList == (Z.B [60]).toList))] ?_
    refine Z.x (Z.c (t.nm.toList == (Z.B [60]).toList) (fun h_c32_1 => ?_) (fun h_c32_1 => ?_))
    · skip
      refine Z.s [(2, .int .i64 1)] ?_
      refine wp_ret (Gx.block_ret (Gx.then_ret (Gx.block_ret (Gx.then_ret (Z.v (.int .i64 1) ?_)))))
      have q_c32 : ¬ t.nm = (Z.B [61, 61]) := fun e => Bool.false_ne_true (h_c32.symm.trans (beq_tl.2 e))
      have q_c32 : t.nm = (Z.B [60]) := beq_tl.1 h_c32_1
      exact Gx.ret_as (v' := .int .i64 (lvl t)) (by congr 1; unfold lvl; simp [n_c5, n_c5_1, n_c5_2, n_c5_3, n_c5_4, n_c5_5, n_c5_6, n_c13, n_c15, n_c17, n_c17_1, n_c17_2, n_c21, n_c23, n_c23_1, n_c23_2, n_c23_3, n_c28, q_c32, q_c32] <;> (first | assumption | simp_all)) (hK _ ((Gx.Ext.refl w).trans x1))
    refine Z.s [(35, .bool (t.nm.toList == (Z.B [42]).toList)), (36, .bool (t.nm.toList == (Z.B [42]).toList))] ?_
    refine Z.c (t.nm.toList == (Z.B [42]).toList) (fun h_c35 => ?_) (fun h_c35 => ?_)
    · skip
      refine Z.s [(2, .int .i64 4)] ?_
      refine wp_ret (Gx.block_ret (Gx.then_ret (Gx.block_ret (Gx.then_ret (Z.v (.int .i64 4) ?_)))))
      have q_c32 : ¬ t.nm = (Z.B [61, 61]) := fun e => Bool.false_ne_true (h_c32.symm.trans (beq_tl.2 e))
      have q_c32 : ¬ t.nm = (Z.B [60]) := fun e => Bool.false_ne_true (h_c32_1.symm.trans (beq_tl.2 e))
      have q_c35 : t.nm = (Z.B [42]) := beq_tl.1 h_c35
      exact Gx.ret_as (v' := .int .i64 (lvl t)) (by congr 1; unfold lvl; simp [n_c5, n_c5_1, n_c5_2, n_c5_3, n_c5_4, n_c5_5, n_c5_6, n_c13, n_c15, n_c17, n_c17_1, n_c17_2, n_c21, n_c23, n_c23_1, n_c23_2, n_c23_3, n_c28, q_c32, q_c32, q_c35] <;> (first | assumption | simp_all)) (hK _ ((Gx.Ext.refl w).trans x1))
    refine wp_skip (Gx.block_normal (Z.x (Z.s [(2, .int .i64 3)] ?_)))
    refine wp_ret (Gx.block_ret (Gx.then_ret (Z.v (.int .i64 3) ?_)))
    have q_c32 : ¬ t.nm = (Z.B [61, 61]) := fun e => Bool.false_ne_true (h_c32.symm.trans (beq_tl.2 e))
    have q_c32 : ¬ t.nm = (Z.B [60]) := fun e => Bool.false_ne_true (h_c32_1.symm.trans (beq_tl.2 e))
    have q_c35 : ¬ t.nm = (Z.B [42]) := fun e => Bool.false_ne_true (h_c35.symm.trans (beq_tl.2 e))
    exact Gx.ret_as (v' := .int .i64 (lvl t)) (by congr 1; unfold lvl; simp [n_c5, n_c5_1, n_c5_2, n_c5_3, n_c5_4, n_c5_5, n_c5_6, n_c13, n_c15, n_c17, n_c17_1, n_c17_2, n_c21, n_c23, n_c23_1, n_c23_2, n_c23_3, n_c28, q_c32, q_c32, q_c35] <;> (first | assumption | simp_all)) (hK _ ((Gx.Ext.refl w).trans x1))
  have n_c28 : ¬ t.k = 18 := by have z := Gx.k0 h_c28; omega
  refine wp_skip (Gx.block_normal (Z.x (Z.s [(2, .int .i64 6)] ?_)))
  refine wp_ret (Z.v (.int .i64 6) ?_)
  exact Gx.ret_as (v' := .int .i64 (lvl t)) (by congr 1; unfold lvl; simp [n_c5, n_c5_1, n_c5_2, n_c5_3, n_c5_4, n_c5_5, n_c5_6, n_c13, n_c15, n_c17, n_c17_1, n_c17_2, n_c21, n_c23, n_c23_1, n_c23_2, n_c23_3, n_c28] <;> (first | assumption | simp_all)) (hK _ ((Gx.Ext.refl w).trans x1))


theorem level_v (t : Nd) (A : Option Addr) (c : Nat) (L : Int) (w : World) (K : Ending → World → Prop) (h : lvl t = L) (hK : ∀ w', Gx.Ext w w' → K (.returned (.int .i64 L)) w') : Calls Tryd.prog 22 #[.agg #[Z.n t.k, Z.n t.a, .string t.nm, .int .i64 t.n, .slice A t.ks.length c]] w K := by
  subst h
  exact level_c t A c w K hK

set_option maxHeartbeats 400000 in
set_option maxRecDepth 10000 in
theorem in_c (w0 : World) (t : Nd) (A : Option Addr) (c : Nat) (s : ByteArray) (least : Int) (w : World) (K : Ending → World → Prop) (hE : Gx.Ext w0 w) (hW : WOK w0 t A c s) (hsz : s.size ≤ 400000000) (hK : ∀ w', Gx.Ext w w' → K (.returned (.string (inT least t s))) w') :
    Calls Tryd.prog 20 #[.agg #[Z.n t.k, Z.n t.a, .string t.nm, .int .i64 t.n, .slice A t.ks.length c], .int .i64 least] w K := by
  refine Gx.enter 16 Tryd.func20 rfl rfl (Nat.le_of_ble_eq_true rfl) ?_
  refine Z.r [0, 1] ?_
  refine Z.N (.cells #[Z.n t.k, Z.n t.a, .string t.nm, .int .i64 t.n, .slice A t.ks.length c] 24) (fun k1 w1 l1 x1 b1 zw1 tb1 => ?_)
  refine Z.p [1] [] [(4, .string Z.E)] ?_
  refine Z.e (Z.r [0, 1, 2] ?_)
  refine Z.L 0 (.agg #[Z.n t.k, Z.n t.a, .string t.nm, .int .i64 t.n, .slice A t.ks.length c]) b1 ?_
  refine Z.k (fun R hR => hW _ R (Gx.Ext.trans hE ((Gx.Ext.refl w).trans x1)) (fun w2 x2 => hR _ _ ?_))
  have zw2 := x2.size
  refine Z.p [2] [] [(5, .string s)] ?_
  refine Z.e (wp_seq (Z.r [0, 1, 2, 3] ?_))
  refine Z.L 0 (.agg #[Z.n t.k, Z.n t.a, .string t.nm, .int .i64 t.n, .slice A t.ks.length c]) (b1.ext x2) ?_
  refine Z.k (fun R hR => level_c t A c _ R (fun w3 x3 => hR _ _ ?_))
  have zw3 := x3.size
  refine Z.p [2, 3] [] [(11, .bool (decide ((lvl t) < least))), (10, .int .i64 least)] ?_
  refine Z.e (Z.c (decide ((lvl t) < least)) (fun h_c11 => ?_) (fun h_c11 => ?_))
  · skip
    have p_c11 := of_decide_eq_true h_c11
    refine Z.r [0, 1, 2, 3] ?_
    refine Z.p [0] [1, 2, 3] [(12, .string s)] ?_
    refine Z.C (Z.B [40, 32]) s ?_
    refine Z.C ((Z.B [40, 32]) ++ s) (Z.B [32, 41]) ?_
    refine Z.p [3] [] [(4, .string (((Z.B [40, 32]) ++ s) ++ (Z.B [32, 41])))] ?_
    refine Z.e (wp_ret (Gx.then_ret (Z.v (.string (((Z.B [40, 32]) ++ s) ++ (Z.B [32, 41]))) ?_)))
    exact Gx.ret_as (v' := .string (inT least t s)) (by unfold inT; rw [if_pos (by simpa using h_c11)]) (hK _ ((((Gx.Ext.refl w).trans x1).trans x2).trans x3))
  have p_c11 := of_decide_eq_false h_c11
  refine wp_skip (Z.x (Z.s [(4, .string s), (15, .string s)] ?_))
  refine wp_ret (Z.v (.string s) ?_)
  exact Gx.ret_as (v' := .string (inT least t s)) (by unfold inT; rw [if_neg (by simpa using h_c11)]) (hK _ ((((Gx.Ext.refl w).trans x1).trans x2).trans x3))

set_option maxHeartbeats 400000 in
set_option maxRecDepth 10000 in
theorem def_c (w0 : World) (fa : Nat) (fx : ByteArray) (fm : Int) (z : Nd) (sz : ByteArray) (A : Option Addr) (c : Nat) (As : Nat → Option Addr) (cs : Nat → Nat) (w : World) (K : Ending → World → Prop) (hE : Gx.Ext w0 w) (hr : Gx.Rd w0 A 1 5 (fun i => ndC ([z].getD i nd0) (As i) (cs i))) (h0 : WOK w0 z (As 0) (cs 0) sz) (hsz : ((fx ++ (Z.B [32, 61, 32])) ++ sz).size ≤ 400000000) (hK : ∀ w', Gx.Ext w w' → K (.returned (.string ((fx ++ (Z.B [32, 61, 32])) ++ sz))) w') :
    Calls Tryd.prog 21 #[.agg #[.int .i64 7, Z.n fa, .string fx, .int .i64 fm, .slice A 1 c]] w K := by
  refine Gx.enter 24 Tryd.func21 rfl rfl (Nat.le_of_ble_eq_true rfl) ?_
  have hq := hsz; (try simp only [zap, zli, List.length] at hq)
  refine Z.r [0, 1] ?_
  refine Z.N (.cells #[.int .i64 7, Z.n fa, .string fx, .int .i64 fm, .slice A 1 c] 24) (fun k1 w1 l1 x1 b1 zw1 tb1 => ?_)
  refine Z.p [1] [] [(2, .string Z.E)] ?_
  refine Z.e (wp_seq (Z.r [0, 1, 2, 3, 4, 5, 6, 7, 8] ?_))
  refine Z.p [0] [1, 2, 3, 4, 5, 6, 7, 8] [(3, Z.P k1 0)] ?_
  refine Z.L 0 (.int .i64 7) b1 ?_
  refine Z.p [2, 3, 4] [5, 6, 7, 8] [(7, Z.P k1 4), (6, .bool false), (5, .bool false)] ?_
  refine Z.L 4 (.slice A 1 c) b1 ?_
  refine Z.p [6, 7, 8] [] [(11, .bool false), (10, .bool false), (9, .int .i64 1)] ?_
  refine Z.e (Z.cf ?_)
  refine wp_skip (Z.x (wp_seq (Z.D (fun w' => Gx.Has w' k1 (.cells #[.int .i64 7, Z.n fa, .string fx, .int .i64 fm, .slice A 1 c] 24) ∧ Gx.Ext w w') (fun w2 x2 zw2 => ?_))))
  refine Z.h ⟨(b1.ext x2), (((Gx.Ext.refl w).trans x1).trans x2)⟩ (fun hS1 => ?_)
  refine Z.t 0 (Z.P k1 2) hS1 ?_
  refine Z.tl 1 2 (.string fx) (fun _ hs => hs.1) hS1 ?_
  refine Z.tc 2 fx (Z.B [32, 61, 32]) hS1 ?_
  refine Z.t 3 (Z.P k1 4) hS1 ?_
  refine Z.tl 4 4 (.slice A 1 c) (fun _ hs => hs.1) hS1 ?_
  obtain ⟨a1, ha1, hc1⟩ := (Gx.Rd.ext hr (by decide) hE) 0 (by omega)
  refine Z.ti 5 24 5 ha1 1 c 0 hS1 ?_
  refine Z.ta 6 [Z.n z.k, Z.n z.a, .string z.nm, .int .i64 z.n, .slice (As 0) z.ks.length (cs 0)] 5 hc1 (fun _ hs => hs.2) hS1 ?_
  refine Z.o 7 (fun R hR => h0 _ R (Gx.Ext.trans hE (((Gx.Ext.refl w).trans x1).trans x2)) (fun w3 x3 => hR _ _ ⟨⟨((b1.ext x2).ext x3), ((((Gx.Ext.refl w).trans x1).trans x2).trans x3)⟩, fun hS2 => ?_⟩))
  have zw3 := x3.size
  refine Z.tc 8 (fx ++ (Z.B [32, 61, 32])) sz hS2 ?_
  refine Z.t 9 (.string ((fx ++ (Z.B [32, 61, 32])) ++ sz)) hS2 ?_
  refine Z.q ?_
  refine Z.x (wp_ret (Z.v (.string ((fx ++ (Z.B [32, 61, 32])) ++ sz)) ?_))
  exact Gx.ret_as (v' := .string ((fx ++ (Z.B [32, 61, 32])) ++ sz)) (by rfl) (hK _ ((((Gx.Ext.refl w).trans x1).trans x2).trans x3))

set_option maxHeartbeats 400000 in
set_option maxRecDepth 10000 in
theorem rec_c (k a : Nat) (nm : ByteArray) (n : Int) (A : Option Addr) (l c : Nat) (w : World) (K : Ending → World → Prop)  (hK : ∀ w', Gx.Ext w w' → K (.returned (.string (if n = 1 then (Z.B [114, 101, 99, 32]) else Z.E))) w') :
    Calls Tryd.prog 43 #[.agg #[Z.n k, Z.n a, .string nm, .int .i64 n, .slice A l c]] w K := by
  refine Gx.enter 6 Tryd.func43 rfl rfl (Nat.le_of_ble_eq_true rfl) ?_
  refine Z.r [0, 1] ?_
  refine Z.N (.cells #[Z.n k, Z.n a, .string nm, .int .i64 n, .slice A l c] 24) (fun k1 w1 l1 x1 b1 zw1 tb1 => ?_)
  refine Z.p [1] [] [(2, .string Z.E)] ?_
  refine Z.e (wp_seq (Z.r [0, 1, 2] ?_))
  refine Z.p [0] [1, 2] [(3, Z.P k1 3)] ?_
  refine Z.L 3 (.int .i64 n) b1 ?_
  refine Z.p [2] [] [(5, .bool (n == (1 : Int)))] ?_
  refine Z.e (Z.c (n == (1 : Int)) (fun h_c5 => ?_) (fun h_c5 => ?_))
  · skip
    have p_c5 := Gx.k1 h_c5
    refine Z.s [(2, .string (Z.B [114, 101, 99, 32]))] ?_
    refine wp_ret (Gx.then_ret (Z.v (.string (Z.B [114, 101, 99, 32])) ?_))
    exact Gx.ret_as (v' := .string (if n = 1 then (Z.B [114, 101, 99, 32]) else Z.E)) (by rw [if_pos (by simpa using h_c5)]) (hK _ ((Gx.Ext.refl w).trans x1))
  have p_c5 := Gx.k0 h_c5
  refine wp_skip (Z.x (Z.s [(2, .string Z.E)] ?_))
  refine wp_ret (Z.v (.string Z.E) ?_)
  exact Gx.ret_as (v' := .string (if n = 1 then (Z.B [114, 101, 99, 32]) else Z.E)) (by rw [if_neg (by simpa using h_c5)]) (hK _ ((Gx.Ext.refl w).trans x1))


theorem def_k (w0 : World) (e : Nd) (fa : Nat) (fx : ByteArray) (fm : Int) (z : Nd) (sz : ByteArray) (A : Option Addr) (c : Nat) (As : Nat → Option Addr) (cs : Nat → Nat) (he : e = .mk 7 fa fx fm [z]) (w : World) (K : Ending → World → Prop) (hE : Gx.Ext w0 w)
    (hr : Gx.Rd w0 A e.ks.length 5 (fun i => ndC (e.ks.getD i nd0) (As i) (cs i))) (h0 : WOK w0 z (As 0) (cs 0) sz) (hsz : ((fx ++ (Z.B [32, 61, 32])) ++ sz).size ≤ 400000000) (hK : ∀ w', Gx.Ext w w' → K (.returned (.string ((fx ++ (Z.B [32, 61, 32])) ++ sz))) w') :
    Calls Tryd.prog 21 #[.agg #[Z.n e.k, Z.n e.a, .string e.nm, .int .i64 e.n, .slice A e.ks.length c]] w K := by
  subst he
  exact def_c w0 fa fx fm z sz A c As cs w K hE hr h0 hsz hK

end Go.Proofs.YtinilkomfggjiaaDoor
