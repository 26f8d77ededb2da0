/- The walks, written by a program of ours (wip/gx/gx.py, lexgen.py). -/
import Derived.Test.YtinilkomfggjiaaDoorRows
import Derived.Test.YtinilkomfggjiaaDoorGs
import Derived.Test.YtinilkomfggjiaaDoorZs
import Derived.Test.YtinilkomfggjiaaDoorLexPlain
set_option linter.unusedVariables false
set_option linter.unusedSimpArgs false
set_option maxHeartbeats 4000000
set_option maxRecDepth 20000
namespace Go.Proofs.YtinilkomfggjiaaDoor
open Go.RowKit Go.Lex
attribute [local irreducible] Go.wpOps Go.Code.wp Go.wpOp Go.wpAnyH Go.Calls
theorem class_c (c : UInt8) (w : World) (K : Ending → World → Prop)  (hK : ∀ w', Gx.Ext w w' → K (.returned (.int .i64 ((cls c : Nat) : Int))) w') :
    Calls Tryd.prog 69 #[.int .u8 ((c).toNat : Int)] w K := by
  refine Z.en 57 Tryd.func69 ?_
  refine Z.s [(2, .int .i64 0)] ?_
  refine wp_seq (wp_block (Gx.cut (d' := []) (n' := 57) (fun l' w' => l' = [(0, .int .u8 ((c).toNat : Int)), (5, .bool ((((((c).toNat : Int) == (9 : Int)) || (((c).toNat : Int) == (10 : Int))) || (((c).toNat : Int) == (13 : Int))) || (((c).toNat : Int) == (32 : Int))))] ∧ w = w') (fun K1 hK1 => ?_) (fun bb1 ll1 w1 hI1 => ?_)))
  · refine Z.g [0, 1, 2, 3, 4, 5, 6, 7, 8, 9, 10, 11, 12, 13, 14] ?_
    refine Z.p [0, 1, 2] [3, 4, 5, 6, 7, 8, 9, 10, 11, 12, 13, 14] [(8, .bool (((c).toNat : Int) == (9 : Int))), (7, .bool (((c).toNat : Int) == (9 : Int))), (6, .int .u8 ((c).toNat : Int))] ?_
    refine Gx.split (((c).toNat : Int) == (9 : Int)) (fun h_g8 => ?_) (fun h_g8 => ?_)
    · rw [h_g8]
      refine Z.p [3, 4, 5, 6, 7, 8, 9, 10, 11, 12, 13, 14] [] [(5, .bool true), (19, .bool true), (18, undef), (17, undef), (16, .bool true), (15, .bool true), (14, undef), (13, undef), (12, .bool true), (11, .bool true), (10, undef), (9, undef)] ?_
      refine Z.e ?_
      rw [Gx.forget [(0, .int .u8 ((c).toNat : Int)), (5, .bool ((((((c).toNat : Int) == (9 : Int)) || (((c).toNat : Int) == (10 : Int))) || (((c).toNat : Int) == (13 : Int))) || (((c).toNat : Int) == (32 : Int))))] (by rw [h_g8]; try kernel_rfl)]
      exact hK1 _ _ _ ⟨rfl, rfl⟩
    rw [h_g8]
    refine Z.p [3, 4, 5, 6] [7, 8, 9, 10, 11, 12, 13, 14] [(12, .bool (((c).toNat : Int) == (10 : Int))), (11, .bool (((c).toNat : Int) == (10 : Int))), (10, .bool (((c).toNat : Int) == (10 : Int))), (9, .int .u8 ((c).toNat : Int))] ?_
    refine Gx.split (((c).toNat : Int) == (10 : Int)) (fun h_g12 => ?_) (fun h_g12 => ?_)
    · rw [h_g12]
      refine Z.p [7, 8, 9, 10, 11, 12, 13, 14] [] [(5, .bool true), (19, .bool true), (18, undef), (17, undef), (16, .bool true), (15, .bool true), (14, undef), (13, undef)] ?_
      refine Z.e ?_
      rw [Gx.forget [(0, .int .u8 ((c).toNat : Int)), (5, .bool ((((((c).toNat : Int) == (9 : Int)) || (((c).toNat : Int) == (10 : Int))) || (((c).toNat : Int) == (13 : Int))) || (((c).toNat : Int) == (32 : Int))))] (by rw [h_g8, h_g12]; try kernel_rfl)]
      exact hK1 _ _ _ ⟨rfl, rfl⟩
    rw [h_g12]
    refine Z.p [7, 8, 9, 10] [11, 12, 13, 14] [(16, .bool (((c).toNat : Int) == (13 : Int))), (15, .bool (((c).toNat : Int) == (13 : Int))), (14, .bool (((c).toNat : Int) == (13 : Int))), (13, .int .u8 ((c).toNat : Int))] ?_
    refine Gx.split (((c).toNat : Int) == (13 : Int)) (fun h_g16 => ?_) (fun h_g16 => ?_)
    · rw [h_g16]
      refine Z.p [11, 12, 13, 14] [] [(5, .bool true), (19, .bool true), (18, undef), (17, undef)] ?_
      refine Z.e ?_
      rw [Gx.forget [(0, .int .u8 ((c).toNat : Int)), (5, .bool ((((((c).toNat : Int) == (9 : Int)) || (((c).toNat : Int) == (10 : Int))) || (((c).toNat : Int) == (13 : Int))) || (((c).toNat : Int) == (32 : Int))))] (by rw [h_g8, h_g12, h_g16]; try kernel_rfl)]
      exact hK1 _ _ _ ⟨rfl, rfl⟩
    rw [h_g16]
    refine Z.p [11, 12, 13, 14] [] [(5, .bool (((c).toNat : Int) == (32 : Int))), (19, .bool (((c).toNat : Int) == (32 : Int))), (18, .bool (((c).toNat : Int) == (32 : Int))), (17, .int .u8 ((c).toNat : Int))] ?_
    refine Z.e ?_
    rw [Gx.forget [(0, .int .u8 ((c).toNat : Int)), (5, .bool ((((((c).toNat : Int) == (9 : Int)) || (((c).toNat : Int) == (10 : Int))) || (((c).toNat : Int) == (13 : Int))) || (((c).toNat : Int) == (32 : Int))))] (by rw [h_g8, h_g12, h_g16]; try kernel_rfl)]
    exact hK1 _ _ _ ⟨rfl, rfl⟩
  obtain ⟨rfl, rfl⟩ := hI1
  refine Z.c ((((((c).toNat : Int) == (9 : Int)) || (((c).toNat : Int) == (10 : Int))) || (((c).toNat : Int) == (13 : Int))) || (((c).toNat : Int) == (32 : Int))) (fun h_c5 => ?_) (fun h_c5 => ?_)
  · skip
    refine Z.s [(2, .int .i64 1)] ?_
    refine wp_ret (Gx.block_ret (Gx.then_ret (Z.v (.int .i64 1) ?_)))
    have p_c5 := h_c5; try simp at p_c5
    exact Gx.ret_as (v' := .int .i64 ((cls c : Nat) : Int)) (by unfold cls; rw [if_pos (show blankB c = true from h_c5)]; rfl) (hK _ (Gx.Ext.refl w))
  refine Z.s [(20, .bool (((c).toNat : Int) == (35 : Int))), (22, .bool (((c).toNat : Int) == (35 : Int))), (21, .int .u8 ((c).toNat : Int))] ?_
  refine Z.c (((c).toNat : Int) == (35 : Int)) (fun h_c20 => ?_) (fun h_c20 => ?_)
  · skip
    refine Z.s [(2, .int .i64 2)] ?_
    refine wp_ret (Gx.block_ret (Gx.then_ret (Z.v (.int .i64 2) ?_)))
    have p_c5 := h_c5; try simp at p_c5
    have p_c20 := h_c20; try simp at p_c20
    exact Gx.ret_as (v' := .int .i64 ((cls c : Nat) : Int)) (by unfold cls; rw [if_neg (by rw [show blankB c = _ from h_c5]; simp), if_pos h_c20]; rfl) (hK _ (Gx.Ext.refl w))
  refine Gx.cut (d' := []) (n' := 57) (fun l' w' => l' = [(0, .int .u8 ((c).toNat : Int)), (23, .bool ((decide (((c).toNat : Int) ≥ (48 : Int))) && (decide (((c).toNat : Int) ≤ (57 : Int)))))] ∧ w = w') (fun K2 hK2 => ?_) (fun bb2 ll2 w2 hI2 => ?_)
  · refine Z.g [0, 1, 2, 3, 4, 5, 6] ?_
    refine Z.p [0, 1, 2] [3, 4, 5, 6] [(26, .bool (decide (((c).toNat : Int) ≥ (48 : Int)))), (25, .bool (decide (((c).toNat : Int) ≥ (48 : Int)))), (24, .int .u8 ((c).toNat : Int))] ?_
    refine Gx.split (decide (((c).toNat : Int) ≥ (48 : Int))) (fun h_g26 => ?_) (fun h_g26 => ?_)
    · rw [h_g26]
      refine Z.p [3, 4, 5, 6] [] [(23, .bool (decide (((c).toNat : Int) ≤ (57 : Int)))), (29, .bool (decide (((c).toNat : Int) ≤ (57 : Int)))), (28, .bool (decide (((c).toNat : Int) ≤ (57 : Int)))), (27, .int .u8 ((c).toNat : Int))] ?_
      refine Z.e ?_
      rw [Gx.forget [(0, .int .u8 ((c).toNat : Int)), (23, .bool ((decide (((c).toNat : Int) ≥ (48 : Int))) && (decide (((c).toNat : Int) ≤ (57 : Int)))))] (by rw [h_g26]; try kernel_rfl)]
      exact hK2 _ _ _ ⟨rfl, rfl⟩
    rw [h_g26]
    refine Z.p [3, 4, 5, 6] [] [(23, .bool false), (29, .bool false), (28, undef), (27, undef)] ?_
    refine Z.e ?_
    rw [Gx.forget [(0, .int .u8 ((c).toNat : Int)), (23, .bool ((decide (((c).toNat : Int) ≥ (48 : Int))) && (decide (((c).toNat : Int) ≤ (57 : Int)))))] (by rw [h_g26]; try kernel_rfl)]
    exact hK2 _ _ _ ⟨rfl, rfl⟩
  obtain ⟨rfl, rfl⟩ := hI2
  refine Z.c ((decide (((c).toNat : Int) ≥ (48 : Int))) && (decide (((c).toNat : Int) ≤ (57 : Int)))) (fun h_c23 => ?_) (fun h_c23 => ?_)
  · skip
    refine Z.s [(2, .int .i64 3)] ?_
    refine wp_ret (Gx.block_ret (Gx.then_ret (Z.v (.int .i64 3) ?_)))
    have p_c5 := h_c5; try simp at p_c5
    have p_c20 := h_c20; try simp at p_c20
    have p_c23 := h_c23; try simp at p_c23
    exact Gx.ret_as (v' := .int .i64 ((cls c : Nat) : Int)) (by unfold cls; rw [if_neg (by rw [show blankB c = _ from h_c5]; simp), if_neg (by rw [h_c20]; simp), if_pos (show digitB c = true from h_c23)]; rfl) (hK _ (Gx.Ext.refl w))
  refine Gx.cut (d' := []) (n' := 57) (fun l' w' => l' = [(0, .int .u8 ((c).toNat : Int)), (30, .bool ((((decide (((c).toNat : Int) ≥ (97 : Int))) && (decide (((c).toNat : Int) ≤ (122 : Int)))) || ((decide (((c).toNat : Int) ≥ (65 : Int))) && (decide (((c).toNat : Int) ≤ (90 : Int))))) || (((c).toNat : Int) == (95 : Int))))] ∧ w = w') (fun K3 hK3 => ?_) (fun bb3 ll3 w3 hI3 => ?_)
  · refine Z.g [0, 1, 2, 3, 4, 5, 6, 7, 8, 9, 10, 11, 12, 13, 14, 15, 16, 17, 18] ?_
    refine Z.p [0, 1, 2] [3, 4, 5, 6, 7, 8, 9, 10, 11, 12, 13, 14, 15, 16, 17, 18] [(33, .bool (decide (((c).toNat : Int) ≥ (97 : Int)))), (32, .bool (decide (((c).toNat : Int) ≥ (97 : Int)))), (31, .int .u8 ((c).toNat : Int))] ?_
    refine Gx.split (decide (((c).toNat : Int) ≥ (97 : Int))) (fun h_g33 => ?_) (fun h_g33 => ?_)
    · rw [h_g33]
      refine Z.p [3, 4, 5, 6] [7, 8, 9, 10, 11, 12, 13, 14, 15, 16, 17, 18] [(37, .bool (decide (((c).toNat : Int) ≤ (122 : Int)))), (36, .bool (decide (((c).toNat : Int) ≤ (122 : Int)))), (35, .bool (decide (((c).toNat : Int) ≤ (122 : Int)))), (34, .int .u8 ((c).toNat : Int))] ?_
      refine Gx.split (decide (((c).toNat : Int) ≤ (122 : Int))) (fun h_g37 => ?_) (fun h_g37 => ?_)
      · rw [h_g37]
        refine Z.p [7, 8, 9, 10, 11, 12, 13, 14, 15, 16, 17, 18] [] [(30, .bool true), (48, .bool true), (47, undef), (46, undef), (45, .bool true), (44, .bool true), (43, undef), (42, undef), (41, undef), (40, undef), (39, undef), (38, undef)] ?_
        refine Z.e ?_
        rw [Gx.forget [(0, .int .u8 ((c).toNat : Int)), (30, .bool ((((decide (((c).toNat : Int) ≥ (97 : Int))) && (decide (((c).toNat : Int) ≤ (122 : Int)))) || ((decide (((c).toNat : Int) ≥ (65 : Int))) && (decide (((c).toNat : Int) ≤ (90 : Int))))) || (((c).toNat : Int) == (95 : Int))))] (by rw [h_g33, h_g37]; try kernel_rfl)]
        exact hK3 _ _ _ ⟨rfl, rfl⟩
      rw [h_g37]
      refine Z.p [7, 8, 9] [10, 11, 12, 13, 14, 15, 16, 17, 18] [(40, .bool (decide (((c).toNat : Int) ≥ (65 : Int)))), (39, .bool (decide (((c).toNat : Int) ≥ (65 : Int)))), (38, .int .u8 ((c).toNat : Int))] ?_
      refine Gx.split (decide (((c).toNat : Int) ≥ (65 : Int))) (fun h_g40 => ?_) (fun h_g40 => ?_)
      · rw [h_g40]
        refine Z.p [10, 11, 12, 13, 14] [15, 16, 17, 18] [(45, .bool (decide (((c).toNat : Int) ≤ (90 : Int)))), (44, .bool (decide (((c).toNat : Int) ≤ (90 : Int)))), (43, .bool (decide (((c).toNat : Int) ≤ (90 : Int)))), (42, .bool (decide (((c).toNat : Int) ≤ (90 : Int)))), (41, .int .u8 ((c).toNat : Int))] ?_
        refine Gx.split (decide (((c).toNat : Int) ≤ (90 : Int))) (fun h_g45 => ?_) (fun h_g45 => ?_)
        · rw [h_g45]
          refine Z.p [15, 16, 17, 18] [] [(30, .bool true), (48, .bool true), (47, undef), (46, undef)] ?_
          refine Z.e ?_
          rw [Gx.forget [(0, .int .u8 ((c).toNat : Int)), (30, .bool ((((decide (((c).toNat : Int) ≥ (97 : Int))) && (decide (((c).toNat : Int) ≤ (122 : Int)))) || ((decide (((c).toNat : Int) ≥ (65 : Int))) && (decide (((c).toNat : Int) ≤ (90 : Int))))) || (((c).toNat : Int) == (95 : Int))))] (by rw [h_g33, h_g37, h_g40, h_g45]; try kernel_rfl)]
          exact hK3 _ _ _ ⟨rfl, rfl⟩
        rw [h_g45]
        refine Z.p [15, 16, 17, 18] [] [(30, .bool (((c).toNat : Int) == (95 : Int))), (48, .bool (((c).toNat : Int) == (95 : Int))), (47, .bool (((c).toNat : Int) == (95 : Int))), (46, .int .u8 ((c).toNat : Int))] ?_
        refine Z.e ?_
        rw [Gx.forget [(0, .int .u8 ((c).toNat : Int)), (30, .bool ((((decide (((c).toNat : Int) ≥ (97 : Int))) && (decide (((c).toNat : Int) ≤ (122 : Int)))) || ((decide (((c).toNat : Int) ≥ (65 : Int))) && (decide (((c).toNat : Int) ≤ (90 : Int))))) || (((c).toNat : Int) == (95 : Int))))] (by rw [h_g33, h_g37, h_g40, h_g45]; try kernel_rfl)]
        exact hK3 _ _ _ ⟨rfl, rfl⟩
      rw [h_g40]
      refine Z.p [10, 11, 12, 13, 14, 15, 16, 17, 18] [] [(30, .bool (((c).toNat : Int) == (95 : Int))), (48, .bool (((c).toNat : Int) == (95 : Int))), (47, .bool (((c).toNat : Int) == (95 : Int))), (46, .int .u8 ((c).toNat : Int)), (45, .bool false), (44, .bool false), (43, .bool false), (42, undef), (41, undef)] ?_
      refine Z.e ?_
      rw [Gx.forget [(0, .int .u8 ((c).toNat : Int)), (30, .bool ((((decide (((c).toNat : Int) ≥ (97 : Int))) && (decide (((c).toNat : Int) ≤ (122 : Int)))) || ((decide (((c).toNat : Int) ≥ (65 : Int))) && (decide (((c).toNat : Int) ≤ (90 : Int))))) || (((c).toNat : Int) == (95 : Int))))] (by rw [h_g33, h_g37, h_g40]; try kernel_rfl)]
      exact hK3 _ _ _ ⟨rfl, rfl⟩
    rw [h_g33]
    refine Z.p [3, 4, 5, 6, 7, 8, 9] [10, 11, 12, 13, 14, 15, 16, 17, 18] [(40, .bool (decide (((c).toNat : Int) ≥ (65 : Int)))), (39, .bool (decide (((c).toNat : Int) ≥ (65 : Int)))), (38, .int .u8 ((c).toNat : Int)), (37, .bool false), (36, .bool false), (35, undef), (34, undef)] ?_
    refine Gx.split (decide (((c).toNat : Int) ≥ (65 : Int))) (fun h_g40 => ?_) (fun h_g40 => ?_)
    · rw [h_g40]
      refine Z.p [10, 11, 12, 13, 14] [15, 16, 17, 18] [(45, .bool (decide (((c).toNat : Int) ≤ (90 : Int)))), (44, .bool (decide (((c).toNat : Int) ≤ (90 : Int)))), (43, .bool (decide (((c).toNat : Int) ≤ (90 : Int)))), (42, .bool (decide (((c).toNat : Int) ≤ (90 : Int)))), (41, .int .u8 ((c).toNat : Int))] ?_
      refine Gx.split (decide (((c).toNat : Int) ≤ (90 : Int))) (fun h_g45 => ?_) (fun h_g45 => ?_)
      · rw [h_g45]
        refine Z.p [15, 16, 17, 18] [] [(30, .bool true), (48, .bool true), (47, undef), (46, undef)] ?_
        refine Z.e ?_
        rw [Gx.forget [(0, .int .u8 ((c).toNat : Int)), (30, .bool ((((decide (((c).toNat : Int) ≥ (97 : Int))) && (decide (((c).toNat : Int) ≤ (122 : Int)))) || ((decide (((c).toNat : Int) ≥ (65 : Int))) && (decide (((c).toNat : Int) ≤ (90 : Int))))) || (((c).toNat : Int) == (95 : Int))))] (by rw [h_g33, h_g40, h_g45]; try kernel_rfl)]
        exact hK3 _ _ _ ⟨rfl, rfl⟩
      rw [h_g45]
      refine Z.p [15, 16, 17, 18] [] [(30, .bool (((c).toNat : Int) == (95 : Int))), (48, .bool (((c).toNat : Int) == (95 : Int))), (47, .bool (((c).toNat : Int) == (95 : Int))), (46, .int .u8 ((c).toNat : Int))] ?_
      refine Z.e ?_
      rw [Gx.forget [(0, .int .u8 ((c).toNat : Int)), (30, .bool ((((decide (((c).toNat : Int) ≥ (97 : Int))) && (decide (((c).toNat : Int) ≤ (122 : Int)))) || ((decide (((c).toNat : Int) ≥ (65 : Int))) && (decide (((c).toNat : Int) ≤ (90 : Int))))) || (((c).toNat : Int) == (95 : Int))))] (by rw [h_g33, h_g40, h_g45]; try kernel_rfl)]
      exact hK3 _ _ _ ⟨rfl, rfl⟩
    rw [h_g40]
    refine Z.p [10, 11, 12, 13, 14, 15, 16, 17, 18] [] [(30, .bool (((c).toNat : Int) == (95 : Int))), (48, .bool (((c).toNat : Int) == (95 : Int))), (47, .bool (((c).toNat : Int) == (95 : Int))), (46, .int .u8 ((c).toNat : Int)), (45, .bool false), (44, .bool false), (43, .bool false), (42, undef), (41, undef)] ?_
    refine Z.e ?_
    rw [Gx.forget [(0, .int .u8 ((c).toNat : Int)), (30, .bool ((((decide (((c).toNat : Int) ≥ (97 : Int))) && (decide (((c).toNat : Int) ≤ (122 : Int)))) || ((decide (((c).toNat : Int) ≥ (65 : Int))) && (decide (((c).toNat : Int) ≤ (90 : Int))))) || (((c).toNat : Int) == (95 : Int))))] (by rw [h_g33, h_g40]; try kernel_rfl)]
    exact hK3 _ _ _ ⟨rfl, rfl⟩
  obtain ⟨rfl, rfl⟩ := hI3
  refine Z.c ((((decide (((c).toNat : Int) ≥ (97 : Int))) && (decide (((c).toNat : Int) ≤ (122 : Int)))) || ((decide (((c).toNat : Int) ≥ (65 : Int))) && (decide (((c).toNat : Int) ≤ (90 : Int))))) || (((c).toNat : Int) == (95 : Int))) (fun h_c30 => ?_) (fun h_c30 => ?_)
  · skip
    refine Z.s [(2, .int .i64 4)] ?_
    refine wp_ret (Gx.block_ret (Gx.then_ret (Z.v (.int .i64 4) ?_)))
    have p_c5 := h_c5; try simp at p_c5
    have p_c20 := h_c20; try simp at p_c20
    have p_c23 := h_c23; try simp at p_c23
    have p_c30 := h_c30; try simp at p_c30
    exact Gx.ret_as (v' := .int .i64 ((cls c : Nat) : Int)) (by unfold cls; rw [if_neg (by rw [show blankB c = _ from h_c5]; simp), if_neg (by rw [h_c20]; simp), if_neg (by rw [show digitB c = _ from h_c23]; simp), if_pos (show letterB c = true from h_c30)]; rfl) (hK _ (Gx.Ext.refl w))
  refine wp_skip (Gx.block_normal (Z.x (wp_seq (Z.r [0] ?_))))
  refine Z.N (.stringIter (Z.B [40, 41, 91, 93, 123, 125, 44, 59, 58, 61, 45, 43, 42, 60, 124, 126]) 0) (fun k1 w4 l1 x1 b1 zw4 tb1 => ?_)
  refine Z.e (wp_block ?_)
  have p_c5 := h_c5; try simp at p_c5
  have p_c20 := h_c20; try simp at p_c20
  have p_c23 := h_c23; try simp at p_c23
  have p_c30 := h_c30; try simp at p_c30
  refine Gx.loop (n' := 57) (d' := []) (fun mz l' w' => ∃ (k : Nat), l' = [(0, .int .u8 ((c).toNat : Int)), (49, Z.P k1 0)] ∧ mz = 16 - k ∧ Gx.Ext w w' ∧ Gx.Has w' k1 (.stringIter sgB k) ∧ (k ≤ 16) ∧ (∀ j, j < k → (Gx.byteAt sgB j).toNat ≠ c.toNat)) _ _ [(0, .int .u8 ((c).toNat : Int)), (49, Z.P k1 0)] (Gx.forget [(0, .int .u8 ((c).toNat : Int)), (49, Z.P k1 0)] (by kernel_rfl)) ⟨0, rfl, rfl, ((Gx.Ext.refl w).trans x1), b1, (by omega), (by intro j hj; omega)⟩ (fun bb4 m1 ll4 w5 hI4 K4 hK4 => ?_)
  obtain ⟨k, rfl, rfl, x2, b2, hk16, hn⟩ := hI4
  have zw5 := x2.size
  have tb2 := b2.lt
  rcases Nat.lt_or_ge k 16 with hk | hk
  · skip
    refine Z.r [0, 1] ?_
    refine Gx.cons (Gx.op_next_as rfl (by kernel_rfl) rfl sgB k (by kernel_rfl) b2 (by rw [sgB_sz]; omega) ((Gx.byteAt sgB k).toNat) 1 (sgB_dec k (by omega)) (fun w6 u1 b3 => ?_))
    have zw6 := u1.size
    refine Z.p [1] [] [(51, .bool true)] ?_
    refine Z.e (wp_seq (Z.ct ?_))
    refine wp_skip (Z.x (wp_block (Z.s [(4, .int .i32 (((Gx.byteAt sgB k).toNat : Nat) : Int)), (52, .int .i32 (((Gx.byteAt sgB k).toNat : Nat) : Int))] ?_)))
    refine Z.r [0, 1, 2, 3] ?_
    refine Z.p [0] [1, 2, 3] [(53, .int .i32 (((Gx.byteAt sgB k).toNat : Nat) : Int))] ?_
    refine Gx.pure_eq [1] [2, 3] [(54, .int .u8 (IntKind.u8.wrap (((Gx.byteAt sgB k).toNat : Nat) : Int)))] [(54, .int .u8 (((Gx.byteAt sgB k).toNat : Nat) : Int))] rfl (by kernel_rfl) (Gx.eqI (IntWalk.u8_in _ (by have := UInt8.toNat_lt (Gx.byteAt sgB k); omega))) ?_
    refine Z.p [2, 3] [] [(56, .bool ((((Gx.byteAt sgB k).toNat : Nat) : Int) == ((c).toNat : Int))), (55, .int .u8 ((c).toNat : Int))] ?_
    refine Z.e (Z.c ((((Gx.byteAt sgB k).toNat : Nat) : Int) == ((c).toNat : Int)) (fun h_c56 => ?_) (fun h_c56 => ?_))
    · skip
      refine Z.s [(2, .int .i64 5)] ?_
      refine wp_ret (Gx.block_ret (Gx.then_ret (Gx.block_ret (Gx.then_ret (Z.v (.int .i64 5) ?_)))))
      have p_c56 := h_c56; try simp at p_c56
      exact Gx.ret_as (v' := .int .i64 ((cls c : Nat) : Int)) (by unfold cls; rw [if_neg (by rw [show blankB c = _ from h_c5]; simp), if_neg (by rw [h_c20]; simp), if_neg (by rw [show digitB c = _ from h_c23]; simp), if_neg (by rw [show letterB c = _ from h_c30]; simp), if_pos (signB_yes hk (by omega))]; rfl) (hK _ (((Gx.Ext.refl w).trans x2).upd1 u1))
    refine wp_skip (Gx.block_normal (Z.x ?_))
    have p_c56 := h_c56; try simp at p_c56
    rw [Gx.forget [(0, .int .u8 ((c).toNat : Int)), (49, Z.P k1 0)] (by kernel_rfl)]
    exact hK4 _ _ _ _ (by omega) ⟨k + 1, rfl, rfl, (((Gx.Ext.refl w).trans x2).upd1 u1), b3, (by omega), (fun j hj => by rcases Nat.lt_or_ge j k with h | h; exact hn j h; (obtain rfl : j = k := by omega); omega)⟩
  refine Z.r [0, 1] ?_
  refine Gx.cons (Gx.op_next_end rfl (by kernel_rfl) rfl sgB k (by kernel_rfl) b2 (by rw [sgB_sz]; omega) ?_)
  refine Z.p [1] [] [(51, .bool false)] ?_
  refine Z.e (wp_seq (Z.cf ?_))
  refine wp_exit (Gx.then_exit (Gx.then_exit (Gx.block_exit (Z.x (Z.s [(2, .int .i64 0)] ?_)))))
  refine wp_ret (Z.v (.int .i64 0) ?_)
  exact Gx.ret_as (v' := .int .i64 ((cls c : Nat) : Int)) (by unfold cls; rw [if_neg (by rw [show blankB c = _ from h_c5]; simp), if_neg (by rw [h_c20]; simp), if_neg (by rw [show digitB c = _ from h_c23]; simp), if_neg (by rw [show letterB c = _ from h_c30]; simp), if_neg (by rw [signB_no (fun j hj => hn j (by omega))]; simp)]; rfl) (hK _ ((Gx.Ext.refl w).trans x2))
theorem longer_c (s : ByteArray) (w : World) (K : Ending → World → Prop)  (hK : K (.returned (.bool (longerB s))) w) :
    Calls Tryd.prog 72 #[.string s] w K := by
  refine Z.en 17 Tryd.func72 ?_
  refine Z.s [(2, .bool false)] ?_
  refine Gx.cut (d' := []) (n' := 17) (fun l' w' => l' = [(2, .bool ((((s.toList == Z.k9.toList) || (s.toList == Z.k8.toList)) || (s.toList == Z.k1.toList)) || (s.toList == Z.k15.toList)))] ∧ w = w') (fun K1 hK1 => ?_) (fun bb1 ll1 w1 hI1 => ?_)
  · refine Z.g [0, 1, 2, 3, 4, 5, 6, 7, 8, 9, 10, 11, 12, 13, 14] ?_
    refine Z.p [0, 1, 2] [3, 4, 5, 6, 7, 8, 9, 10, 11, 12, 13, 14] [(5, .bool (s.toList == Z.k9.toList)), (4, .bool (s.toList == Z.k9.toList)), (3, .string s)] ?_
    refine Gx.split (s.toList == Z.k9.toList) (fun h_g5 => ?_) (fun h_g5 => ?_)
    · rw [h_g5]
      refine Z.p [3, 4, 5, 6, 7, 8, 9, 10, 11, 12, 13, 14] [] [(2, .bool true), (16, .bool true), (15, undef), (14, undef), (13, .bool true), (12, .bool true), (11, undef), (10, undef), (9, .bool true), (8, .bool true), (7, undef), (6, undef)] ?_
      refine Z.e ?_
      rw [Gx.forget [(2, .bool ((((s.toList == Z.k9.toList) || (s.toList == Z.k8.toList)) || (s.toList == Z.k1.toList)) || (s.toList == Z.k15.toList)))] (by rw [h_g5]; try kernel_rfl)]
      exact hK1 _ _ _ ⟨rfl, rfl⟩
    rw [h_g5]
    refine Z.p [3, 4, 5, 6] [7, 8, 9, 10, 11, 12, 13, 14] [(9, .bool (s.toList == Z.k8.toList)), (8, .bool (s.toList == Z.k8.toList)), (7, .bool (s.toList == Z.k8.toList)), (6, .string s)] ?_
    refine Gx.split (s.toList == Z.k8.toList) (fun h_g9 => ?_) (fun h_g9 => ?_)
    · rw [h_g9]
      refine Z.p [7, 8, 9, 10, 11, 12, 13, 14] [] [(2, .bool true), (16, .bool true), (15, undef), (14, undef), (13, .bool true), (12, .bool true), (11, undef), (10, undef)] ?_
      refine Z.e ?_
      rw [Gx.forget [(2, .bool ((((s.toList == Z.k9.toList) || (s.toList == Z.k8.toList)) || (s.toList == Z.k1.toList)) || (s.toList == Z.k15.toList)))] (by rw [h_g5, h_g9]; try kernel_rfl)]
      exact hK1 _ _ _ ⟨rfl, rfl⟩
    rw [h_g9]
    refine Z.p [7, 8, 9, 10] [11, 12, 13, 14] [(13, .bool (s.toList == Z.k1.toList)), (12, .bool (s.toList == Z.k1.toList)), (11, .bool (s.toList == Z.k1.toList)), (10, .string s)] ?_
    refine Gx.split (s.toList == Z.k1.toList) (fun h_g13 => ?_) (fun h_g13 => ?_)
    · rw [h_g13]
      refine Z.p [11, 12, 13, 14] [] [(2, .bool true), (16, .bool true), (15, undef), (14, undef)] ?_
      refine Z.e ?_
      rw [Gx.forget [(2, .bool ((((s.toList == Z.k9.toList) || (s.toList == Z.k8.toList)) || (s.toList == Z.k1.toList)) || (s.toList == Z.k15.toList)))] (by rw [h_g5, h_g9, h_g13]; try kernel_rfl)]
      exact hK1 _ _ _ ⟨rfl, rfl⟩
    rw [h_g13]
    refine Z.p [11, 12, 13, 14] [] [(2, .bool (s.toList == Z.k15.toList)), (16, .bool (s.toList == Z.k15.toList)), (15, .bool (s.toList == Z.k15.toList)), (14, .string s)] ?_
    refine Z.e ?_
    rw [Gx.forget [(2, .bool ((((s.toList == Z.k9.toList) || (s.toList == Z.k8.toList)) || (s.toList == Z.k1.toList)) || (s.toList == Z.k15.toList)))] (by rw [h_g5, h_g9, h_g13]; try kernel_rfl)]
    exact hK1 _ _ _ ⟨rfl, rfl⟩
  obtain ⟨rfl, rfl⟩ := hI1
  refine wp_ret (Z.v (.bool ((((s.toList == Z.k9.toList) || (s.toList == Z.k8.toList)) || (s.toList == Z.k1.toList)) || (s.toList == Z.k15.toList))) ?_)
  exact Gx.ret_as (v' := .bool (longerB s)) (by rfl) (hK)
theorem isWord_c (s : ByteArray) (w : World) (K : Ending → World → Prop)  (hK : ∀ w', Gx.Ext w w' → K (.returned (.bool (wordB s))) w') :
    Calls Tryd.prog 89 #[.string s] w K := by
  refine Z.en 33 Tryd.func89 ?_
  refine Z.s [(2, .bool false)] ?_
  refine wp_seq (Z.s [(3, .string s)] ?_)
  refine wp_block (Gx.cut (d' := []) (n' := 33) (fun l' w' => l' = [(4, .bool (wordB s))] ∧ Gx.Ext w w') (fun K1 hK1 => ?_) (fun bb1 ll1 w1 hI1 => ?_))
  · skip
    refine Z.s [(4, .bool (s.toList == Z.k51.toList)), (5, .bool (s.toList == Z.k51.toList))] ?_
    refine Z.c (s.toList == Z.k51.toList) (fun h_c4 => ?_) (fun h_c4 => ?_)
    · skip
      refine wp_skip (Z.x ?_)
      rw [Gx.forget [(4, .bool (wordB s))] (by rw [wordB_yes 0 _ rfl h_c4, h_c4]; kernel_rfl)]
      exact hK1 _ _ _ ⟨rfl, (Gx.Ext.refl w)⟩
    refine Z.s [(4, .bool (s.toList == Z.k39.toList)), (6, .bool (s.toList == Z.k39.toList))] ?_
    refine Z.c (s.toList == Z.k39.toList) (fun h_c4_1 => ?_) (fun h_c4_1 => ?_)
    · skip
      refine wp_skip (Z.x ?_)
      rw [Gx.forget [(4, .bool (wordB s))] (by rw [wordB_yes 1 _ rfl h_c4_1, h_c4_1]; kernel_rfl)]
      exact hK1 _ _ _ ⟨rfl, (Gx.Ext.refl w)⟩
    refine Z.s [(4, .bool (s.toList == Z.k42.toList)), (7, .bool (s.toList == Z.k42.toList))] ?_
    refine Z.c (s.toList == Z.k42.toList) (fun h_c4_2 => ?_) (fun h_c4_2 => ?_)
    · skip
      refine wp_skip (Z.x ?_)
      rw [Gx.forget [(4, .bool (wordB s))] (by rw [wordB_yes 2 _ rfl h_c4_2, h_c4_2]; kernel_rfl)]
      exact hK1 _ _ _ ⟨rfl, (Gx.Ext.refl w)⟩
    refine Z.s [(4, .bool (s.toList == Z.k43.toList)), (8, .bool (s.toList == Z.k43.toList))] ?_
    refine Z.c (s.toList == Z.k43.toList) (fun h_c4_3 => ?_) (fun h_c4_3 => ?_)
    · skip
      refine wp_skip (Z.x ?_)
      rw [Gx.forget [(4, .bool (wordB s))] (by rw [wordB_yes 3 _ rfl h_c4_3, h_c4_3]; kernel_rfl)]
      exact hK1 _ _ _ ⟨rfl, (Gx.Ext.refl w)⟩
    refine Z.s [(4, .bool (s.toList == Z.k19.toList)), (9, .bool (s.toList == Z.k19.toList))] ?_
    refine Z.c (s.toList == Z.k19.toList) (fun h_c4_4 => ?_) (fun h_c4_4 => ?_)
    · skip
      refine wp_skip (Z.x ?_)
      rw [Gx.forget [(4, .bool (wordB s))] (by rw [wordB_yes 4 _ rfl h_c4_4, h_c4_4]; kernel_rfl)]
      exact hK1 _ _ _ ⟨rfl, (Gx.Ext.refl w)⟩
    refine Z.s [(4, .bool (s.toList == Z.k44.toList)), (10, .bool (s.toList == Z.k44.toList))] ?_
    refine Z.c (s.toList == Z.k44.toList) (fun h_c4_5 => ?_) (fun h_c4_5 => ?_)
    · skip
      refine wp_skip (Z.x ?_)
      rw [Gx.forget [(4, .bool (wordB s))] (by rw [wordB_yes 5 _ rfl h_c4_5, h_c4_5]; kernel_rfl)]
      exact hK1 _ _ _ ⟨rfl, (Gx.Ext.refl w)⟩
    refine Z.s [(4, .bool (s.toList == Z.k12.toList)), (11, .bool (s.toList == Z.k12.toList))] ?_
    refine Z.c (s.toList == Z.k12.toList) (fun h_c4_6 => ?_) (fun h_c4_6 => ?_)
    · skip
      refine wp_skip (Z.x ?_)
      rw [Gx.forget [(4, .bool (wordB s))] (by rw [wordB_yes 6 _ rfl h_c4_6, h_c4_6]; kernel_rfl)]
      exact hK1 _ _ _ ⟨rfl, (Gx.Ext.refl w)⟩
    refine Z.s [(4, .bool (s.toList == Z.k21.toList)), (12, .bool (s.toList == Z.k21.toList))] ?_
    refine Z.c (s.toList == Z.k21.toList) (fun h_c4_7 => ?_) (fun h_c4_7 => ?_)
    · skip
      refine wp_skip (Z.x ?_)
      rw [Gx.forget [(4, .bool (wordB s))] (by rw [wordB_yes 7 _ rfl h_c4_7, h_c4_7]; kernel_rfl)]
      exact hK1 _ _ _ ⟨rfl, (Gx.Ext.refl w)⟩
    refine Z.s [(4, .bool (s.toList == Z.k25.toList)), (13, .bool (s.toList == Z.k25.toList))] ?_
    refine Z.c (s.toList == Z.k25.toList) (fun h_c4_8 => ?_) (fun h_c4_8 => ?_)
    · skip
      refine wp_skip (Z.x ?_)
      rw [Gx.forget [(4, .bool (wordB s))] (by rw [wordB_yes 8 _ rfl h_c4_8, h_c4_8]; kernel_rfl)]
      exact hK1 _ _ _ ⟨rfl, (Gx.Ext.refl w)⟩
    refine Z.s [(4, .bool (s.toList == Z.k28.toList)), (14, .bool (s.toList == Z.k28.toList))] ?_
    refine Z.c (s.toList == Z.k28.toList) (fun h_c4_9 => ?_) (fun h_c4_9 => ?_)
    · skip
      refine wp_skip (Z.x ?_)
      rw [Gx.forget [(4, .bool (wordB s))] (by rw [wordB_yes 9 _ rfl h_c4_9, h_c4_9]; kernel_rfl)]
      exact hK1 _ _ _ ⟨rfl, (Gx.Ext.refl w)⟩
    refine Z.s [(4, .bool (s.toList == Z.k45.toList)), (15, .bool (s.toList == Z.k45.toList))] ?_
    refine Z.c (s.toList == Z.k45.toList) (fun h_c4_10 => ?_) (fun h_c4_10 => ?_)
    · skip
      refine wp_skip (Z.x ?_)
      rw [Gx.forget [(4, .bool (wordB s))] (by rw [wordB_yes 10 _ rfl h_c4_10, h_c4_10]; kernel_rfl)]
      exact hK1 _ _ _ ⟨rfl, (Gx.Ext.refl w)⟩
    refine Z.s [(4, .bool (s.toList == Z.k46.toList)), (16, .bool (s.toList == Z.k46.toList))] ?_
    refine Z.c (s.toList == Z.k46.toList) (fun h_c4_11 => ?_) (fun h_c4_11 => ?_)
    · skip
      refine wp_skip (Z.x ?_)
      rw [Gx.forget [(4, .bool (wordB s))] (by rw [wordB_yes 11 _ rfl h_c4_11, h_c4_11]; kernel_rfl)]
      exact hK1 _ _ _ ⟨rfl, (Gx.Ext.refl w)⟩
    refine Z.s [(4, .bool (s.toList == Z.k32.toList)), (17, .bool (s.toList == Z.k32.toList))] ?_
    refine Z.c (s.toList == Z.k32.toList) (fun h_c4_12 => ?_) (fun h_c4_12 => ?_)
    · skip
      refine wp_skip (Z.x ?_)
      rw [Gx.forget [(4, .bool (wordB s))] (by rw [wordB_yes 12 _ rfl h_c4_12, h_c4_12]; kernel_rfl)]
      exact hK1 _ _ _ ⟨rfl, (Gx.Ext.refl w)⟩
    refine Z.s [(4, .bool (s.toList == Z.k49.toList)), (18, .bool (s.toList == Z.k49.toList))] ?_
    refine Z.c (s.toList == Z.k49.toList) (fun h_c4_13 => ?_) (fun h_c4_13 => ?_)
    · skip
      refine wp_skip (Z.x ?_)
      rw [Gx.forget [(4, .bool (wordB s))] (by rw [wordB_yes 13 _ rfl h_c4_13, h_c4_13]; kernel_rfl)]
      exact hK1 _ _ _ ⟨rfl, (Gx.Ext.refl w)⟩
    refine Z.s [(4, .bool (s.toList == Z.k50.toList)), (19, .bool (s.toList == Z.k50.toList))] ?_
    refine Z.c (s.toList == Z.k50.toList) (fun h_c4_14 => ?_) (fun h_c4_14 => ?_)
    · skip
      refine wp_skip (Z.x ?_)
      rw [Gx.forget [(4, .bool (wordB s))] (by rw [wordB_yes 14 _ rfl h_c4_14, h_c4_14]; kernel_rfl)]
      exact hK1 _ _ _ ⟨rfl, (Gx.Ext.refl w)⟩
    refine Z.s [(4, .bool (s.toList == Z.k38.toList)), (20, .bool (s.toList == Z.k38.toList))] ?_
    refine Z.c (s.toList == Z.k38.toList) (fun h_c4_15 => ?_) (fun h_c4_15 => ?_)
    · skip
      refine wp_skip (Z.x ?_)
      rw [Gx.forget [(4, .bool (wordB s))] (by rw [wordB_yes 15 _ rfl h_c4_15, h_c4_15]; kernel_rfl)]
      exact hK1 _ _ _ ⟨rfl, (Gx.Ext.refl w)⟩
    refine Z.s [(4, .bool (s.toList == Z.k36.toList)), (21, .bool (s.toList == Z.k36.toList))] ?_
    refine Z.c (s.toList == Z.k36.toList) (fun h_c4_16 => ?_) (fun h_c4_16 => ?_)
    · skip
      refine wp_skip (Z.x ?_)
      rw [Gx.forget [(4, .bool (wordB s))] (by rw [wordB_yes 16 _ rfl h_c4_16, h_c4_16]; kernel_rfl)]
      exact hK1 _ _ _ ⟨rfl, (Gx.Ext.refl w)⟩
    refine Z.s [(4, .bool (s.toList == Z.k37.toList)), (22, .bool (s.toList == Z.k37.toList))] ?_
    refine Z.c (s.toList == Z.k37.toList) (fun h_c4_17 => ?_) (fun h_c4_17 => ?_)
    · skip
      refine wp_skip (Z.x ?_)
      rw [Gx.forget [(4, .bool (wordB s))] (by rw [wordB_yes 17 _ rfl h_c4_17, h_c4_17]; kernel_rfl)]
      exact hK1 _ _ _ ⟨rfl, (Gx.Ext.refl w)⟩
    refine Z.s [(4, .bool (s.toList == Z.k27.toList)), (23, .bool (s.toList == Z.k27.toList))] ?_
    refine Z.c (s.toList == Z.k27.toList) (fun h_c4_18 => ?_) (fun h_c4_18 => ?_)
    · skip
      refine wp_skip (Z.x ?_)
      rw [Gx.forget [(4, .bool (wordB s))] (by rw [wordB_yes 18 _ rfl h_c4_18, h_c4_18]; kernel_rfl)]
      exact hK1 _ _ _ ⟨rfl, (Gx.Ext.refl w)⟩
    refine Z.s [(4, .bool (s.toList == Z.k33.toList)), (24, .bool (s.toList == Z.k33.toList))] ?_
    refine Z.c (s.toList == Z.k33.toList) (fun h_c4_19 => ?_) (fun h_c4_19 => ?_)
    · skip
      refine wp_skip (Z.x ?_)
      rw [Gx.forget [(4, .bool (wordB s))] (by rw [wordB_yes 19 _ rfl h_c4_19, h_c4_19]; kernel_rfl)]
      exact hK1 _ _ _ ⟨rfl, (Gx.Ext.refl w)⟩
    refine Z.s [(4, .bool (s.toList == Z.k34.toList)), (25, .bool (s.toList == Z.k34.toList))] ?_
    refine Z.c (s.toList == Z.k34.toList) (fun h_c4_20 => ?_) (fun h_c4_20 => ?_)
    · skip
      refine wp_skip (Z.x ?_)
      rw [Gx.forget [(4, .bool (wordB s))] (by rw [wordB_yes 20 _ rfl h_c4_20, h_c4_20]; kernel_rfl)]
      exact hK1 _ _ _ ⟨rfl, (Gx.Ext.refl w)⟩
    refine Z.s [(4, .bool (s.toList == Z.k35.toList)), (26, .bool (s.toList == Z.k35.toList))] ?_
    refine Z.c (s.toList == Z.k35.toList) (fun h_c4_21 => ?_) (fun h_c4_21 => ?_)
    · skip
      refine wp_skip (Z.x ?_)
      rw [Gx.forget [(4, .bool (wordB s))] (by rw [wordB_yes 21 _ rfl h_c4_21, h_c4_21]; kernel_rfl)]
      exact hK1 _ _ _ ⟨rfl, (Gx.Ext.refl w)⟩
    refine Z.s [(4, .bool (s.toList == Z.k13.toList)), (27, .bool (s.toList == Z.k13.toList))] ?_
    refine Z.c (s.toList == Z.k13.toList) (fun h_c4_22 => ?_) (fun h_c4_22 => ?_)
    · skip
      refine wp_skip (Z.x ?_)
      rw [Gx.forget [(4, .bool (wordB s))] (by rw [wordB_yes 22 _ rfl h_c4_22, h_c4_22]; kernel_rfl)]
      exact hK1 _ _ _ ⟨rfl, (Gx.Ext.refl w)⟩
    refine Z.s [(4, .bool (s.toList == Z.k14.toList)), (28, .bool (s.toList == Z.k14.toList))] ?_
    refine Z.c (s.toList == Z.k14.toList) (fun h_c4_23 => ?_) (fun h_c4_23 => ?_)
    · skip
      refine wp_skip (Z.x ?_)
      rw [Gx.forget [(4, .bool (wordB s))] (by rw [wordB_yes 23 _ rfl h_c4_23, h_c4_23]; kernel_rfl)]
      exact hK1 _ _ _ ⟨rfl, (Gx.Ext.refl w)⟩
    refine Z.s [(4, .bool (s.toList == Z.k23.toList)), (29, .bool (s.toList == Z.k23.toList))] ?_
    refine Z.c (s.toList == Z.k23.toList) (fun h_c4_24 => ?_) (fun h_c4_24 => ?_)
    · skip
      refine wp_skip (Z.x ?_)
      rw [Gx.forget [(4, .bool (wordB s))] (by rw [wordB_yes 24 _ rfl h_c4_24, h_c4_24]; kernel_rfl)]
      exact hK1 _ _ _ ⟨rfl, (Gx.Ext.refl w)⟩
    refine Z.s [(4, .bool (s.toList == Z.k26.toList)), (30, .bool (s.toList == Z.k26.toList))] ?_
    refine Z.c (s.toList == Z.k26.toList) (fun h_c4_25 => ?_) (fun h_c4_25 => ?_)
    · skip
      refine wp_skip (Z.x ?_)
      rw [Gx.forget [(4, .bool (wordB s))] (by rw [wordB_yes 25 _ rfl h_c4_25, h_c4_25]; kernel_rfl)]
      exact hK1 _ _ _ ⟨rfl, (Gx.Ext.refl w)⟩
    refine Z.s [(4, .bool (s.toList == Z.k31.toList)), (31, .bool (s.toList == Z.k31.toList))] ?_
    refine Z.c (s.toList == Z.k31.toList) (fun h_c4_26 => ?_) (fun h_c4_26 => ?_)
    · skip
      refine wp_skip (Z.x ?_)
      rw [Gx.forget [(4, .bool (wordB s))] (by rw [wordB_yes 26 _ rfl h_c4_26, h_c4_26]; kernel_rfl)]
      exact hK1 _ _ _ ⟨rfl, (Gx.Ext.refl w)⟩
    refine Z.u [(4, .bool (s.toList == Z.k41.toList)), (32, .bool (s.toList == Z.k41.toList))] ?_
    refine Z.x ?_
    rw [Gx.forget [(4, .bool (wordB s))] (by rw [show wordB s = _ from wordB_no h_c4 h_c4_1 h_c4_2 h_c4_3 h_c4_4 h_c4_5 h_c4_6 h_c4_7 h_c4_8 h_c4_9 h_c4_10 h_c4_11 h_c4_12 h_c4_13 h_c4_14 h_c4_15 h_c4_16 h_c4_17 h_c4_18 h_c4_19 h_c4_20 h_c4_21 h_c4_22 h_c4_23 h_c4_24 h_c4_25 h_c4_26 _ rfl]; kernel_rfl)]
    exact hK1 _ _ _ ⟨rfl, (Gx.Ext.refl w)⟩
  obtain ⟨rfl, x1⟩ := hI1
  have zw1 := x1.size
  refine Z.c (wordB s) (fun h_c4 => ?_) (fun h_c4 => ?_)
  · skip
    refine Z.s [(2, .bool true)] ?_
    refine wp_ret (Gx.block_ret (Gx.then_ret (Z.v (.bool true) ?_)))
    exact Gx.ret_as (v' := .bool (wordB s)) (by rw [h_c4]) (hK _ ((Gx.Ext.refl w).trans x1))
  refine wp_skip (Gx.block_normal (Z.x (Z.s [(2, .bool false)] ?_)))
  refine wp_ret (Z.v (.bool false) ?_)
  exact Gx.ret_as (v' := .bool (wordB s)) (by rw [h_c4]) (hK _ ((Gx.Ext.refl w).trans x1))
end Go.Proofs.YtinilkomfggjiaaDoor
