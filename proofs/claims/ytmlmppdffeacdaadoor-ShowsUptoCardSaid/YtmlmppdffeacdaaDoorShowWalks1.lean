/- The walks of the functions that show types, written by a program of ours (wip/gx/gx.py, wip/shows/showgen.py). -/
import Derived.Test.YtmlmppdffeacdaaDoorRows
import Derived.Test.YtmlmppdffeacdaaDoorGw
import Derived.Test.YtmlmppdffeacdaaDoorShowPlain
namespace Go.Proofs.YtmlmppdffeacdaaDoor
open Go.RowKit Go.Show
attribute [local irreducible] Go.wpOps Go.Code.wp Go.wpOp Go.wpAnyH Go.Calls
set_option maxHeartbeats 400000 in
set_option maxRecDepth 10000 in
theorem args_c (k : Int) (w : World) (K : Ending → World → Prop)  (hK : K (.returned (.int .i64 (arity k))) w) :
    Calls Tryd.prog 10 #[.int .i64 k] w K := by
  refine Gx.enter 14 Tryd.func10 rfl rfl (Nat.le_of_ble_eq_true rfl) ?_
  refine Gx.seq_run [(2, .int .i64 0)] (by kernel_rfl) ?_
  refine wp_seq ?_
  refine Gx.seq_run [(3, .int .i64 k)] (by kernel_rfl) ?_
  refine wp_block ?_
  refine wp_seq ?_
  refine Gx.seq_run [(4, .bool (k == (0 : Int))), (5, .bool (k == (0 : Int)))] (by kernel_rfl) ?_
  refine Gx.cond (k == (0 : Int)) (by kernel_rfl) (fun h_c4 => ?_) (fun h_c4 => ?_)
  · skip
    refine wp_skip ?_
    refine Gx.then_normal ?_
    refine Gx.cond (k == (0 : Int)) (by kernel_rfl) (fun hk_ => ?_) (fun hk_ => absurd (h_c4.symm.trans hk_) (by decide))
    refine Gx.seq_run [(2, .int .i64 0)] (by kernel_rfl) ?_
    refine wp_ret ?_
    refine Gx.block_ret ?_
    refine Gx.then_ret ?_
    refine Gx.ret (v := .int .i64 0) (Gx.res1 rfl (by kernel_rfl)) ?_
    have p_c4 := h_c4; try simp [-List.getD_eq_getElem?_getD] at p_c4
    exact Gx.ret_as (v' := .int .i64 (arity k)) (by congr 1; simp [arity, *]) (hK)
  refine Gx.seq_run [(4, .bool (k == (1 : Int))), (6, .bool (k == (1 : Int)))] (by kernel_rfl) ?_
  refine Gx.cond (k == (1 : Int)) (by kernel_rfl) (fun h_c4_1 => ?_) (fun h_c4_1 => ?_)
  · skip
    refine wp_skip ?_
    refine Gx.then_normal ?_
    refine Gx.cond (k == (1 : Int)) (by kernel_rfl) (fun hk_ => ?_) (fun hk_ => absurd (h_c4_1.symm.trans hk_) (by decide))
    refine Gx.seq_run [(2, .int .i64 0)] (by kernel_rfl) ?_
    refine wp_ret ?_
    refine Gx.block_ret ?_
    refine Gx.then_ret ?_
    refine Gx.ret (v := .int .i64 0) (Gx.res1 rfl (by kernel_rfl)) ?_
    have p_c4 := h_c4; try simp [-List.getD_eq_getElem?_getD] at p_c4
    have p_c4_1 := h_c4_1; try simp [-List.getD_eq_getElem?_getD] at p_c4_1
    exact Gx.ret_as (v' := .int .i64 (arity k)) (by congr 1; simp [arity, *]) (hK)
  refine Gx.seq_run [(4, .bool (k == (2 : Int))), (7, .bool (k == (2 : Int)))] (by kernel_rfl) ?_
  refine Gx.cond (k == (2 : Int)) (by kernel_rfl) (fun h_c4_2 => ?_) (fun h_c4_2 => ?_)
  · skip
    refine wp_skip ?_
    refine Gx.then_normal ?_
    refine Gx.cond (k == (2 : Int)) (by kernel_rfl) (fun hk_ => ?_) (fun hk_ => absurd (h_c4_2.symm.trans hk_) (by decide))
    refine Gx.seq_run [(2, .int .i64 0)] (by kernel_rfl) ?_
    refine wp_ret ?_
    refine Gx.block_ret ?_
    refine Gx.then_ret ?_
    refine Gx.ret (v := .int .i64 0) (Gx.res1 rfl (by kernel_rfl)) ?_
    have p_c4 := h_c4; try simp [-List.getD_eq_getElem?_getD] at p_c4
    have p_c4_1 := h_c4_1; try simp [-List.getD_eq_getElem?_getD] at p_c4_1
    have p_c4_2 := h_c4_2; try simp [-List.getD_eq_getElem?_getD] at p_c4_2
    exact Gx.ret_as (v' := .int .i64 (arity k)) (by congr 1; simp [arity, *]) (hK)
  refine Gx.reg_run [(4, .bool (k == (3 : Int))), (8, .bool (k == (3 : Int)))] (by kernel_rfl) ?_
  refine Gx.then_normal ?_
  refine Gx.cond (k == (3 : Int)) (by kernel_rfl) (fun h_c4_3 => ?_) (fun h_c4_3 => ?_)
  · skip
    refine Gx.seq_run [(2, .int .i64 0)] (by kernel_rfl) ?_
    refine wp_ret ?_
    refine Gx.block_ret ?_
    refine Gx.then_ret ?_
    refine Gx.ret (v := .int .i64 0) (Gx.res1 rfl (by kernel_rfl)) ?_
    have p_c4 := h_c4; try simp [-List.getD_eq_getElem?_getD] at p_c4
    have p_c4_1 := h_c4_1; try simp [-List.getD_eq_getElem?_getD] at p_c4_1
    have p_c4_2 := h_c4_2; try simp [-List.getD_eq_getElem?_getD] at p_c4_2
    have p_c4_3 := h_c4_3; try simp [-List.getD_eq_getElem?_getD] at p_c4_3
    exact Gx.ret_as (v' := .int .i64 (arity k)) (by congr 1; simp [arity, *]) (hK)
  refine Gx.seq_run [(9, .bool (k == (4 : Int))), (10, .bool (k == (4 : Int)))] (by kernel_rfl) ?_
  refine Gx.cond (k == (4 : Int)) (by kernel_rfl) (fun h_c9 => ?_) (fun h_c9 => ?_)
  · skip
    refine Gx.seq_run [(2, .int .i64 1)] (by kernel_rfl) ?_
    refine wp_ret ?_
    refine Gx.block_ret ?_
    refine Gx.then_ret ?_
    refine Gx.ret (v := .int .i64 1) (Gx.res1 rfl (by kernel_rfl)) ?_
    have p_c4 := h_c4; try simp [-List.getD_eq_getElem?_getD] at p_c4
    have p_c4_1 := h_c4_1; try simp [-List.getD_eq_getElem?_getD] at p_c4_1
    have p_c4_2 := h_c4_2; try simp [-List.getD_eq_getElem?_getD] at p_c4_2
    have p_c4_3 := h_c4_3; try simp [-List.getD_eq_getElem?_getD] at p_c4_3
    have p_c9 := h_c9; try simp [-List.getD_eq_getElem?_getD] at p_c9
    exact Gx.ret_as (v' := .int .i64 (arity k)) (by congr 1; simp [arity, *]) (hK)
  refine wp_seq ?_
  refine Gx.seq_run [(11, .bool (k == (5 : Int))), (12, .bool (k == (5 : Int)))] (by kernel_rfl) ?_
  refine Gx.cond (k == (5 : Int)) (by kernel_rfl) (fun h_c11 => ?_) (fun h_c11 => ?_)
  · skip
    refine wp_skip ?_
    refine Gx.then_normal ?_
    refine Gx.cond (k == (5 : Int)) (by kernel_rfl) (fun hk_ => ?_) (fun hk_ => absurd (h_c11.symm.trans hk_) (by decide))
    refine Gx.seq_run [(2, .int .i64 2)] (by kernel_rfl) ?_
    refine wp_ret ?_
    refine Gx.block_ret ?_
    refine Gx.then_ret ?_
    refine Gx.ret (v := .int .i64 2) (Gx.res1 rfl (by kernel_rfl)) ?_
    have p_c4 := h_c4; try simp [-List.getD_eq_getElem?_getD] at p_c4
    have p_c4_1 := h_c4_1; try simp [-List.getD_eq_getElem?_getD] at p_c4_1
    have p_c4_2 := h_c4_2; try simp [-List.getD_eq_getElem?_getD] at p_c4_2
    have p_c4_3 := h_c4_3; try simp [-List.getD_eq_getElem?_getD] at p_c4_3
    have p_c9 := h_c9; try simp [-List.getD_eq_getElem?_getD] at p_c9
    have p_c11 := h_c11; try simp [-List.getD_eq_getElem?_getD] at p_c11
    exact Gx.ret_as (v' := .int .i64 (arity k)) (by congr 1; simp [arity, *]) (hK)
  refine Gx.reg_run [(11, .bool (k == (6 : Int))), (13, .bool (k == (6 : Int)))] (by kernel_rfl) ?_
  refine Gx.then_normal ?_
  refine Gx.cond (k == (6 : Int)) (by kernel_rfl) (fun h_c11_1 => ?_) (fun h_c11_1 => ?_)
  · skip
    refine Gx.seq_run [(2, .int .i64 2)] (by kernel_rfl) ?_
    refine wp_ret ?_
    refine Gx.block_ret ?_
    refine Gx.then_ret ?_
    refine Gx.ret (v := .int .i64 2) (Gx.res1 rfl (by kernel_rfl)) ?_
    have p_c4 := h_c4; try simp [-List.getD_eq_getElem?_getD] at p_c4
    have p_c4_1 := h_c4_1; try simp [-List.getD_eq_getElem?_getD] at p_c4_1
    have p_c4_2 := h_c4_2; try simp [-List.getD_eq_getElem?_getD] at p_c4_2
    have p_c4_3 := h_c4_3; try simp [-List.getD_eq_getElem?_getD] at p_c4_3
    have p_c9 := h_c9; try simp [-List.getD_eq_getElem?_getD] at p_c9
    have p_c11 := h_c11; try simp [-List.getD_eq_getElem?_getD] at p_c11
    have p_c11_1 := h_c11_1; try simp [-List.getD_eq_getElem?_getD] at p_c11_1
    exact Gx.ret_as (v' := .int .i64 (arity k)) (by congr 1; simp [arity, *]) (hK)
  refine wp_skip ?_
  refine Gx.block_normal ?_
  refine Gx.then_normal ?_
  refine Gx.seq_run [(2, .int .i64 (-1))] (by kernel_rfl) ?_
  refine wp_ret ?_
  refine Gx.ret (v := .int .i64 (-1)) (Gx.res1 rfl (by kernel_rfl)) ?_
  have p_c4 := h_c4; try simp [-List.getD_eq_getElem?_getD] at p_c4
  have p_c4_1 := h_c4_1; try simp [-List.getD_eq_getElem?_getD] at p_c4_1
  have p_c4_2 := h_c4_2; try simp [-List.getD_eq_getElem?_getD] at p_c4_2
  have p_c4_3 := h_c4_3; try simp [-List.getD_eq_getElem?_getD] at p_c4_3
  have p_c9 := h_c9; try simp [-List.getD_eq_getElem?_getD] at p_c9
  have p_c11 := h_c11; try simp [-List.getD_eq_getElem?_getD] at p_c11
  have p_c11_1 := h_c11_1; try simp [-List.getD_eq_getElem?_getD] at p_c11_1
  exact Gx.ret_as (v' := .int .i64 (arity k)) (by congr 1; simp [arity, *]) (hK)

set_option maxHeartbeats 400000 in
set_option maxRecDepth 10000 in
theorem arity_c (k : Int) (w : World) (K : Ending → World → Prop)  (hK : K (.returned (.int .i64 (arity k))) w) :
    Calls Tryd.prog 13 #[.int .i64 k] w K := by
  refine Gx.enter 14 Tryd.func13 rfl rfl (Nat.le_of_ble_eq_true rfl) ?_
  refine Gx.seq_run [(2, .int .i64 0)] (by kernel_rfl) ?_
  refine wp_seq ?_
  refine Gx.seq_run [(3, .int .i64 k)] (by kernel_rfl) ?_
  refine wp_block ?_
  refine wp_seq ?_
  refine Gx.seq_run [(4, .bool (k == (0 : Int))), (5, .bool (k == (0 : Int)))] (by kernel_rfl) ?_
  refine Gx.cond (k == (0 : Int)) (by kernel_rfl) (fun h_c4 => ?_) (fun h_c4 => ?_)
  · skip
    refine wp_skip ?_
    refine Gx.then_normal ?_
    refine Gx.cond (k == (0 : Int)) (by kernel_rfl) (fun hk_ => ?_) (fun hk_ => absurd (h_c4.symm.trans hk_) (by decide))
    refine Gx.seq_run [(2, .int .i64 0)] (by kernel_rfl) ?_
    refine wp_ret ?_
    refine Gx.block_ret ?_
    refine Gx.then_ret ?_
    refine Gx.ret (v := .int .i64 0) (Gx.res1 rfl (by kernel_rfl)) ?_
    have p_c4 := h_c4; try simp [-List.getD_eq_getElem?_getD] at p_c4
    exact Gx.ret_as (v' := .int .i64 (arity k)) (by congr 1; simp [arity, *]) (hK)
  refine Gx.seq_run [(4, .bool (k == (1 : Int))), (6, .bool (k == (1 : Int)))] (by kernel_rfl) ?_
  refine Gx.cond (k == (1 : Int)) (by kernel_rfl) (fun h_c4_1 => ?_) (fun h_c4_1 => ?_)
  · skip
    refine wp_skip ?_
    refine Gx.then_normal ?_
    refine Gx.cond (k == (1 : Int)) (by kernel_rfl) (fun hk_ => ?_) (fun hk_ => absurd (h_c4_1.symm.trans hk_) (by decide))
    refine Gx.seq_run [(2, .int .i64 0)] (by kernel_rfl) ?_
    refine wp_ret ?_
    refine Gx.block_ret ?_
    refine Gx.then_ret ?_
    refine Gx.ret (v := .int .i64 0) (Gx.res1 rfl (by kernel_rfl)) ?_
    have p_c4 := h_c4; try simp [-List.getD_eq_getElem?_getD] at p_c4
    have p_c4_1 := h_c4_1; try simp [-List.getD_eq_getElem?_getD] at p_c4_1
    exact Gx.ret_as (v' := .int .i64 (arity k)) (by congr 1; simp [arity, *]) (hK)
  refine Gx.seq_run [(4, .bool (k == (2 : Int))), (7, .bool (k == (2 : Int)))] (by kernel_rfl) ?_
  refine Gx.cond (k == (2 : Int)) (by kernel_rfl) (fun h_c4_2 => ?_) (fun h_c4_2 => ?_)
  · skip
    refine wp_skip ?_
    refine Gx.then_normal ?_
    refine Gx.cond (k == (2 : Int)) (by kernel_rfl) (fun hk_ => ?_) (fun hk_ => absurd (h_c4_2.symm.trans hk_) (by decide))
    refine Gx.seq_run [(2, .int .i64 0)] (by kernel_rfl) ?_
    refine wp_ret ?_
    refine Gx.block_ret ?_
    refine Gx.then_ret ?_
    refine Gx.ret (v := .int .i64 0) (Gx.res1 rfl (by kernel_rfl)) ?_
    have p_c4 := h_c4; try simp [-List.getD_eq_getElem?_getD] at p_c4
    have p_c4_1 := h_c4_1; try simp [-List.getD_eq_getElem?_getD] at p_c4_1
    have p_c4_2 := h_c4_2; try simp [-List.getD_eq_getElem?_getD] at p_c4_2
    exact Gx.ret_as (v' := .int .i64 (arity k)) (by congr 1; simp [arity, *]) (hK)
  refine Gx.reg_run [(4, .bool (k == (3 : Int))), (8, .bool (k == (3 : Int)))] (by kernel_rfl) ?_
  refine Gx.then_normal ?_
  refine Gx.cond (k == (3 : Int)) (by kernel_rfl) (fun h_c4_3 => ?_) (fun h_c4_3 => ?_)
  · skip
    refine Gx.seq_run [(2, .int .i64 0)] (by kernel_rfl) ?_
    refine wp_ret ?_
    refine Gx.block_ret ?_
    refine Gx.then_ret ?_
    refine Gx.ret (v := .int .i64 0) (Gx.res1 rfl (by kernel_rfl)) ?_
    have p_c4 := h_c4; try simp [-List.getD_eq_getElem?_getD] at p_c4
    have p_c4_1 := h_c4_1; try simp [-List.getD_eq_getElem?_getD] at p_c4_1
    have p_c4_2 := h_c4_2; try simp [-List.getD_eq_getElem?_getD] at p_c4_2
    have p_c4_3 := h_c4_3; try simp [-List.getD_eq_getElem?_getD] at p_c4_3
    exact Gx.ret_as (v' := .int .i64 (arity k)) (by congr 1; simp [arity, *]) (hK)
  refine Gx.seq_run [(9, .bool (k == (4 : Int))), (10, .bool (k == (4 : Int)))] (by kernel_rfl) ?_
  refine Gx.cond (k == (4 : Int)) (by kernel_rfl) (fun h_c9 => ?_) (fun h_c9 => ?_)
  · skip
    refine Gx.seq_run [(2, .int .i64 1)] (by kernel_rfl) ?_
    refine wp_ret ?_
    refine Gx.block_ret ?_
    refine Gx.then_ret ?_
    refine Gx.ret (v := .int .i64 1) (Gx.res1 rfl (by kernel_rfl)) ?_
    have p_c4 := h_c4; try simp [-List.getD_eq_getElem?_getD] at p_c4
    have p_c4_1 := h_c4_1; try simp [-List.getD_eq_getElem?_getD] at p_c4_1
    have p_c4_2 := h_c4_2; try simp [-List.getD_eq_getElem?_getD] at p_c4_2
    have p_c4_3 := h_c4_3; try simp [-List.getD_eq_getElem?_getD] at p_c4_3
    have p_c9 := h_c9; try simp [-List.getD_eq_getElem?_getD] at p_c9
    exact Gx.ret_as (v' := .int .i64 (arity k)) (by congr 1; simp [arity, *]) (hK)
  refine wp_seq ?_
  refine Gx.seq_run [(11, .bool (k == (5 : Int))), (12, .bool (k == (5 : Int)))] (by kernel_rfl) ?_
  refine Gx.cond (k == (5 : Int)) (by kernel_rfl) (fun h_c11 => ?_) (fun h_c11 => ?_)
  · skip
    refine wp_skip ?_
    refine Gx.then_normal ?_
    refine Gx.cond (k == (5 : Int)) (by kernel_rfl) (fun hk_ => ?_) (fun hk_ => absurd (h_c11.symm.trans hk_) (by decide))
    refine Gx.seq_run [(2, .int .i64 2)] (by kernel_rfl) ?_
    refine wp_ret ?_
    refine Gx.block_ret ?_
    refine Gx.then_ret ?_
    refine Gx.ret (v := .int .i64 2) (Gx.res1 rfl (by kernel_rfl)) ?_
    have p_c4 := h_c4; try simp [-List.getD_eq_getElem?_getD] at p_c4
    have p_c4_1 := h_c4_1; try simp [-List.getD_eq_getElem?_getD] at p_c4_1
    have p_c4_2 := h_c4_2; try simp [-List.getD_eq_getElem?_getD] at p_c4_2
    have p_c4_3 := h_c4_3; try simp [-List.getD_eq_getElem?_getD] at p_c4_3
    have p_c9 := h_c9; try simp [-List.getD_eq_getElem?_getD] at p_c9
    have p_c11 := h_c11; try simp [-List.getD_eq_getElem?_getD] at p_c11
    exact Gx.ret_as (v' := .int .i64 (arity k)) (by congr 1; simp [arity, *]) (hK)
  refine Gx.reg_run [(11, .bool (k == (6 : Int))), (13, .bool (k == (6 : Int)))] (by kernel_rfl) ?_
  refine Gx.then_normal ?_
  refine Gx.cond (k == (6 : Int)) (by kernel_rfl) (fun h_c11_1 => ?_) (fun h_c11_1 => ?_)
  · skip
    refine Gx.seq_run [(2, .int .i64 2)] (by kernel_rfl) ?_
    refine wp_ret ?_
    refine Gx.block_ret ?_
    refine Gx.then_ret ?_
    refine Gx.ret (v := .int .i64 2) (Gx.res1 rfl (by kernel_rfl)) ?_
    have p_c4 := h_c4; try simp [-List.getD_eq_getElem?_getD] at p_c4
    have p_c4_1 := h_c4_1; try simp [-List.getD_eq_getElem?_getD] at p_c4_1
    have p_c4_2 := h_c4_2; try simp [-List.getD_eq_getElem?_getD] at p_c4_2
    have p_c4_3 := h_c4_3; try simp [-List.getD_eq_getElem?_getD] at p_c4_3
    have p_c9 := h_c9; try simp [-List.getD_eq_getElem?_getD] at p_c9
    have p_c11 := h_c11; try simp [-List.getD_eq_getElem?_getD] at p_c11
    have p_c11_1 := h_c11_1; try simp [-List.getD_eq_getElem?_getD] at p_c11_1
    exact Gx.ret_as (v' := .int .i64 (arity k)) (by congr 1; simp [arity, *]) (hK)
  refine wp_skip ?_
  refine Gx.block_normal ?_
  refine Gx.then_normal ?_
  refine Gx.seq_run [(2, .int .i64 (-1))] (by kernel_rfl) ?_
  refine wp_ret ?_
  refine Gx.ret (v := .int .i64 (-1)) (Gx.res1 rfl (by kernel_rfl)) ?_
  have p_c4 := h_c4; try simp [-List.getD_eq_getElem?_getD] at p_c4
  have p_c4_1 := h_c4_1; try simp [-List.getD_eq_getElem?_getD] at p_c4_1
  have p_c4_2 := h_c4_2; try simp [-List.getD_eq_getElem?_getD] at p_c4_2
  have p_c4_3 := h_c4_3; try simp [-List.getD_eq_getElem?_getD] at p_c4_3
  have p_c9 := h_c9; try simp [-List.getD_eq_getElem?_getD] at p_c9
  have p_c11 := h_c11; try simp [-List.getD_eq_getElem?_getD] at p_c11
  have p_c11_1 := h_c11_1; try simp [-List.getD_eq_getElem?_getD] at p_c11_1
  exact Gx.ret_as (v' := .int .i64 (arity k)) (by congr 1; simp [arity, *]) (hK)

set_option maxHeartbeats 400000 in
set_option maxRecDepth 10000 in
theorem digits_c (N : Nat) (w : World) (K : Ending → World → Prop) (hN : N ≤ 9223372036854775807) (hK : ∀ w', Gx.Ext w w' → K (.returned (.string (digB N))) w') :
    Calls Tryd.prog 11 #[.int .i64 ((N : Nat) : Int)] w K := by
  refine Gx.enter 17 Tryd.func11 rfl rfl (Nat.le_of_ble_eq_true rfl) ?_
  refine Gx.seq_run [(2, .string (⟨#[]⟩ : ByteArray))] (by kernel_rfl) ?_
  refine Gx.seq_run [(3, .string (⟨#[]⟩ : ByteArray))] (by kernel_rfl) ?_
  refine wp_block ?_
  refine Gx.loop (n' := 17) (d' := []) (fun mz l' w' => ∃ (m : Nat) (s : ByteArray), l' = [(0, .int .i64 ((m : Nat) : Int)), (3, .string s)] ∧ mz = 0 + m ∧ Gx.Ext w w' ∧ (digB N = digB m ++ s) ∧ (s.size + m ≤ N) ∧ (m = 0 → s.size = 0)) _ _ [(0, .int .i64 ((N : Nat) : Int)), (3, .string e0)] (Gx.forget [(0, .int .i64 ((N : Nat) : Int)), (3, .string e0)] (by kernel_rfl)) ⟨N, e0, rfl, rfl, (Gx.Ext.refl w), (app_e0 _).symm, (by show 0 + N ≤ N; omega), (fun _ => rfl)⟩ (fun bb1 m1 ll1 w1 hI1 K1 hK1 => ?_)
  obtain ⟨m, s, rfl, rfl, x1, hd, hs, hs0⟩ := hI1
  have zw1 := x1.size
  refine wp_block ?_
  refine Gx.seq_reg [0, 1, 2, 3, 4, 5, 6, 7, 8] (by kernel_rfl) ?_
  refine Gx.pure [0] [1, 2, 3, 4, 5, 6, 7, 8] [(4, .int .i64 ((m : Nat) : Int))] rfl (by kernel_rfl) ?_
  refine Gx.pure_eq [1] [2, 3, 4, 5, 6, 7, 8] [(5, .int .i64 (Int.tmod ((m : Nat) : Int) (10 : Int)))] [(5, .int .i64 ((m % 10 : Nat) : Int))] rfl (by kernel_rfl) (Gx.eqI (by rw [IntWalk.rem_in _ _ (by omega)]; omega)) ?_
  refine Gx.pure_eq [2] [3, 4, 5, 6, 7, 8] [(6, .int .i64 (IntKind.i64.wrap ((48 : Int) + ((m % 10 : Nat) : Int))))] [(6, .int .i64 ((48 + m % 10 : Nat) : Int))] rfl (by kernel_rfl) (Gx.eqI (Gx.i64n (by omega) (by omega))) ?_
  refine Gx.pure_eq [3] [4, 5, 6, 7, 8] [(7, .int .u8 (IntKind.u8.wrap ((48 + m % 10 : Nat) : Int)))] [(7, .int .u8 ((48 + m % 10 : Nat) : Int))] rfl (by kernel_rfl) (Gx.eqI (IntWalk.u8_in _ (by omega))) ?_
  refine Gx.cons (Gx.op_row (.cells #[.int .u8 ((48 + m % 10 : Nat) : Int)] 5) 1 1 rfl (by kernel_rfl) (by kernel_rfl) (fun k1 w2 l1 x2 b1 => ?_))
  have zw2 := x2.size
  have tb1 := b1.lt
  refine Gx.cons (Gx.op_bstr rfl (by kernel_rfl) rfl 5 (by kernel_rfl) (by kernel_rfl) (by kernel_rfl) 0 1 1 (by kernel_rfl) b1 [UInt8.ofNat (48 + m % 10)] rfl (Gx.bstr1 (by omega)) ?_)
  refine Gx.pure [6] [7, 8] [(10, .string s)] rfl (by kernel_rfl) ?_
  refine Gx.cons (Gx.op_concat rfl (by kernel_rfl) rfl (⟨#[UInt8.ofNat (48 + m % 10)]⟩ : ByteArray) s (by kernel_rfl) (by kernel_rfl) (by show 1 + s.size ≤ _; omega) ?_)
  refine Gx.pure [8] [] [(3, .string ((⟨#[UInt8.ofNat (48 + m % 10)]⟩ : ByteArray) ++ s))] rfl (by kernel_rfl) ?_
  refine Gx.ops_end ?_
  refine Gx.seq_reg [0, 1, 2] (by kernel_rfl) ?_
  refine Gx.pure [0] [1, 2] [(12, .int .i64 ((m : Nat) : Int))] rfl (by kernel_rfl) ?_
  refine Gx.pure_eq [1] [2] [(13, .int .i64 (IntKind.i64.wrap (Int.tdiv ((m : Nat) : Int) (10 : Int))))] [(13, .int .i64 ((m / 10 : Nat) : Int))] rfl (by kernel_rfl) (Gx.eqI (IntWalk.i64_quo _ _ (by omega))) ?_
  refine Gx.pure [2] [] [(0, .int .i64 ((m / 10 : Nat) : Int))] rfl (by kernel_rfl) ?_
  refine Gx.ops_end ?_
  refine Gx.seq_run [(15, .bool (((m / 10 : Nat) : Int) == (0 : Int))), (14, .int .i64 ((m / 10 : Nat) : Int))] (by kernel_rfl) ?_
  refine Gx.cond (((m / 10 : Nat) : Int) == (0 : Int)) (by kernel_rfl) (fun h_c15 => ?_) (fun h_c15 => ?_)
  · skip
    refine Gx.seq_run [(2, .string ((⟨#[UInt8.ofNat (48 + m % 10)]⟩ : ByteArray) ++ s)), (16, .string ((⟨#[UInt8.ofNat (48 + m % 10)]⟩ : ByteArray) ++ s))] (by kernel_rfl) ?_
    refine wp_ret ?_
    refine Gx.block_ret ?_
    refine Gx.then_ret ?_
    refine Gx.block_ret ?_
    refine Gx.ret (v := .string ((⟨#[UInt8.ofNat (48 + m % 10)]⟩ : ByteArray) ++ s)) (Gx.res1 rfl (by kernel_rfl)) ?_
    have p_c15 := h_c15; try simp [-List.getD_eq_getElem?_getD] at p_c15
    exact Gx.ret_as (v' := .string (digB N)) (by rw [hd, dig_small (m := m) (by have hm := p_c15; omega), show m % 10 = m by have hm := p_c15; omega]) (hK _ (((Gx.Ext.refl w).trans x1).trans x2))
  refine wp_skip ?_
  refine Gx.block_normal ?_
  refine Gx.then_normal ?_
  have p_c15 := h_c15; try simp [-List.getD_eq_getElem?_getD] at p_c15
  rw [Gx.forget [(0, .int .i64 (((m / 10) : Nat) : Int)), (3, .string ((⟨#[UInt8.ofNat (48 + m % 10)]⟩ : ByteArray) ++ s))] (by kernel_rfl)]
  exact hK1 _ _ _ _ (by have hm := p_c15; omega) ⟨(m / 10), ((⟨#[UInt8.ofNat (48 + m % 10)]⟩ : ByteArray) ++ s), rfl, rfl, (((Gx.Ext.refl w).trans x1).trans x2), (by have hm := p_c15; rw [hd, dig_step (by omega), app_assoc]), (by have hm := p_c15; rw [ByteArray.size_append]; show 1 + s.size + m / 10 ≤ N; omega), (fun h => by have hm := p_c15; omega)⟩


theorem digits_i (n : Int) (w : World) (K : Ending → World → Prop) (h0 : 0 ≤ n) (h1 : n ≤ 9223372036854775807) (hK : ∀ w', Gx.Ext w w' → K (.returned (.string (digB n.toNat))) w') : Calls Tryd.prog 11 #[.int .i64 n] w K := by
  obtain ⟨m, rfl⟩ := Int.eq_ofNat_of_zero_le h0
  exact digits_c m w K (by omega) hK

end Go.Proofs.YtmlmppdffeacdaaDoor
