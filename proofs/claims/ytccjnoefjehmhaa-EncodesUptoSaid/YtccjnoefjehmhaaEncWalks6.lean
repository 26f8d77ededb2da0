/- The walks of the encoders' functions, written by a program of ours (wip/gx/gx.py, wip/enc/encgen.py). -/
import Derived.Test.YtccjnoefjehmhaaRows
import Derived.Test.YtccjnoefjehmhaaGw
import Derived.Test.YtccjnoefjehmhaaEncPlain
import Derived.Test.YtccjnoefjehmhaaEncWalks1
import Derived.Test.YtccjnoefjehmhaaEncWalks2
import Derived.Test.YtccjnoefjehmhaaEncWalks3
import Derived.Test.YtccjnoefjehmhaaEncWalks4
import Derived.Test.YtccjnoefjehmhaaEncWalks5
namespace Go.Proofs.Ytccjnoefjehmhaa
open Go.RowKit Go.Enc
attribute [local irreducible] Go.wpOps Go.Code.wp Go.wpOp Go.wpAnyH Go.Calls
set_option maxHeartbeats 400000 in
set_option maxRecDepth 10000 in
theorem rflag_c (b : Bool) (w : World) (K : Ending → World → Prop)  (hK : K (.returned (.string (bigB (flagN b) 1))) w) :
    Calls Try.prog 10 #[.bool b] w K := by
  refine Gx.enter 4 Try.func10 rfl rfl (Nat.le_of_ble_eq_true rfl) ?_
  refine Gx.seq_run [(2, .string (⟨#[]⟩ : ByteArray))] (by kernel_rfl) ?_
  refine wp_seq ?_
  refine Gx.seq_run [(3, .bool b)] (by kernel_rfl) ?_
  refine Gx.cond b (by kernel_rfl) (fun h_c3 => ?_) (fun h_c3 => ?_)
  · skip
    refine Gx.seq_run [(2, .string (⟨#[1]⟩ : ByteArray))] (by kernel_rfl) ?_
    refine wp_ret ?_
    refine Gx.then_ret ?_
    refine Gx.ret (v := .string (⟨#[1]⟩ : ByteArray)) (Gx.res1 rfl (by kernel_rfl)) ?_
    have p_c3 := h_c3; try simp [-List.getD_eq_getElem?_getD] at p_c3
    exact Gx.ret_as (v' := .string (bigB (flagN b) 1)) (by rw [flagB_eq, h_c3]; rfl) (hK)
  refine wp_skip ?_
  refine Gx.then_normal ?_
  refine Gx.seq_run [(2, .string (⟨#[0]⟩ : ByteArray))] (by kernel_rfl) ?_
  refine wp_ret ?_
  refine Gx.ret (v := .string (⟨#[0]⟩ : ByteArray)) (Gx.res1 rfl (by kernel_rfl)) ?_
  have p_c3 := h_c3; try simp [-List.getD_eq_getElem?_getD] at p_c3
  exact Gx.ret_as (v' := .string (bigB (flagN b) 1)) (by rw [flagB_eq, h_c3]; rfl) (hK)

set_option maxHeartbeats 400000 in
set_option maxRecDepth 10000 in
theorem fits_c (v most : Int) (w : World) (K : Ending → World → Prop)  (hK : K (.returned (.bool (decide (v ≥ (0 : Int)) && decide (v ≤ most)))) w) :
    Calls Try.prog 11 #[.int .i64 v, .int .i64 most] w K := by
  refine Gx.enter 12 Try.func11 rfl rfl (Nat.le_of_ble_eq_true rfl) ?_
  refine Gx.seq_run [(4, .bool false)] (by kernel_rfl) ?_
  refine Gx.cut (d' := []) (n' := 12) (fun l' w' => l' = [(4, .bool ((decide (v ≥ (0 : Int))) && (decide (v ≤ most))))] ∧ w = w') (fun K1 hK1 => ?_) (fun bb1 ll1 w1 hI1 => ?_)
  · refine Gx.reg [0, 1, 2, 3, 4, 5, 6, 7] (by kernel_rfl) ?_
    refine Gx.pure [0, 1, 2] [3, 4, 5, 6, 7] [(7, .bool (decide (v ≥ (0 : Int)))), (6, .bool (decide (v ≥ (0 : Int)))), (5, .int .i64 v)] rfl (by kernel_rfl) ?_
    refine Gx.split (decide (v ≥ (0 : Int))) (fun h_g7 => ?_) (fun h_g7 => ?_)
    · rw [h_g7]
      refine Gx.pure [3, 4, 5, 6, 7] [] [(4, .bool (decide (v ≤ most))), (11, .bool (decide (v ≤ most))), (10, .bool (decide (v ≤ most))), (9, .int .i64 most), (8, .int .i64 v)] rfl (by kernel_rfl) ?_
      refine Gx.ops_end ?_
      rw [Gx.forget [(4, .bool ((decide (v ≥ (0 : Int))) && (decide (v ≤ most))))] (by rw [h_g7]; try kernel_rfl)]
      exact hK1 _ _ _ ⟨rfl, rfl⟩
    rw [h_g7]
    refine Gx.pure [3, 4, 5, 6, 7] [] [(4, .bool false), (11, .bool false), (10, undef), (9, undef), (8, undef)] rfl (by kernel_rfl) ?_
    refine Gx.ops_end ?_
    rw [Gx.forget [(4, .bool ((decide (v ≥ (0 : Int))) && (decide (v ≤ most))))] (by rw [h_g7]; try kernel_rfl)]
    exact hK1 _ _ _ ⟨rfl, rfl⟩
  obtain ⟨rfl, rfl⟩ := hI1
  refine wp_ret ?_
  refine Gx.ret (v := .bool ((decide (v ≥ (0 : Int))) && (decide (v ≤ most)))) (Gx.res1 rfl (by kernel_rfl)) ?_
  exact Gx.ret_as (v' := .bool (decide (v ≥ (0 : Int)) && decide (v ≤ most))) (by rfl) (hK)

set_option maxHeartbeats 400000 in
set_option maxRecDepth 10000 in
theorem Form_c (op : Int) (w : World) (K : Ending → World → Prop)  (hK : K (.returned (.int .i64 ((form op : Nat) : Int))) w) :
    Calls Try.prog 14 #[.int .i64 op] w K := by
  refine Gx.enter 18 Try.func14 rfl rfl (Nat.le_of_ble_eq_true rfl) ?_
  refine Gx.seq_run [(2, .int .i64 0)] (by kernel_rfl) ?_
  refine wp_seq ?_
  refine Gx.seq_run [(3, .int .i64 op)] (by kernel_rfl) ?_
  refine wp_block ?_
  refine Gx.seq_run [(4, .bool (op == (0 : Int))), (5, .bool (op == (0 : Int)))] (by kernel_rfl) ?_
  refine Gx.cond (op == (0 : Int)) (by kernel_rfl) (fun h_c4 => ?_) (fun h_c4 => ?_)
  · skip
    refine Gx.seq_run [(2, .int .i64 8)] (by kernel_rfl) ?_
    refine wp_ret ?_
    refine Gx.block_ret ?_
    refine Gx.then_ret ?_
    refine Gx.ret (v := .int .i64 8) (Gx.res1 rfl (by kernel_rfl)) ?_
    have p_c4 := h_c4; try simp [-List.getD_eq_getElem?_getD] at p_c4
    exact Gx.ret_as (v' := .int .i64 ((form op : Nat) : Int)) (by congr 1; simp [form, *]) (hK)
  refine wp_seq ?_
  refine Gx.seq_run [(6, .bool (op == (2 : Int))), (7, .bool (op == (2 : Int)))] (by kernel_rfl) ?_
  refine Gx.cond (op == (2 : Int)) (by kernel_rfl) (fun h_c6 => ?_) (fun h_c6 => ?_)
  · skip
    refine wp_skip ?_
    refine Gx.then_normal ?_
    refine Gx.cond (op == (2 : Int)) (by kernel_rfl) (fun hk_ => ?_) (fun hk_ => absurd (h_c6.symm.trans hk_) (by decide))
    refine Gx.seq_run [(2, .int .i64 1)] (by kernel_rfl) ?_
    refine wp_ret ?_
    refine Gx.block_ret ?_
    refine Gx.then_ret ?_
    refine Gx.ret (v := .int .i64 1) (Gx.res1 rfl (by kernel_rfl)) ?_
    have p_c4 := h_c4; try simp [-List.getD_eq_getElem?_getD] at p_c4
    have p_c6 := h_c6; try simp [-List.getD_eq_getElem?_getD] at p_c6
    exact Gx.ret_as (v' := .int .i64 ((form op : Nat) : Int)) (by congr 1; simp [form, *]) (hK)
  refine Gx.seq_run [(6, .bool (op == (3 : Int))), (8, .bool (op == (3 : Int)))] (by kernel_rfl) ?_
  refine Gx.cond (op == (3 : Int)) (by kernel_rfl) (fun h_c6_1 => ?_) (fun h_c6_1 => ?_)
  · skip
    refine wp_skip ?_
    refine Gx.then_normal ?_
    refine Gx.cond (op == (3 : Int)) (by kernel_rfl) (fun hk_ => ?_) (fun hk_ => absurd (h_c6_1.symm.trans hk_) (by decide))
    refine Gx.seq_run [(2, .int .i64 1)] (by kernel_rfl) ?_
    refine wp_ret ?_
    refine Gx.block_ret ?_
    refine Gx.then_ret ?_
    refine Gx.ret (v := .int .i64 1) (Gx.res1 rfl (by kernel_rfl)) ?_
    have p_c4 := h_c4; try simp [-List.getD_eq_getElem?_getD] at p_c4
    have p_c6 := h_c6; try simp [-List.getD_eq_getElem?_getD] at p_c6
    have p_c6_1 := h_c6_1; try simp [-List.getD_eq_getElem?_getD] at p_c6_1
    exact Gx.ret_as (v' := .int .i64 ((form op : Nat) : Int)) (by congr 1; simp [form, *]) (hK)
  refine Gx.seq_run [(6, .bool (op == (4 : Int))), (9, .bool (op == (4 : Int)))] (by kernel_rfl) ?_
  refine Gx.cond (op == (4 : Int)) (by kernel_rfl) (fun h_c6_2 => ?_) (fun h_c6_2 => ?_)
  · skip
    refine wp_skip ?_
    refine Gx.then_normal ?_
    refine Gx.cond (op == (4 : Int)) (by kernel_rfl) (fun hk_ => ?_) (fun hk_ => absurd (h_c6_2.symm.trans hk_) (by decide))
    refine Gx.seq_run [(2, .int .i64 1)] (by kernel_rfl) ?_
    refine wp_ret ?_
    refine Gx.block_ret ?_
    refine Gx.then_ret ?_
    refine Gx.ret (v := .int .i64 1) (Gx.res1 rfl (by kernel_rfl)) ?_
    have p_c4 := h_c4; try simp [-List.getD_eq_getElem?_getD] at p_c4
    have p_c6 := h_c6; try simp [-List.getD_eq_getElem?_getD] at p_c6
    have p_c6_1 := h_c6_1; try simp [-List.getD_eq_getElem?_getD] at p_c6_1
    have p_c6_2 := h_c6_2; try simp [-List.getD_eq_getElem?_getD] at p_c6_2
    exact Gx.ret_as (v' := .int .i64 ((form op : Nat) : Int)) (by congr 1; simp [form, *]) (hK)
  refine Gx.seq_run [(6, .bool (op == (12 : Int))), (10, .bool (op == (12 : Int)))] (by kernel_rfl) ?_
  refine Gx.cond (op == (12 : Int)) (by kernel_rfl) (fun h_c6_3 => ?_) (fun h_c6_3 => ?_)
  · skip
    refine wp_skip ?_
    refine Gx.then_normal ?_
    refine Gx.cond (op == (12 : Int)) (by kernel_rfl) (fun hk_ => ?_) (fun hk_ => absurd (h_c6_3.symm.trans hk_) (by decide))
    refine Gx.seq_run [(2, .int .i64 1)] (by kernel_rfl) ?_
    refine wp_ret ?_
    refine Gx.block_ret ?_
    refine Gx.then_ret ?_
    refine Gx.ret (v := .int .i64 1) (Gx.res1 rfl (by kernel_rfl)) ?_
    have p_c4 := h_c4; try simp [-List.getD_eq_getElem?_getD] at p_c4
    have p_c6 := h_c6; try simp [-List.getD_eq_getElem?_getD] at p_c6
    have p_c6_1 := h_c6_1; try simp [-List.getD_eq_getElem?_getD] at p_c6_1
    have p_c6_2 := h_c6_2; try simp [-List.getD_eq_getElem?_getD] at p_c6_2
    have p_c6_3 := h_c6_3; try simp [-List.getD_eq_getElem?_getD] at p_c6_3
    exact Gx.ret_as (v' := .int .i64 ((form op : Nat) : Int)) (by congr 1; simp [form, *]) (hK)
  refine Gx.seq_run [(6, .bool (op == (13 : Int))), (11, .bool (op == (13 : Int)))] (by kernel_rfl) ?_
  refine Gx.cond (op == (13 : Int)) (by kernel_rfl) (fun h_c6_4 => ?_) (fun h_c6_4 => ?_)
  · skip
    refine wp_skip ?_
    refine Gx.then_normal ?_
    refine Gx.cond (op == (13 : Int)) (by kernel_rfl) (fun hk_ => ?_) (fun hk_ => absurd (h_c6_4.symm.trans hk_) (by decide))
    refine Gx.seq_run [(2, .int .i64 1)] (by kernel_rfl) ?_
    refine wp_ret ?_
    refine Gx.block_ret ?_
    refine Gx.then_ret ?_
    refine Gx.ret (v := .int .i64 1) (Gx.res1 rfl (by kernel_rfl)) ?_
    have p_c4 := h_c4; try simp [-List.getD_eq_getElem?_getD] at p_c4
    have p_c6 := h_c6; try simp [-List.getD_eq_getElem?_getD] at p_c6
    have p_c6_1 := h_c6_1; try simp [-List.getD_eq_getElem?_getD] at p_c6_1
    have p_c6_2 := h_c6_2; try simp [-List.getD_eq_getElem?_getD] at p_c6_2
    have p_c6_3 := h_c6_3; try simp [-List.getD_eq_getElem?_getD] at p_c6_3
    have p_c6_4 := h_c6_4; try simp [-List.getD_eq_getElem?_getD] at p_c6_4
    exact Gx.ret_as (v' := .int .i64 ((form op : Nat) : Int)) (by congr 1; simp [form, *]) (hK)
  refine Gx.seq_run [(6, .bool (op == (18 : Int))), (12, .bool (op == (18 : Int)))] (by kernel_rfl) ?_
  refine Gx.cond (op == (18 : Int)) (by kernel_rfl) (fun h_c6_5 => ?_) (fun h_c6_5 => ?_)
  · skip
    refine wp_skip ?_
    refine Gx.then_normal ?_
    refine Gx.cond (op == (18 : Int)) (by kernel_rfl) (fun hk_ => ?_) (fun hk_ => absurd (h_c6_5.symm.trans hk_) (by decide))
    refine Gx.seq_run [(2, .int .i64 1)] (by kernel_rfl) ?_
    refine wp_ret ?_
    refine Gx.block_ret ?_
    refine Gx.then_ret ?_
    refine Gx.ret (v := .int .i64 1) (Gx.res1 rfl (by kernel_rfl)) ?_
    have p_c4 := h_c4; try simp [-List.getD_eq_getElem?_getD] at p_c4
    have p_c6 := h_c6; try simp [-List.getD_eq_getElem?_getD] at p_c6
    have p_c6_1 := h_c6_1; try simp [-List.getD_eq_getElem?_getD] at p_c6_1
    have p_c6_2 := h_c6_2; try simp [-List.getD_eq_getElem?_getD] at p_c6_2
    have p_c6_3 := h_c6_3; try simp [-List.getD_eq_getElem?_getD] at p_c6_3
    have p_c6_4 := h_c6_4; try simp [-List.getD_eq_getElem?_getD] at p_c6_4
    have p_c6_5 := h_c6_5; try simp [-List.getD_eq_getElem?_getD] at p_c6_5
    exact Gx.ret_as (v' := .int .i64 ((form op : Nat) : Int)) (by congr 1; simp [form, *]) (hK)
  refine Gx.seq_run [(6, .bool (op == (19 : Int))), (13, .bool (op == (19 : Int)))] (by kernel_rfl) ?_
  refine Gx.cond (op == (19 : Int)) (by kernel_rfl) (fun h_c6_6 => ?_) (fun h_c6_6 => ?_)
  · skip
    refine wp_skip ?_
    refine Gx.then_normal ?_
    refine Gx.cond (op == (19 : Int)) (by kernel_rfl) (fun hk_ => ?_) (fun hk_ => absurd (h_c6_6.symm.trans hk_) (by decide))
    refine Gx.seq_run [(2, .int .i64 1)] (by kernel_rfl) ?_
    refine wp_ret ?_
    refine Gx.block_ret ?_
    refine Gx.then_ret ?_
    refine Gx.ret (v := .int .i64 1) (Gx.res1 rfl (by kernel_rfl)) ?_
    have p_c4 := h_c4; try simp [-List.getD_eq_getElem?_getD] at p_c4
    have p_c6 := h_c6; try simp [-List.getD_eq_getElem?_getD] at p_c6
    have p_c6_1 := h_c6_1; try simp [-List.getD_eq_getElem?_getD] at p_c6_1
    have p_c6_2 := h_c6_2; try simp [-List.getD_eq_getElem?_getD] at p_c6_2
    have p_c6_3 := h_c6_3; try simp [-List.getD_eq_getElem?_getD] at p_c6_3
    have p_c6_4 := h_c6_4; try simp [-List.getD_eq_getElem?_getD] at p_c6_4
    have p_c6_5 := h_c6_5; try simp [-List.getD_eq_getElem?_getD] at p_c6_5
    have p_c6_6 := h_c6_6; try simp [-List.getD_eq_getElem?_getD] at p_c6_6
    exact Gx.ret_as (v' := .int .i64 ((form op : Nat) : Int)) (by congr 1; simp [form, *]) (hK)
  refine Gx.seq_run [(6, .bool (op == (21 : Int))), (14, .bool (op == (21 : Int)))] (by kernel_rfl) ?_
  refine Gx.cond (op == (21 : Int)) (by kernel_rfl) (fun h_c6_7 => ?_) (fun h_c6_7 => ?_)
  · skip
    refine wp_skip ?_
    refine Gx.then_normal ?_
    refine Gx.cond (op == (21 : Int)) (by kernel_rfl) (fun hk_ => ?_) (fun hk_ => absurd (h_c6_7.symm.trans hk_) (by decide))
    refine Gx.seq_run [(2, .int .i64 1)] (by kernel_rfl) ?_
    refine wp_ret ?_
    refine Gx.block_ret ?_
    refine Gx.then_ret ?_
    refine Gx.ret (v := .int .i64 1) (Gx.res1 rfl (by kernel_rfl)) ?_
    have p_c4 := h_c4; try simp [-List.getD_eq_getElem?_getD] at p_c4
    have p_c6 := h_c6; try simp [-List.getD_eq_getElem?_getD] at p_c6
    have p_c6_1 := h_c6_1; try simp [-List.getD_eq_getElem?_getD] at p_c6_1
    have p_c6_2 := h_c6_2; try simp [-List.getD_eq_getElem?_getD] at p_c6_2
    have p_c6_3 := h_c6_3; try simp [-List.getD_eq_getElem?_getD] at p_c6_3
    have p_c6_4 := h_c6_4; try simp [-List.getD_eq_getElem?_getD] at p_c6_4
    have p_c6_5 := h_c6_5; try simp [-List.getD_eq_getElem?_getD] at p_c6_5
    have p_c6_6 := h_c6_6; try simp [-List.getD_eq_getElem?_getD] at p_c6_6
    have p_c6_7 := h_c6_7; try simp [-List.getD_eq_getElem?_getD] at p_c6_7
    exact Gx.ret_as (v' := .int .i64 ((form op : Nat) : Int)) (by congr 1; simp [form, *]) (hK)
  refine Gx.reg_run [(6, .bool (op == (22 : Int))), (15, .bool (op == (22 : Int)))] (by kernel_rfl) ?_
  refine Gx.then_normal ?_
  refine Gx.cond (op == (22 : Int)) (by kernel_rfl) (fun h_c6_8 => ?_) (fun h_c6_8 => ?_)
  · skip
    refine Gx.seq_run [(2, .int .i64 1)] (by kernel_rfl) ?_
    refine wp_ret ?_
    refine Gx.block_ret ?_
    refine Gx.then_ret ?_
    refine Gx.ret (v := .int .i64 1) (Gx.res1 rfl (by kernel_rfl)) ?_
    have p_c4 := h_c4; try simp [-List.getD_eq_getElem?_getD] at p_c4
    have p_c6 := h_c6; try simp [-List.getD_eq_getElem?_getD] at p_c6
    have p_c6_1 := h_c6_1; try simp [-List.getD_eq_getElem?_getD] at p_c6_1
    have p_c6_2 := h_c6_2; try simp [-List.getD_eq_getElem?_getD] at p_c6_2
    have p_c6_3 := h_c6_3; try simp [-List.getD_eq_getElem?_getD] at p_c6_3
    have p_c6_4 := h_c6_4; try simp [-List.getD_eq_getElem?_getD] at p_c6_4
    have p_c6_5 := h_c6_5; try simp [-List.getD_eq_getElem?_getD] at p_c6_5
    have p_c6_6 := h_c6_6; try simp [-List.getD_eq_getElem?_getD] at p_c6_6
    have p_c6_7 := h_c6_7; try simp [-List.getD_eq_getElem?_getD] at p_c6_7
    have p_c6_8 := h_c6_8; try simp [-List.getD_eq_getElem?_getD] at p_c6_8
    exact Gx.ret_as (v' := .int .i64 ((form op : Nat) : Int)) (by congr 1; simp [form, *]) (hK)
  refine Gx.seq_run [(16, .bool (op == (14 : Int))), (17, .bool (op == (14 : Int)))] (by kernel_rfl) ?_
  refine Gx.cond (op == (14 : Int)) (by kernel_rfl) (fun h_c16 => ?_) (fun h_c16 => ?_)
  · skip
    refine Gx.seq_run [(2, .int .i64 2)] (by kernel_rfl) ?_
    refine wp_ret ?_
    refine Gx.block_ret ?_
    refine Gx.then_ret ?_
    refine Gx.ret (v := .int .i64 2) (Gx.res1 rfl (by kernel_rfl)) ?_
    have p_c4 := h_c4; try simp [-List.getD_eq_getElem?_getD] at p_c4
    have p_c6 := h_c6; try simp [-List.getD_eq_getElem?_getD] at p_c6
    have p_c6_1 := h_c6_1; try simp [-List.getD_eq_getElem?_getD] at p_c6_1
    have p_c6_2 := h_c6_2; try simp [-List.getD_eq_getElem?_getD] at p_c6_2
    have p_c6_3 := h_c6_3; try simp [-List.getD_eq_getElem?_getD] at p_c6_3
    have p_c6_4 := h_c6_4; try simp [-List.getD_eq_getElem?_getD] at p_c6_4
    have p_c6_5 := h_c6_5; try simp [-List.getD_eq_getElem?_getD] at p_c6_5
    have p_c6_6 := h_c6_6; try simp [-List.getD_eq_getElem?_getD] at p_c6_6
    have p_c6_7 := h_c6_7; try simp [-List.getD_eq_getElem?_getD] at p_c6_7
    have p_c6_8 := h_c6_8; try simp [-List.getD_eq_getElem?_getD] at p_c6_8
    have p_c16 := h_c16; try simp [-List.getD_eq_getElem?_getD] at p_c16
    exact Gx.ret_as (v' := .int .i64 ((form op : Nat) : Int)) (by congr 1; simp [form, *]) (hK)
  refine wp_skip ?_
  refine Gx.block_normal ?_
  refine Gx.then_normal ?_
  refine Gx.seq_run [(2, .int .i64 0)] (by kernel_rfl) ?_
  refine wp_ret ?_
  refine Gx.ret (v := .int .i64 0) (Gx.res1 rfl (by kernel_rfl)) ?_
  have p_c4 := h_c4; try simp [-List.getD_eq_getElem?_getD] at p_c4
  have p_c6 := h_c6; try simp [-List.getD_eq_getElem?_getD] at p_c6
  have p_c6_1 := h_c6_1; try simp [-List.getD_eq_getElem?_getD] at p_c6_1
  have p_c6_2 := h_c6_2; try simp [-List.getD_eq_getElem?_getD] at p_c6_2
  have p_c6_3 := h_c6_3; try simp [-List.getD_eq_getElem?_getD] at p_c6_3
  have p_c6_4 := h_c6_4; try simp [-List.getD_eq_getElem?_getD] at p_c6_4
  have p_c6_5 := h_c6_5; try simp [-List.getD_eq_getElem?_getD] at p_c6_5
  have p_c6_6 := h_c6_6; try simp [-List.getD_eq_getElem?_getD] at p_c6_6
  have p_c6_7 := h_c6_7; try simp [-List.getD_eq_getElem?_getD] at p_c6_7
  have p_c6_8 := h_c6_8; try simp [-List.getD_eq_getElem?_getD] at p_c6_8
  have p_c16 := h_c16; try simp [-List.getD_eq_getElem?_getD] at p_c16
  exact Gx.ret_as (v' := .int .i64 ((form op : Nat) : Int)) (by congr 1; simp [form, *]) (hK)


theorem Form_8 (op : Int) (w : World) (K : Ending → World → Prop) (hf : form op = 8) (hK : K (.returned (.int .i64 8)) w) : Calls Try.prog 14 #[.int .i64 op] w K := by
  refine Form_c op w K ?_
  rw [hf]
  exact hK


theorem Form_1 (op : Int) (w : World) (K : Ending → World → Prop) (hf : form op = 1) (hK : K (.returned (.int .i64 1)) w) : Calls Try.prog 14 #[.int .i64 op] w K := by
  refine Form_c op w K ?_
  rw [hf]
  exact hK


theorem Form_2 (op : Int) (w : World) (K : Ending → World → Prop) (hf : form op = 2) (hK : K (.returned (.int .i64 2)) w) : Calls Try.prog 14 #[.int .i64 op] w K := by
  refine Form_c op w K ?_
  rw [hf]
  exact hK


theorem Form_0 (op : Int) (w : World) (K : Ending → World → Prop) (hf : form op = 0) (hK : K (.returned (.int .i64 0)) w) : Calls Try.prog 14 #[.int .i64 op] w K := by
  refine Form_c op w K ?_
  rw [hf]
  exact hK

set_option maxHeartbeats 400000 in
set_option maxRecDepth 10000 in
theorem rins_8 (x : InsP) (w : World) (K : Ending → World → Prop) (hf : form x.op = 8) (hK : ∀ w', Gx.Ext w w' → K (.returned (.tuple #[.string (bif bd (insC x) then e0 else cat (insC x)), .bool (!bd (insC x))])) w') :
    Calls Try.prog 12 #[.agg #[.int .i64 x.op, .int .i64 x.a, .int .i64 x.b, .int .i64 x.n]] w K := by
  refine Gx.enter 90 Try.func12 rfl rfl (Nat.le_of_ble_eq_true rfl) ?_
  refine Gx.seq_reg [0, 1, 2] (by kernel_rfl) ?_
  refine Gx.cons (Gx.op_new (.cells #[.int .i64 x.op, .int .i64 x.a, .int .i64 x.b, .int .i64 x.n] 46) rfl (by kernel_rfl) (by kernel_rfl) (fun k1 w1 l1 x1 b1 => ?_))
  have zw1 := x1.size
  have tb1 := b1.lt
  refine Gx.pure [1, 2] [] [(3, .bool false), (2, .string (⟨#[]⟩ : ByteArray))] rfl (by kernel_rfl) ?_
  refine Gx.ops_end ?_
  refine wp_seq ?_
  refine Gx.cut (d' := []) (n' := 90) (fun l' w' => l' = [(1, .pointer (some ⟨k1, 0, none⟩)), (13, .bool ((decide (x.op < (0 : Int))) || (decide (x.op ≥ (23 : Int)))))] ∧ w1 = w') (fun K1 hK1 => ?_) (fun bb1 ll1 w2 hI1 => ?_)
  · refine Gx.reg [0, 1, 2, 3, 4, 5, 6, 7] (by kernel_rfl) ?_
    refine Gx.pure [0] [1, 2, 3, 4, 5, 6, 7] [(6, .pointer (some ⟨k1, 0, none⟩))] rfl (by kernel_rfl) ?_
    refine Gx.cons (Gx.op_load rfl (by kernel_rfl) rfl 0 (.int .i64 x.op) (by kernel_rfl) b1 (by kernel_rfl) ?_)
    refine Gx.pure [2, 3] [4, 5, 6, 7] [(9, .bool (decide (x.op < (0 : Int)))), (8, .bool (decide (x.op < (0 : Int))))] rfl (by kernel_rfl) ?_
    refine Gx.split (decide (x.op < (0 : Int))) (fun h_g9 => ?_) (fun h_g9 => ?_)
    · rw [h_g9]
      refine Gx.pure [4, 5, 6, 7] [] [(13, .bool true), (12, undef), (11, undef), (10, undef)] rfl (by kernel_rfl) ?_
      refine Gx.ops_end ?_
      rw [Gx.forget [(1, .pointer (some ⟨k1, 0, none⟩)), (13, .bool ((decide (x.op < (0 : Int))) || (decide (x.op ≥ (23 : Int)))))] (by rw [h_g9]; try kernel_rfl)]
      exact hK1 _ _ _ ⟨rfl, rfl⟩
    rw [h_g9]
    refine Gx.pure [4] [5, 6, 7] [(10, .pointer (some ⟨k1, 0, none⟩))] rfl (by kernel_rfl) ?_
    refine Gx.cons (Gx.op_load rfl (by kernel_rfl) rfl 0 (.int .i64 x.op) (by kernel_rfl) b1 (by kernel_rfl) ?_)
    refine Gx.pure [6, 7] [] [(13, .bool (decide (x.op ≥ (23 : Int)))), (12, .bool (decide (x.op ≥ (23 : Int))))] rfl (by kernel_rfl) ?_
    refine Gx.ops_end ?_
    rw [Gx.forget [(1, .pointer (some ⟨k1, 0, none⟩)), (13, .bool ((decide (x.op < (0 : Int))) || (decide (x.op ≥ (23 : Int)))))] (by rw [h_g9]; try kernel_rfl)]
    exact hK1 _ _ _ ⟨rfl, rfl⟩
  obtain ⟨rfl, rfl⟩ := hI1
  refine Gx.cond ((decide (x.op < (0 : Int))) || (decide (x.op ≥ (23 : Int)))) (by kernel_rfl) (fun h_c13 => ?_) (fun h_c13 => ?_)
  · skip
    refine Gx.seq_run [(3, .bool false), (2, .string (⟨#[]⟩ : ByteArray))] (by kernel_rfl) ?_
    refine wp_ret ?_
    refine Gx.then_ret ?_
    refine Gx.ret (Gx.res2 (v := .string (⟨#[]⟩ : ByteArray)) (u := .bool false) rfl (by kernel_rfl) (by kernel_rfl)) ?_
    have p_c13 := h_c13; try simp [-List.getD_eq_getElem?_getD] at p_c13
    have hb := ins_wrong (x := x) (by simpa using h_c13)
    exact Gx.ret_as (v' := .tuple #[.string (bif bd (insC x) then e0 else cat (insC x)), .bool (!bd (insC x))]) (by rw [hb]; rfl) (hK _ ((Gx.Ext.refl w).trans x1))
  refine wp_skip ?_
  refine Gx.then_normal ?_
  refine Gx.seq_reg [0, 1, 2, 3] (by kernel_rfl) ?_
  refine Gx.pure [0] [1, 2, 3] [(14, .pointer (some ⟨k1, 0, none⟩))] rfl (by kernel_rfl) ?_
  refine Gx.cons (Gx.op_load rfl (by kernel_rfl) rfl 0 (.int .i64 x.op) (by kernel_rfl) b1 (by kernel_rfl) ?_)
  refine Gx.cons (Gx.op_call rfl (by kernel_rfl) (by kernel_rfl) (fun R hR => Form_8 x.op _ R hf (hR _ _ ?_)))
  refine Gx.pure [3] [] [(4, .int .i64 8)] rfl (by kernel_rfl) ?_
  refine Gx.ops_end ?_
  refine wp_seq ?_
  refine Gx.cut (d' := []) (n' := 90) (fun l' w' => l' = [(1, .pointer (some ⟨k1, 0, none⟩)), (4, .int .i64 8), (57, .bool ((((x.a != (0 : Int)) || (x.b != (0 : Int))) || (!(decide (x.a ≥ (0 : Int)) && decide (x.a ≤ (65535 : Int))))) || (!(decide (x.b ≥ (0 : Int)) && decide (x.b ≤ (65535 : Int))))))] ∧ w1 = w') (fun K2 hK2 => ?_) (fun bb2 ll2 w3 hI2 => ?_)
  · refine Gx.reg [0, 1, 2, 3, 4, 5, 6, 7, 8, 9, 10, 11, 12, 13, 14, 15, 16, 17, 18, 19, 20, 21, 22, 23, 24, 25, 26, 27, 28, 29, 30, 31, 32, 33, 34, 35, 36, 37, 38, 39, 40] (by kernel_rfl) ?_
    refine Gx.pure [0, 1, 2, 3, 4, 5, 6, 7, 8, 9, 10, 11, 12, 13, 14, 15] [16, 17, 18, 19, 20, 21, 22, 23, 24, 25, 26, 27, 28, 29, 30, 31, 32, 33, 34, 35, 36, 37, 38, 39, 40] [(32, .pointer (some ⟨k1, 1, none⟩)), (31, .bool true), (30, .bool true), (29, .bool true), (28, .int .i64 8), (27, .bool true), (26, .bool true), (25, .int .i64 8), (24, .bool false), (23, .bool false), (22, undef), (21, undef), (20, undef), (19, .bool false), (18, .bool false), (17, .int .i64 8)] rfl (by kernel_rfl) ?_
    refine Gx.cons (Gx.op_load rfl (by kernel_rfl) rfl 1 (.int .i64 x.a) (by kernel_rfl) b1 (by kernel_rfl) ?_)
    refine Gx.pure [17, 18, 19, 20] [21, 22, 23, 24, 25, 26, 27, 28, 29, 30, 31, 32, 33, 34, 35, 36, 37, 38, 39, 40] [(37, .bool (x.a != (0 : Int))), (36, .bool (x.a != (0 : Int))), (35, .bool (x.a != (0 : Int))), (34, .bool (x.a != (0 : Int)))] rfl (by kernel_rfl) ?_
    refine Gx.split (x.a != (0 : Int)) (fun h_g37 => ?_) (fun h_g37 => ?_)
    · rw [h_g37]
      refine Gx.pure [21, 22, 23, 24, 25, 26, 27, 28, 29, 30, 31, 32, 33, 34, 35, 36, 37, 38, 39, 40] [] [(57, .bool true), (56, undef), (55, undef), (54, undef), (53, undef), (52, .bool true), (51, .bool true), (50, undef), (49, undef), (48, undef), (47, undef), (46, .bool true), (45, .bool true), (44, undef), (43, undef), (42, undef), (41, undef), (40, undef), (39, undef), (38, undef)] rfl (by kernel_rfl) ?_
      refine Gx.ops_end ?_
      rw [Gx.forget [(1, .pointer (some ⟨k1, 0, none⟩)), (4, .int .i64 8), (57, .bool ((((x.a != (0 : Int)) || (x.b != (0 : Int))) || (!(decide (x.a ≥ (0 : Int)) && decide (x.a ≤ (65535 : Int))))) || (!(decide (x.b ≥ (0 : Int)) && decide (x.b ≤ (65535 : Int))))))] (by rw [h_g37]; try kernel_rfl)]
      exact hK2 _ _ _ ⟨rfl, rfl⟩
    rw [h_g37]
    refine Gx.pure [21, 22, 23, 24] [25, 26, 27, 28, 29, 30, 31, 32, 33, 34, 35, 36, 37, 38, 39, 40] [(41, .pointer (some ⟨k1, 2, none⟩)), (40, .bool true), (39, .bool true), (38, .int .i64 8)] rfl (by kernel_rfl) ?_
    refine Gx.cons (Gx.op_load rfl (by kernel_rfl) rfl 2 (.int .i64 x.b) (by kernel_rfl) b1 (by kernel_rfl) ?_)
    refine Gx.pure [26, 27, 28, 29] [30, 31, 32, 33, 34, 35, 36, 37, 38, 39, 40] [(46, .bool (x.b != (0 : Int))), (45, .bool (x.b != (0 : Int))), (44, .bool (x.b != (0 : Int))), (43, .bool (x.b != (0 : Int)))] rfl (by kernel_rfl) ?_
    refine Gx.split (x.b != (0 : Int)) (fun h_g46 => ?_) (fun h_g46 => ?_)
    · rw [h_g46]
      refine Gx.pure [30, 31, 32, 33, 34, 35, 36, 37, 38, 39, 40] [] [(57, .bool true), (56, undef), (55, undef), (54, undef), (53, undef), (52, .bool true), (51, .bool true), (50, undef), (49, undef), (48, undef), (47, undef)] rfl (by kernel_rfl) ?_
      refine Gx.ops_end ?_
      rw [Gx.forget [(1, .pointer (some ⟨k1, 0, none⟩)), (4, .int .i64 8), (57, .bool ((((x.a != (0 : Int)) || (x.b != (0 : Int))) || (!(decide (x.a ≥ (0 : Int)) && decide (x.a ≤ (65535 : Int))))) || (!(decide (x.b ≥ (0 : Int)) && decide (x.b ≤ (65535 : Int))))))] (by rw [h_g37, h_g46]; try kernel_rfl)]
      exact hK2 _ _ _ ⟨rfl, rfl⟩
    rw [h_g46]
    refine Gx.pure [30] [31, 32, 33, 34, 35, 36, 37, 38, 39, 40] [(47, .pointer (some ⟨k1, 1, none⟩))] rfl (by kernel_rfl) ?_
    refine Gx.cons (Gx.op_load rfl (by kernel_rfl) rfl 1 (.int .i64 x.a) (by kernel_rfl) b1 (by kernel_rfl) ?_)
    refine Gx.cons (Gx.op_call rfl (by kernel_rfl) (by kernel_rfl) (fun R hR => fits_c x.a (65535 : Int) _ R  (hR _ _ ?_)))
    refine Gx.pure [33, 34, 35] [36, 37, 38, 39, 40] [(52, .bool (!(decide (x.a ≥ (0 : Int)) && decide (x.a ≤ (65535 : Int))))), (51, .bool (!(decide (x.a ≥ (0 : Int)) && decide (x.a ≤ (65535 : Int))))), (50, .bool (!(decide (x.a ≥ (0 : Int)) && decide (x.a ≤ (65535 : Int)))))] rfl (by kernel_rfl) ?_
    refine Gx.split (!(decide (x.a ≥ (0 : Int)) && decide (x.a ≤ (65535 : Int)))) (fun h_g52 => ?_) (fun h_g52 => ?_)
    · rw [h_g52]
      refine Gx.pure [36, 37, 38, 39, 40] [] [(57, .bool true), (56, undef), (55, undef), (54, undef), (53, undef)] rfl (by kernel_rfl) ?_
      refine Gx.ops_end ?_
      rw [Gx.forget [(1, .pointer (some ⟨k1, 0, none⟩)), (4, .int .i64 8), (57, .bool ((((x.a != (0 : Int)) || (x.b != (0 : Int))) || (!(decide (x.a ≥ (0 : Int)) && decide (x.a ≤ (65535 : Int))))) || (!(decide (x.b ≥ (0 : Int)) && decide (x.b ≤ (65535 : Int))))))] (by rw [h_g37, h_g46, h_g52]; try kernel_rfl)]
      exact hK2 _ _ _ ⟨rfl, rfl⟩
    rw [h_g52]
    refine Gx.pure [36] [37, 38, 39, 40] [(53, .pointer (some ⟨k1, 2, none⟩))] rfl (by kernel_rfl) ?_
    refine Gx.cons (Gx.op_load rfl (by kernel_rfl) rfl 2 (.int .i64 x.b) (by kernel_rfl) b1 (by kernel_rfl) ?_)
    refine Gx.cons (Gx.op_call rfl (by kernel_rfl) (by kernel_rfl) (fun R hR => fits_c x.b (65535 : Int) _ R  (hR _ _ ?_)))
    refine Gx.pure [39, 40] [] [(57, .bool (!(decide (x.b ≥ (0 : Int)) && decide (x.b ≤ (65535 : Int))))), (56, .bool (!(decide (x.b ≥ (0 : Int)) && decide (x.b ≤ (65535 : Int)))))] rfl (by kernel_rfl) ?_
    refine Gx.ops_end ?_
    rw [Gx.forget [(1, .pointer (some ⟨k1, 0, none⟩)), (4, .int .i64 8), (57, .bool ((((x.a != (0 : Int)) || (x.b != (0 : Int))) || (!(decide (x.a ≥ (0 : Int)) && decide (x.a ≤ (65535 : Int))))) || (!(decide (x.b ≥ (0 : Int)) && decide (x.b ≤ (65535 : Int))))))] (by rw [h_g37, h_g46, h_g52]; try kernel_rfl)]
    exact hK2 _ _ _ ⟨rfl, rfl⟩
  obtain ⟨rfl, rfl⟩ := hI2
  refine Gx.cond ((((x.a != (0 : Int)) || (x.b != (0 : Int))) || (!(decide (x.a ≥ (0 : Int)) && decide (x.a ≤ (65535 : Int))))) || (!(decide (x.b ≥ (0 : Int)) && decide (x.b ≤ (65535 : Int))))) (by kernel_rfl) (fun h_c57 => ?_) (fun h_c57 => ?_)
  · skip
    refine Gx.seq_run [(3, .bool false), (2, .string (⟨#[]⟩ : ByteArray))] (by kernel_rfl) ?_
    refine wp_ret ?_
    refine Gx.then_ret ?_
    refine Gx.ret (Gx.res2 (v := .string (⟨#[]⟩ : ByteArray)) (u := .bool false) rfl (by kernel_rfl) (by kernel_rfl)) ?_
    have p_c13 := h_c13; try simp [-List.getD_eq_getElem?_getD] at p_c13
    have p_c57 := h_c57; try simp [-List.getD_eq_getElem?_getD] at p_c57
    have ho : 0 ≤ x.op ∧ x.op < 23 := by simp at h_c13; omega
    have hb : bd (insC x) = true := by rw [bd_ins ho, hf]; simp [over, hf, fitB]; simp at h_c57; omega
    exact Gx.ret_as (v' := .tuple #[.string (bif bd (insC x) then e0 else cat (insC x)), .bool (!bd (insC x))]) (by rw [hb]; rfl) (hK _ ((Gx.Ext.refl w).trans x1))
  refine wp_skip ?_
  refine Gx.then_normal ?_
  refine Gx.seq_reg [0, 1, 2, 3, 4, 5] (by kernel_rfl) ?_
  refine Gx.pure [0] [1, 2, 3, 4, 5] [(58, .pointer (some ⟨k1, 0, none⟩))] rfl (by kernel_rfl) ?_
  refine Gx.cons (Gx.op_load rfl (by kernel_rfl) rfl 0 (.int .i64 x.op) (by kernel_rfl) b1 (by kernel_rfl) ?_)
  have p_c13 := h_c13; try simp [-List.getD_eq_getElem?_getD] at p_c13
  have p_c57 := h_c57; try simp [-List.getD_eq_getElem?_getD] at p_c57
  refine Gx.pure_eq [2] [3, 4, 5] [(60, .int .u8 (IntKind.u8.wrap x.op))] [(60, .int .u8 ((byteI x.op 0 : Nat) : Int))] rfl (by kernel_rfl) (Gx.eqI (by rw [IntKind.wrap_u8, byteI_cast]; simp)) ?_
  refine Gx.cons (Gx.op_row (.cells #[.int .u8 ((byteI x.op 0 : Nat) : Int)] 5) 1 1 rfl (by kernel_rfl) (by kernel_rfl) (fun k2 w4 l2 x2 b2 => ?_))
  have zw4 := x2.size
  have tb2 := b2.lt
  refine Gx.cons (Gx.op_bstr rfl (by kernel_rfl) rfl 5 (by kernel_rfl) (by kernel_rfl) (by kernel_rfl) 0 1 1 (by kernel_rfl) b2 [UInt8.ofNat (byteI x.op 0)] rfl (Gx.bstr1 (by have := byteI_lt x.op 0; omega)) ?_)
  refine Gx.pure [5] [] [(5, .string (⟨#[UInt8.ofNat (byteI x.op 0)]⟩ : ByteArray))] rfl (by kernel_rfl) ?_
  refine Gx.ops_end ?_
  refine wp_seq ?_
  refine Gx.seq_run [(63, .int .i64 8)] (by kernel_rfl) ?_
  refine wp_block ?_
  refine Gx.seq_run [(64, .bool true), (65, .bool true)] (by kernel_rfl) ?_
  refine Gx.cond_t (by kernel_rfl) ?_
  refine Gx.reg [0, 1, 2, 3, 4, 5] (by kernel_rfl) ?_
  refine Gx.pure [0, 1] [2, 3, 4, 5] [(67, .pointer (some ⟨k1, 3, none⟩)), (66, .string (⟨#[UInt8.ofNat (byteI x.op 0)]⟩ : ByteArray))] rfl (by kernel_rfl) ?_
  refine Gx.cons (Gx.op_load rfl (by kernel_rfl) rfl 3 (.int .i64 x.n) (by kernel_rfl) (b1.ext x2) (by kernel_rfl) ?_)
  refine Gx.cons (Gx.op_call rfl (by kernel_rfl) (by kernel_rfl) (fun R hR => big_c x.n 8 _ R (by omega) (fun w5 x3  => hR _ _ ?_)))
  have zw5 := x3.size
  refine Gx.cons (Gx.op_concat rfl (by kernel_rfl) rfl (⟨#[UInt8.ofNat (byteI x.op 0)]⟩ : ByteArray) (bigB x.n 8) (by kernel_rfl) (by kernel_rfl) (by simp only [ByteArray.size_append, bigB_size]; first | omega | (show 1 + _ ≤ _; omega) | (show 1 + _ + _ ≤ _; omega)) ?_)
  refine Gx.pure [5] [] [(5, .string ((⟨#[UInt8.ofNat (byteI x.op 0)]⟩ : ByteArray) ++ (bigB x.n 8)))] rfl (by kernel_rfl) ?_
  refine Gx.ops_nil ?_
  refine Gx.block_normal ?_
  refine Gx.then_normal ?_
  refine Gx.seq_run [(3, .bool true), (2, .string ((⟨#[UInt8.ofNat (byteI x.op 0)]⟩ : ByteArray) ++ (bigB x.n 8))), (89, .string ((⟨#[UInt8.ofNat (byteI x.op 0)]⟩ : ByteArray) ++ (bigB x.n 8)))] (by kernel_rfl) ?_
  refine wp_ret ?_
  refine Gx.ret (Gx.res2 (v := .string ((⟨#[UInt8.ofNat (byteI x.op 0)]⟩ : ByteArray) ++ (bigB x.n 8))) (u := .bool true) rfl (by kernel_rfl) (by kernel_rfl)) ?_
  have ho : 0 ≤ x.op ∧ x.op < 23 := by simp at h_c13; omega
  have hb : bd (insC x) = false := by rw [bd_ins ho, hf]; simp [over, hf, fitB]; simp at h_c57; omega
  exact Gx.ret_as (v' := .tuple #[.string (bif bd (insC x) then e0 else cat (insC x)), .bool (!bd (insC x))]) (by have hc := cat_ins ho hb; simp only [hf] at hc; rw [hb, cond_false, hc]; rfl) (hK _ ((((Gx.Ext.refl w).trans x1).trans x2).trans x3))

set_option maxHeartbeats 400000 in
set_option maxRecDepth 10000 in
theorem rins_1 (x : InsP) (w : World) (K : Ending → World → Prop) (hf : form x.op = 1) (hK : ∀ w', Gx.Ext w w' → K (.returned (.tuple #[.string (bif bd (insC x) then e0 else cat (insC x)), .bool (!bd (insC x))])) w') :
    Calls Try.prog 12 #[.agg #[.int .i64 x.op, .int .i64 x.a, .int .i64 x.b, .int .i64 x.n]] w K := by
  refine Gx.enter 90 Try.func12 rfl rfl (Nat.le_of_ble_eq_true rfl) ?_
  refine Gx.seq_reg [0, 1, 2] (by kernel_rfl) ?_
  refine Gx.cons (Gx.op_new (.cells #[.int .i64 x.op, .int .i64 x.a, .int .i64 x.b, .int .i64 x.n] 46) rfl (by kernel_rfl) (by kernel_rfl) (fun k1 w1 l1 x1 b1 => ?_))
  have zw1 := x1.size
  have tb1 := b1.lt
  refine Gx.pure [1, 2] [] [(3, .bool false), (2, .string (⟨#[]⟩ : ByteArray))] rfl (by kernel_rfl) ?_
  refine Gx.ops_end ?_
  refine wp_seq ?_
  refine Gx.cut (d' := []) (n' := 90) (fun l' w' => l' = [(1, .pointer (some ⟨k1, 0, none⟩)), (13, .bool ((decide (x.op < (0 : Int))) || (decide (x.op ≥ (23 : Int)))))] ∧ w1 = w') (fun K1 hK1 => ?_) (fun bb1 ll1 w2 hI1 => ?_)
  · refine Gx.reg [0, 1, 2, 3, 4, 5, 6, 7] (by kernel_rfl) ?_
    refine Gx.pure [0] [1, 2, 3, 4, 5, 6, 7] [(6, .pointer (some ⟨k1, 0, none⟩))] rfl (by kernel_rfl) ?_
    refine Gx.cons (Gx.op_load rfl (by kernel_rfl) rfl 0 (.int .i64 x.op) (by kernel_rfl) b1 (by kernel_rfl) ?_)
    refine Gx.pure [2, 3] [4, 5, 6, 7] [(9, .bool (decide (x.op < (0 : Int)))), (8, .bool (decide (x.op < (0 : Int))))] rfl (by kernel_rfl) ?_
    refine Gx.split (decide (x.op < (0 : Int))) (fun h_g9 => ?_) (fun h_g9 => ?_)
    · rw [h_g9]
      refine Gx.pure [4, 5, 6, 7] [] [(13, .bool true), (12, undef), (11, undef), (10, undef)] rfl (by kernel_rfl) ?_
      refine Gx.ops_end ?_
      rw [Gx.forget [(1, .pointer (some ⟨k1, 0, none⟩)), (13, .bool ((decide (x.op < (0 : Int))) || (decide (x.op ≥ (23 : Int)))))] (by rw [h_g9]; try kernel_rfl)]
      exact hK1 _ _ _ ⟨rfl, rfl⟩
    rw [h_g9]
    refine Gx.pure [4] [5, 6, 7] [(10, .pointer (some ⟨k1, 0, none⟩))] rfl (by kernel_rfl) ?_
    refine Gx.cons (Gx.op_load rfl (by kernel_rfl) rfl 0 (.int .i64 x.op) (by kernel_rfl) b1 (by kernel_rfl) ?_)
    refine Gx.pure [6, 7] [] [(13, .bool (decide (x.op ≥ (23 : Int)))), (12, .bool (decide (x.op ≥ (23 : Int))))] rfl (by kernel_rfl) ?_
    refine Gx.ops_end ?_
    rw [Gx.forget [(1, .pointer (some ⟨k1, 0, none⟩)), (13, .bool ((decide (x.op < (0 : Int))) || (decide (x.op ≥ (23 : Int)))))] (by rw [h_g9]; try kernel_rfl)]
    exact hK1 _ _ _ ⟨rfl, rfl⟩
  obtain ⟨rfl, rfl⟩ := hI1
  refine Gx.cond ((decide (x.op < (0 : Int))) || (decide (x.op ≥ (23 : Int)))) (by kernel_rfl) (fun h_c13 => ?_) (fun h_c13 => ?_)
  · skip
    refine Gx.seq_run [(3, .bool false), (2, .string (⟨#[]⟩ : ByteArray))] (by kernel_rfl) ?_
    refine wp_ret ?_
    refine Gx.then_ret ?_
    refine Gx.ret (Gx.res2 (v := .string (⟨#[]⟩ : ByteArray)) (u := .bool false) rfl (by kernel_rfl) (by kernel_rfl)) ?_
    have p_c13 := h_c13; try simp [-List.getD_eq_getElem?_getD] at p_c13
    have hb := ins_wrong (x := x) (by simpa using h_c13)
    exact Gx.ret_as (v' := .tuple #[.string (bif bd (insC x) then e0 else cat (insC x)), .bool (!bd (insC x))]) (by rw [hb]; rfl) (hK _ ((Gx.Ext.refl w).trans x1))
  refine wp_skip ?_
  refine Gx.then_normal ?_
  refine Gx.seq_reg [0, 1, 2, 3] (by kernel_rfl) ?_
  refine Gx.pure [0] [1, 2, 3] [(14, .pointer (some ⟨k1, 0, none⟩))] rfl (by kernel_rfl) ?_
  refine Gx.cons (Gx.op_load rfl (by kernel_rfl) rfl 0 (.int .i64 x.op) (by kernel_rfl) b1 (by kernel_rfl) ?_)
  refine Gx.cons (Gx.op_call rfl (by kernel_rfl) (by kernel_rfl) (fun R hR => Form_1 x.op _ R hf (hR _ _ ?_)))
  refine Gx.pure [3] [] [(4, .int .i64 1)] rfl (by kernel_rfl) ?_
  refine Gx.ops_end ?_
  refine wp_seq ?_
  refine Gx.cut (d' := []) (n' := 90) (fun l' w' => l' = [(1, .pointer (some ⟨k1, 0, none⟩)), (4, .int .i64 1), (57, .bool (((((x.n != (0 : Int)) || false) || (x.b != (0 : Int))) || (!(decide (x.a ≥ (0 : Int)) && decide (x.a ≤ (65535 : Int))))) || (!(decide (x.b ≥ (0 : Int)) && decide (x.b ≤ (65535 : Int))))))] ∧ w1 = w') (fun K2 hK2 => ?_) (fun bb2 ll2 w3 hI2 => ?_)
  · refine Gx.reg [0, 1, 2, 3, 4, 5, 6, 7, 8, 9, 10, 11, 12, 13, 14, 15, 16, 17, 18, 19, 20, 21, 22, 23, 24, 25, 26, 27, 28, 29, 30, 31, 32, 33, 34, 35, 36, 37, 38, 39, 40] (by kernel_rfl) ?_
    refine Gx.pure [0, 1, 2, 3] [4, 5, 6, 7, 8, 9, 10, 11, 12, 13, 14, 15, 16, 17, 18, 19, 20, 21, 22, 23, 24, 25, 26, 27, 28, 29, 30, 31, 32, 33, 34, 35, 36, 37, 38, 39, 40] [(20, .pointer (some ⟨k1, 3, none⟩)), (19, .bool true), (18, .bool true), (17, .int .i64 1)] rfl (by kernel_rfl) ?_
    refine Gx.cons (Gx.op_load rfl (by kernel_rfl) rfl 3 (.int .i64 x.n) (by kernel_rfl) b1 (by kernel_rfl) ?_)
    refine Gx.pure [5, 6, 7] [8, 9, 10, 11, 12, 13, 14, 15, 16, 17, 18, 19, 20, 21, 22, 23, 24, 25, 26, 27, 28, 29, 30, 31, 32, 33, 34, 35, 36, 37, 38, 39, 40] [(24, .bool (x.n != (0 : Int))), (23, .bool (x.n != (0 : Int))), (22, .bool (x.n != (0 : Int)))] rfl (by kernel_rfl) ?_
    refine Gx.split (x.n != (0 : Int)) (fun h_g24 => ?_) (fun h_g24 => ?_)
    · rw [h_g24]
      refine Gx.pure [8, 9, 10, 11, 12, 13, 14, 15, 16, 17, 18, 19, 20, 21, 22, 23, 24, 25, 26, 27, 28, 29, 30, 31, 32, 33, 34, 35, 36, 37, 38, 39, 40] [] [(57, .bool true), (56, undef), (55, undef), (54, undef), (53, undef), (52, .bool true), (51, .bool true), (50, undef), (49, undef), (48, undef), (47, undef), (46, .bool true), (45, .bool true), (44, undef), (43, undef), (42, undef), (41, undef), (40, undef), (39, undef), (38, undef), (37, .bool true), (36, .bool true), (35, undef), (34, undef), (33, undef), (32, undef), (31, undef), (30, undef), (29, undef), (28, undef), (27, undef), (26, undef), (25, undef)] rfl (by kernel_rfl) ?_
      refine Gx.ops_end ?_
      rw [Gx.forget [(1, .pointer (some ⟨k1, 0, none⟩)), (4, .int .i64 1), (57, .bool (((((x.n != (0 : Int)) || false) || (x.b != (0 : Int))) || (!(decide (x.a ≥ (0 : Int)) && decide (x.a ≤ (65535 : Int))))) || (!(decide (x.b ≥ (0 : Int)) && decide (x.b ≤ (65535 : Int))))))] (by rw [h_g24]; try kernel_rfl)]
      exact hK2 _ _ _ ⟨rfl, rfl⟩
    rw [h_g24]
    refine Gx.pure [8, 9, 10, 11, 12, 13, 14, 15, 16, 17, 18, 19, 20, 21, 22, 23, 24] [25, 26, 27, 28, 29, 30, 31, 32, 33, 34, 35, 36, 37, 38, 39, 40] [(41, .pointer (some ⟨k1, 2, none⟩)), (40, .bool true), (39, .bool true), (38, .int .i64 1), (37, .bool false), (36, .bool false), (35, .bool false), (34, undef), (33, undef), (32, undef), (31, .bool false), (30, .bool false), (29, undef), (28, undef), (27, .bool false), (26, .bool false), (25, .int .i64 1)] rfl (by kernel_rfl) ?_
    refine Gx.cons (Gx.op_load rfl (by kernel_rfl) rfl 2 (.int .i64 x.b) (by kernel_rfl) b1 (by kernel_rfl) ?_)
    refine Gx.pure [26, 27, 28, 29] [30, 31, 32, 33, 34, 35, 36, 37, 38, 39, 40] [(46, .bool (x.b != (0 : Int))), (45, .bool (x.b != (0 : Int))), (44, .bool (x.b != (0 : Int))), (43, .bool (x.b != (0 : Int)))] rfl (by kernel_rfl) ?_
    refine Gx.split (x.b != (0 : Int)) (fun h_g46 => ?_) (fun h_g46 => ?_)
    · rw [h_g46]
      refine Gx.pure [30, 31, 32, 33, 34, 35, 36, 37, 38, 39, 40] [] [(57, .bool true), (56, undef), (55, undef), (54, undef), (53, undef), (52, .bool true), (51, .bool true), (50, undef), (49, undef), (48, undef), (47, undef)] rfl (by kernel_rfl) ?_
      refine Gx.ops_end ?_
      rw [Gx.forget [(1, .pointer (some ⟨k1, 0, none⟩)), (4, .int .i64 1), (57, .bool (((((x.n != (0 : Int)) || false) || (x.b != (0 : Int))) || (!(decide (x.a ≥ (0 : Int)) && decide (x.a ≤ (65535 : Int))))) || (!(decide (x.b ≥ (0 : Int)) && decide (x.b ≤ (65535 : Int))))))] (by rw [h_g24, h_g46]; try kernel_rfl)]
      exact hK2 _ _ _ ⟨rfl, rfl⟩
    rw [h_g46]
    refine Gx.pure [30] [31, 32, 33, 34, 35, 36, 37, 38, 39, 40] [(47, .pointer (some ⟨k1, 1, none⟩))] rfl (by kernel_rfl) ?_
    refine Gx.cons (Gx.op_load rfl (by kernel_rfl) rfl 1 (.int .i64 x.a) (by kernel_rfl) b1 (by kernel_rfl) ?_)
    refine Gx.cons (Gx.op_call rfl (by kernel_rfl) (by kernel_rfl) (fun R hR => fits_c x.a (65535 : Int) _ R  (hR _ _ ?_)))
    refine Gx.pure [33, 34, 35] [36, 37, 38, 39, 40] [(52, .bool (!(decide (x.a ≥ (0 : Int)) && decide (x.a ≤ (65535 : Int))))), (51, .bool (!(decide (x.a ≥ (0 : Int)) && decide (x.a ≤ (65535 : Int))))), (50, .bool (!(decide (x.a ≥ (0 : Int)) && decide (x.a ≤ (65535 : Int)))))] rfl (by kernel_rfl) ?_
    refine Gx.split (!(decide (x.a ≥ (0 : Int)) && decide (x.a ≤ (65535 : Int)))) (fun h_g52 => ?_) (fun h_g52 => ?_)
    · rw [h_g52]
      refine Gx.pure [36, 37, 38, 39, 40] [] [(57, .bool true), (56, undef), (55, undef), (54, undef), (53, undef)] rfl (by kernel_rfl) ?_
      refine Gx.ops_end ?_
      rw [Gx.forget [(1, .pointer (some ⟨k1, 0, none⟩)), (4, .int .i64 1), (57, .bool (((((x.n != (0 : Int)) || false) || (x.b != (0 : Int))) || (!(decide (x.a ≥ (0 : Int)) && decide (x.a ≤ (65535 : Int))))) || (!(decide (x.b ≥ (0 : Int)) && decide (x.b ≤ (65535 : Int))))))] (by rw [h_g24, h_g46, h_g52]; try kernel_rfl)]
      exact hK2 _ _ _ ⟨rfl, rfl⟩
    rw [h_g52]
    refine Gx.pure [36] [37, 38, 39, 40] [(53, .pointer (some ⟨k1, 2, none⟩))] rfl (by kernel_rfl) ?_
    refine Gx.cons (Gx.op_load rfl (by kernel_rfl) rfl 2 (.int .i64 x.b) (by kernel_rfl) b1 (by kernel_rfl) ?_)
    refine Gx.cons (Gx.op_call rfl (by kernel_rfl) (by kernel_rfl) (fun R hR => fits_c x.b (65535 : Int) _ R  (hR _ _ ?_)))
    refine Gx.pure [39, 40] [] [(57, .bool (!(decide (x.b ≥ (0 : Int)) && decide (x.b ≤ (65535 : Int))))), (56, .bool (!(decide (x.b ≥ (0 : Int)) && decide (x.b ≤ (65535 : Int)))))] rfl (by kernel_rfl) ?_
    refine Gx.ops_end ?_
    rw [Gx.forget [(1, .pointer (some ⟨k1, 0, none⟩)), (4, .int .i64 1), (57, .bool (((((x.n != (0 : Int)) || false) || (x.b != (0 : Int))) || (!(decide (x.a ≥ (0 : Int)) && decide (x.a ≤ (65535 : Int))))) || (!(decide (x.b ≥ (0 : Int)) && decide (x.b ≤ (65535 : Int))))))] (by rw [h_g24, h_g46, h_g52]; try kernel_rfl)]
    exact hK2 _ _ _ ⟨rfl, rfl⟩
  obtain ⟨rfl, rfl⟩ := hI2
  refine Gx.cond (((((x.n != (0 : Int)) || false) || (x.b != (0 : Int))) || (!(decide (x.a ≥ (0 : Int)) && decide (x.a ≤ (65535 : Int))))) || (!(decide (x.b ≥ (0 : Int)) && decide (x.b ≤ (65535 : Int))))) (by kernel_rfl) (fun h_c57 => ?_) (fun h_c57 => ?_)
  · skip
    refine Gx.seq_run [(3, .bool false), (2, .string (⟨#[]⟩ : ByteArray))] (by kernel_rfl) ?_
    refine wp_ret ?_
    refine Gx.then_ret ?_
    refine Gx.ret (Gx.res2 (v := .string (⟨#[]⟩ : ByteArray)) (u := .bool false) rfl (by kernel_rfl) (by kernel_rfl)) ?_
    have p_c13 := h_c13; try simp [-List.getD_eq_getElem?_getD] at p_c13
    have p_c57 := h_c57; try simp [-List.getD_eq_getElem?_getD] at p_c57
    have ho : 0 ≤ x.op ∧ x.op < 23 := by simp at h_c13; omega
    have hb : bd (insC x) = true := by rw [bd_ins ho, hf]; simp [over, hf, fitB]; simp at h_c57; omega
    exact Gx.ret_as (v' := .tuple #[.string (bif bd (insC x) then e0 else cat (insC x)), .bool (!bd (insC x))]) (by rw [hb]; rfl) (hK _ ((Gx.Ext.refl w).trans x1))
  refine wp_skip ?_
  refine Gx.then_normal ?_
  refine Gx.seq_reg [0, 1, 2, 3, 4, 5] (by kernel_rfl) ?_
  refine Gx.pure [0] [1, 2, 3, 4, 5] [(58, .pointer (some ⟨k1, 0, none⟩))] rfl (by kernel_rfl) ?_
  refine Gx.cons (Gx.op_load rfl (by kernel_rfl) rfl 0 (.int .i64 x.op) (by kernel_rfl) b1 (by kernel_rfl) ?_)
  have p_c13 := h_c13; try simp [-List.getD_eq_getElem?_getD] at p_c13
  have p_c57 := h_c57; try simp [-List.getD_eq_getElem?_getD] at p_c57
  refine Gx.pure_eq [2] [3, 4, 5] [(60, .int .u8 (IntKind.u8.wrap x.op))] [(60, .int .u8 ((byteI x.op 0 : Nat) : Int))] rfl (by kernel_rfl) (Gx.eqI (by rw [IntKind.wrap_u8, byteI_cast]; simp)) ?_
  refine Gx.cons (Gx.op_row (.cells #[.int .u8 ((byteI x.op 0 : Nat) : Int)] 5) 1 1 rfl (by kernel_rfl) (by kernel_rfl) (fun k2 w4 l2 x2 b2 => ?_))
  have zw4 := x2.size
  have tb2 := b2.lt
  refine Gx.cons (Gx.op_bstr rfl (by kernel_rfl) rfl 5 (by kernel_rfl) (by kernel_rfl) (by kernel_rfl) 0 1 1 (by kernel_rfl) b2 [UInt8.ofNat (byteI x.op 0)] rfl (Gx.bstr1 (by have := byteI_lt x.op 0; omega)) ?_)
  refine Gx.pure [5] [] [(5, .string (⟨#[UInt8.ofNat (byteI x.op 0)]⟩ : ByteArray))] rfl (by kernel_rfl) ?_
  refine Gx.ops_end ?_
  refine wp_seq ?_
  refine Gx.seq_run [(63, .int .i64 1)] (by kernel_rfl) ?_
  refine wp_block ?_
  refine Gx.seq_run [(64, .bool false), (65, .bool false)] (by kernel_rfl) ?_
  refine Gx.cond_f (by kernel_rfl) ?_
  refine Gx.seq_run [(71, .bool true), (72, .bool true)] (by kernel_rfl) ?_
  refine Gx.cond_t (by kernel_rfl) ?_
  refine Gx.reg [0, 1, 2, 3, 4, 5] (by kernel_rfl) ?_
  refine Gx.pure [0, 1] [2, 3, 4, 5] [(74, .pointer (some ⟨k1, 1, none⟩)), (73, .string (⟨#[UInt8.ofNat (byteI x.op 0)]⟩ : ByteArray))] rfl (by kernel_rfl) ?_
  refine Gx.cons (Gx.op_load rfl (by kernel_rfl) rfl 1 (.int .i64 x.a) (by kernel_rfl) (b1.ext x2) (by kernel_rfl) ?_)
  refine Gx.cons (Gx.op_call rfl (by kernel_rfl) (by kernel_rfl) (fun R hR => big_c x.a 2 _ R (by omega) (fun w5 x3  => hR _ _ ?_)))
  have zw5 := x3.size
  refine Gx.cons (Gx.op_concat rfl (by kernel_rfl) rfl (⟨#[UInt8.ofNat (byteI x.op 0)]⟩ : ByteArray) (bigB x.a 2) (by kernel_rfl) (by kernel_rfl) (by simp only [ByteArray.size_append, bigB_size]; first | omega | (show 1 + _ ≤ _; omega) | (show 1 + _ + _ ≤ _; omega)) ?_)
  refine Gx.pure [5] [] [(5, .string ((⟨#[UInt8.ofNat (byteI x.op 0)]⟩ : ByteArray) ++ (bigB x.a 2)))] rfl (by kernel_rfl) ?_
  refine Gx.ops_nil ?_
  refine Gx.block_normal ?_
  refine Gx.then_normal ?_
  refine Gx.seq_run [(3, .bool true), (2, .string ((⟨#[UInt8.ofNat (byteI x.op 0)]⟩ : ByteArray) ++ (bigB x.a 2))), (89, .string ((⟨#[UInt8.ofNat (byteI x.op 0)]⟩ : ByteArray) ++ (bigB x.a 2)))] (by kernel_rfl) ?_
  refine wp_ret ?_
  refine Gx.ret (Gx.res2 (v := .string ((⟨#[UInt8.ofNat (byteI x.op 0)]⟩ : ByteArray) ++ (bigB x.a 2))) (u := .bool true) rfl (by kernel_rfl) (by kernel_rfl)) ?_
  have ho : 0 ≤ x.op ∧ x.op < 23 := by simp at h_c13; omega
  have hb : bd (insC x) = false := by rw [bd_ins ho, hf]; simp [over, hf, fitB]; simp at h_c57; omega
  exact Gx.ret_as (v' := .tuple #[.string (bif bd (insC x) then e0 else cat (insC x)), .bool (!bd (insC x))]) (by have hc := cat_ins ho hb; simp only [hf] at hc; rw [hb, cond_false, hc]; rfl) (hK _ ((((Gx.Ext.refl w).trans x1).trans x2).trans x3))

set_option maxHeartbeats 400000 in
set_option maxRecDepth 10000 in
theorem rins_2 (x : InsP) (w : World) (K : Ending → World → Prop) (hf : form x.op = 2) (hK : ∀ w', Gx.Ext w w' → K (.returned (.tuple #[.string (bif bd (insC x) then e0 else cat (insC x)), .bool (!bd (insC x))])) w') :
    Calls Try.prog 12 #[.agg #[.int .i64 x.op, .int .i64 x.a, .int .i64 x.b, .int .i64 x.n]] w K := by
  refine Gx.enter 90 Try.func12 rfl rfl (Nat.le_of_ble_eq_true rfl) ?_
  refine Gx.seq_reg [0, 1, 2] (by kernel_rfl) ?_
  refine Gx.cons (Gx.op_new (.cells #[.int .i64 x.op, .int .i64 x.a, .int .i64 x.b, .int .i64 x.n] 46) rfl (by kernel_rfl) (by kernel_rfl) (fun k1 w1 l1 x1 b1 => ?_))
  have zw1 := x1.size
  have tb1 := b1.lt
  refine Gx.pure [1, 2] [] [(3, .bool false), (2, .string (⟨#[]⟩ : ByteArray))] rfl (by kernel_rfl) ?_
  refine Gx.ops_end ?_
  refine wp_seq ?_
  refine Gx.cut (d' := []) (n' := 90) (fun l' w' => l' = [(1, .pointer (some ⟨k1, 0, none⟩)), (13, .bool ((decide (x.op < (0 : Int))) || (decide (x.op ≥ (23 : Int)))))] ∧ w1 = w') (fun K1 hK1 => ?_) (fun bb1 ll1 w2 hI1 => ?_)
  · refine Gx.reg [0, 1, 2, 3, 4, 5, 6, 7] (by kernel_rfl) ?_
    refine Gx.pure [0] [1, 2, 3, 4, 5, 6, 7] [(6, .pointer (some ⟨k1, 0, none⟩))] rfl (by kernel_rfl) ?_
    refine Gx.cons (Gx.op_load rfl (by kernel_rfl) rfl 0 (.int .i64 x.op) (by kernel_rfl) b1 (by kernel_rfl) ?_)
    refine Gx.pure [2, 3] [4, 5, 6, 7] [(9, .bool (decide (x.op < (0 : Int)))), (8, .bool (decide (x.op < (0 : Int))))] rfl (by kernel_rfl) ?_
    refine Gx.split (decide (x.op < (0 : Int))) (fun h_g9 => ?_) (fun h_g9 => ?_)
    · rw [h_g9]
      refine Gx.pure [4, 5, 6, 7] [] [(13, .bool true), (12, undef), (11, undef), (10, undef)] rfl (by kernel_rfl) ?_
      refine Gx.ops_end ?_
      rw [Gx.forget [(1, .pointer (some ⟨k1, 0, none⟩)), (13, .bool ((decide (x.op < (0 : Int))) || (decide (x.op ≥ (23 : Int)))))] (by rw [h_g9]; try kernel_rfl)]
      exact hK1 _ _ _ ⟨rfl, rfl⟩
    rw [h_g9]
    refine Gx.pure [4] [5, 6, 7] [(10, .pointer (some ⟨k1, 0, none⟩))] rfl (by kernel_rfl) ?_
    refine Gx.cons (Gx.op_load rfl (by kernel_rfl) rfl 0 (.int .i64 x.op) (by kernel_rfl) b1 (by kernel_rfl) ?_)
    refine Gx.pure [6, 7] [] [(13, .bool (decide (x.op ≥ (23 : Int)))), (12, .bool (decide (x.op ≥ (23 : Int))))] rfl (by kernel_rfl) ?_
    refine Gx.ops_end ?_
    rw [Gx.forget [(1, .pointer (some ⟨k1, 0, none⟩)), (13, .bool ((decide (x.op < (0 : Int))) || (decide (x.op ≥ (23 : Int)))))] (by rw [h_g9]; try kernel_rfl)]
    exact hK1 _ _ _ ⟨rfl, rfl⟩
  obtain ⟨rfl, rfl⟩ := hI1
  refine Gx.cond ((decide (x.op < (0 : Int))) || (decide (x.op ≥ (23 : Int)))) (by kernel_rfl) (fun h_c13 => ?_) (fun h_c13 => ?_)
  · skip
    refine Gx.seq_run [(3, .bool false), (2, .string (⟨#[]⟩ : ByteArray))] (by kernel_rfl) ?_
    refine wp_ret ?_
    refine Gx.then_ret ?_
    refine Gx.ret (Gx.res2 (v := .string (⟨#[]⟩ : ByteArray)) (u := .bool false) rfl (by kernel_rfl) (by kernel_rfl)) ?_
    have p_c13 := h_c13; try simp [-List.getD_eq_getElem?_getD] at p_c13
    have hb := ins_wrong (x := x) (by simpa using h_c13)
    exact Gx.ret_as (v' := .tuple #[.string (bif bd (insC x) then e0 else cat (insC x)), .bool (!bd (insC x))]) (by rw [hb]; rfl) (hK _ ((Gx.Ext.refl w).trans x1))
  refine wp_skip ?_
  refine Gx.then_normal ?_
  refine Gx.seq_reg [0, 1, 2, 3] (by kernel_rfl) ?_
  refine Gx.pure [0] [1, 2, 3] [(14, .pointer (some ⟨k1, 0, none⟩))] rfl (by kernel_rfl) ?_
  refine Gx.cons (Gx.op_load rfl (by kernel_rfl) rfl 0 (.int .i64 x.op) (by kernel_rfl) b1 (by kernel_rfl) ?_)
  refine Gx.cons (Gx.op_call rfl (by kernel_rfl) (by kernel_rfl) (fun R hR => Form_2 x.op _ R hf (hR _ _ ?_)))
  refine Gx.pure [3] [] [(4, .int .i64 2)] rfl (by kernel_rfl) ?_
  refine Gx.ops_end ?_
  refine wp_seq ?_
  refine Gx.cut (d' := []) (n' := 90) (fun l' w' => l' = [(1, .pointer (some ⟨k1, 0, none⟩)), (4, .int .i64 2), (57, .bool (((((x.n != (0 : Int)) || false) || false) || (!(decide (x.a ≥ (0 : Int)) && decide (x.a ≤ (65535 : Int))))) || (!(decide (x.b ≥ (0 : Int)) && decide (x.b ≤ (65535 : Int))))))] ∧ w1 = w') (fun K2 hK2 => ?_) (fun bb2 ll2 w3 hI2 => ?_)
  · refine Gx.reg [0, 1, 2, 3, 4, 5, 6, 7, 8, 9, 10, 11, 12, 13, 14, 15, 16, 17, 18, 19, 20, 21, 22, 23, 24, 25, 26, 27, 28, 29, 30, 31, 32, 33, 34, 35, 36, 37, 38, 39, 40] (by kernel_rfl) ?_
    refine Gx.pure [0, 1, 2, 3] [4, 5, 6, 7, 8, 9, 10, 11, 12, 13, 14, 15, 16, 17, 18, 19, 20, 21, 22, 23, 24, 25, 26, 27, 28, 29, 30, 31, 32, 33, 34, 35, 36, 37, 38, 39, 40] [(20, .pointer (some ⟨k1, 3, none⟩)), (19, .bool true), (18, .bool true), (17, .int .i64 2)] rfl (by kernel_rfl) ?_
    refine Gx.cons (Gx.op_load rfl (by kernel_rfl) rfl 3 (.int .i64 x.n) (by kernel_rfl) b1 (by kernel_rfl) ?_)
    refine Gx.pure [5, 6, 7] [8, 9, 10, 11, 12, 13, 14, 15, 16, 17, 18, 19, 20, 21, 22, 23, 24, 25, 26, 27, 28, 29, 30, 31, 32, 33, 34, 35, 36, 37, 38, 39, 40] [(24, .bool (x.n != (0 : Int))), (23, .bool (x.n != (0 : Int))), (22, .bool (x.n != (0 : Int)))] rfl (by kernel_rfl) ?_
    refine Gx.split (x.n != (0 : Int)) (fun h_g24 => ?_) (fun h_g24 => ?_)
    · rw [h_g24]
      refine Gx.pure [8, 9, 10, 11, 12, 13, 14, 15, 16, 17, 18, 19, 20, 21, 22, 23, 24, 25, 26, 27, 28, 29, 30, 31, 32, 33, 34, 35, 36, 37, 38, 39, 40] [] [(57, .bool true), (56, undef), (55, undef), (54, undef), (53, undef), (52, .bool true), (51, .bool true), (50, undef), (49, undef), (48, undef), (47, undef), (46, .bool true), (45, .bool true), (44, undef), (43, undef), (42, undef), (41, undef), (40, undef), (39, undef), (38, undef), (37, .bool true), (36, .bool true), (35, undef), (34, undef), (33, undef), (32, undef), (31, undef), (30, undef), (29, undef), (28, undef), (27, undef), (26, undef), (25, undef)] rfl (by kernel_rfl) ?_
      refine Gx.ops_end ?_
      rw [Gx.forget [(1, .pointer (some ⟨k1, 0, none⟩)), (4, .int .i64 2), (57, .bool (((((x.n != (0 : Int)) || false) || false) || (!(decide (x.a ≥ (0 : Int)) && decide (x.a ≤ (65535 : Int))))) || (!(decide (x.b ≥ (0 : Int)) && decide (x.b ≤ (65535 : Int))))))] (by rw [h_g24]; try kernel_rfl)]
      exact hK2 _ _ _ ⟨rfl, rfl⟩
    rw [h_g24]
    refine Gx.pure [8, 9, 10, 11, 12, 13, 14, 15, 16, 17, 18, 19, 20, 21, 22, 23, 24, 25, 26, 27, 28, 29, 30] [31, 32, 33, 34, 35, 36, 37, 38, 39, 40] [(47, .pointer (some ⟨k1, 1, none⟩)), (46, .bool false), (45, .bool false), (44, .bool false), (43, undef), (42, undef), (41, undef), (40, .bool false), (39, .bool false), (38, .int .i64 2), (37, .bool false), (36, .bool false), (35, .bool false), (34, undef), (33, undef), (32, undef), (31, .bool false), (30, .bool false), (29, .bool false), (28, .int .i64 2), (27, .bool true), (26, .bool true), (25, .int .i64 2)] rfl (by kernel_rfl) ?_
    refine Gx.cons (Gx.op_load rfl (by kernel_rfl) rfl 1 (.int .i64 x.a) (by kernel_rfl) b1 (by kernel_rfl) ?_)
    refine Gx.cons (Gx.op_call rfl (by kernel_rfl) (by kernel_rfl) (fun R hR => fits_c x.a (65535 : Int) _ R  (hR _ _ ?_)))
    refine Gx.pure [33, 34, 35] [36, 37, 38, 39, 40] [(52, .bool (!(decide (x.a ≥ (0 : Int)) && decide (x.a ≤ (65535 : Int))))), (51, .bool (!(decide (x.a ≥ (0 : Int)) && decide (x.a ≤ (65535 : Int))))), (50, .bool (!(decide (x.a ≥ (0 : Int)) && decide (x.a ≤ (65535 : Int)))))] rfl (by kernel_rfl) ?_
    refine Gx.split (!(decide (x.a ≥ (0 : Int)) && decide (x.a ≤ (65535 : Int)))) (fun h_g52 => ?_) (fun h_g52 => ?_)
    · rw [h_g52]
      refine Gx.pure [36, 37, 38, 39, 40] [] [(57, .bool true), (56, undef), (55, undef), (54, undef), (53, undef)] rfl (by kernel_rfl) ?_
      refine Gx.ops_end ?_
      rw [Gx.forget [(1, .pointer (some ⟨k1, 0, none⟩)), (4, .int .i64 2), (57, .bool (((((x.n != (0 : Int)) || false) || false) || (!(decide (x.a ≥ (0 : Int)) && decide (x.a ≤ (65535 : Int))))) || (!(decide (x.b ≥ (0 : Int)) && decide (x.b ≤ (65535 : Int))))))] (by rw [h_g24, h_g52]; try kernel_rfl)]
      exact hK2 _ _ _ ⟨rfl, rfl⟩
    rw [h_g52]
    refine Gx.pure [36] [37, 38, 39, 40] [(53, .pointer (some ⟨k1, 2, none⟩))] rfl (by kernel_rfl) ?_
    refine Gx.cons (Gx.op_load rfl (by kernel_rfl) rfl 2 (.int .i64 x.b) (by kernel_rfl) b1 (by kernel_rfl) ?_)
    refine Gx.cons (Gx.op_call rfl (by kernel_rfl) (by kernel_rfl) (fun R hR => fits_c x.b (65535 : Int) _ R  (hR _ _ ?_)))
    refine Gx.pure [39, 40] [] [(57, .bool (!(decide (x.b ≥ (0 : Int)) && decide (x.b ≤ (65535 : Int))))), (56, .bool (!(decide (x.b ≥ (0 : Int)) && decide (x.b ≤ (65535 : Int)))))] rfl (by kernel_rfl) ?_
    refine Gx.ops_end ?_
    rw [Gx.forget [(1, .pointer (some ⟨k1, 0, none⟩)), (4, .int .i64 2), (57, .bool (((((x.n != (0 : Int)) || false) || false) || (!(decide (x.a ≥ (0 : Int)) && decide (x.a ≤ (65535 : Int))))) || (!(decide (x.b ≥ (0 : Int)) && decide (x.b ≤ (65535 : Int))))))] (by rw [h_g24, h_g52]; try kernel_rfl)]
    exact hK2 _ _ _ ⟨rfl, rfl⟩
  obtain ⟨rfl, rfl⟩ := hI2
  refine Gx.cond (((((x.n != (0 : Int)) || false) || false) || (!(decide (x.a ≥ (0 : Int)) && decide (x.a ≤ (65535 : Int))))) || (!(decide (x.b ≥ (0 : Int)) && decide (x.b ≤ (65535 : Int))))) (by kernel_rfl) (fun h_c57 => ?_) (fun h_c57 => ?_)
  · skip
    refine Gx.seq_run [(3, .bool false), (2, .string (⟨#[]⟩ : ByteArray))] (by kernel_rfl) ?_
    refine wp_ret ?_
    refine Gx.then_ret ?_
    refine Gx.ret (Gx.res2 (v := .string (⟨#[]⟩ : ByteArray)) (u := .bool false) rfl (by kernel_rfl) (by kernel_rfl)) ?_
    have p_c13 := h_c13; try simp [-List.getD_eq_getElem?_getD] at p_c13
    have p_c57 := h_c57; try simp [-List.getD_eq_getElem?_getD] at p_c57
    have ho : 0 ≤ x.op ∧ x.op < 23 := by simp at h_c13; omega
    have hb : bd (insC x) = true := by rw [bd_ins ho, hf]; simp [over, hf, fitB]; simp at h_c57; omega
    exact Gx.ret_as (v' := .tuple #[.string (bif bd (insC x) then e0 else cat (insC x)), .bool (!bd (insC x))]) (by rw [hb]; rfl) (hK _ ((Gx.Ext.refl w).trans x1))
  refine wp_skip ?_
  refine Gx.then_normal ?_
  refine Gx.seq_reg [0, 1, 2, 3, 4, 5] (by kernel_rfl) ?_
  refine Gx.pure [0] [1, 2, 3, 4, 5] [(58, .pointer (some ⟨k1, 0, none⟩))] rfl (by kernel_rfl) ?_
  refine Gx.cons (Gx.op_load rfl (by kernel_rfl) rfl 0 (.int .i64 x.op) (by kernel_rfl) b1 (by kernel_rfl) ?_)
  have p_c13 := h_c13; try simp [-List.getD_eq_getElem?_getD] at p_c13
  have p_c57 := h_c57; try simp [-List.getD_eq_getElem?_getD] at p_c57
  refine Gx.pure_eq [2] [3, 4, 5] [(60, .int .u8 (IntKind.u8.wrap x.op))] [(60, .int .u8 ((byteI x.op 0 : Nat) : Int))] rfl (by kernel_rfl) (Gx.eqI (by rw [IntKind.wrap_u8, byteI_cast]; simp)) ?_
  refine Gx.cons (Gx.op_row (.cells #[.int .u8 ((byteI x.op 0 : Nat) : Int)] 5) 1 1 rfl (by kernel_rfl) (by kernel_rfl) (fun k2 w4 l2 x2 b2 => ?_))
  have zw4 := x2.size
  have tb2 := b2.lt
  refine Gx.cons (Gx.op_bstr rfl (by kernel_rfl) rfl 5 (by kernel_rfl) (by kernel_rfl) (by kernel_rfl) 0 1 1 (by kernel_rfl) b2 [UInt8.ofNat (byteI x.op 0)] rfl (Gx.bstr1 (by have := byteI_lt x.op 0; omega)) ?_)
  refine Gx.pure [5] [] [(5, .string (⟨#[UInt8.ofNat (byteI x.op 0)]⟩ : ByteArray))] rfl (by kernel_rfl) ?_
  refine Gx.ops_end ?_
  refine wp_seq ?_
  refine Gx.seq_run [(63, .int .i64 2)] (by kernel_rfl) ?_
  refine wp_block ?_
  refine Gx.seq_run [(64, .bool false), (65, .bool false)] (by kernel_rfl) ?_
  refine Gx.cond_f (by kernel_rfl) ?_
  refine Gx.seq_run [(71, .bool false), (72, .bool false)] (by kernel_rfl) ?_
  refine Gx.cond_f (by kernel_rfl) ?_
  refine Gx.seq_run [(78, .bool true), (79, .bool true)] (by kernel_rfl) ?_
  refine Gx.cond_t (by kernel_rfl) ?_
  refine Gx.draw (S := fun w' => Gx.Has w' k1 (.cells #[.int .i64 x.op, .int .i64 x.a, .int .i64 x.b, .int .i64 x.n] 46)) (by kernel_rfl) (fun w5 x3 => ?_)
  have zw5 := x3.size
  refine Gx.any_take 0 (.string (⟨#[UInt8.ofNat (byteI x.op 0)]⟩ : ByteArray)) rfl (by kernel_rfl) (by kernel_rfl) (by kernel_rfl) (fun _ _ _ h => h) ((b1.ext x2).ext x3) (by kernel_rfl) (fun _ _ => (by kernel_rfl)) ?_
  refine Gx.any_take 1 (.pointer (some ⟨k1, 1, none⟩)) rfl (by kernel_rfl) (by kernel_rfl) (by kernel_rfl) (fun _ _ _ h => h) ((b1.ext x2).ext x3) (by kernel_rfl) (fun _ _ => (by kernel_rfl)) ?_
  refine Gx.any_take 2 (.int .i64 x.a) rfl (by kernel_rfl) (by kernel_rfl) (by kernel_rfl) (fun _ _ _ h => h) ((b1.ext x2).ext x3) (by kernel_rfl) (fun _ hs => Gx.run_load rfl 1 (.int .i64 x.a) (by kernel_rfl) hs (by kernel_rfl)) ?_
  refine Gx.any_take 5 (.pointer (some ⟨k1, 2, none⟩)) rfl (by kernel_rfl) (by kernel_rfl) (by kernel_rfl) (fun _ _ _ h => h) ((b1.ext x2).ext x3) (by kernel_rfl) (fun _ _ => (by kernel_rfl)) ?_
  refine Gx.any_take 6 (.int .i64 x.b) rfl (by kernel_rfl) (by kernel_rfl) (by kernel_rfl) (fun _ _ _ h => h) ((b1.ext x2).ext x3) (by kernel_rfl) (fun _ hs => Gx.run_load rfl 2 (.int .i64 x.b) (by kernel_rfl) hs (by kernel_rfl)) ?_
  refine Gx.any_one 3 (by kernel_rfl) (Gx.op_call rfl (by kernel_rfl) (by kernel_rfl) (fun R hR => big_c x.a 2 _ R (by omega) (fun w6 x4  => hR _ _ ⟨(((b1.ext x2).ext x3).ext x4), ?_⟩)))
  have zw6 := x4.size
  refine Gx.any_take 4 (.string ((⟨#[UInt8.ofNat (byteI x.op 0)]⟩ : ByteArray) ++ (bigB x.a 2))) rfl (by kernel_rfl) (by kernel_rfl) (by kernel_rfl) (fun _ _ _ h => h) (((b1.ext x2).ext x3).ext x4) (by kernel_rfl) (fun _ _ => Gx.run_concat rfl (⟨#[UInt8.ofNat (byteI x.op 0)]⟩ : ByteArray) (bigB x.a 2) (by kernel_rfl) (by kernel_rfl) (by simp only [ByteArray.size_append, bigB_size]; first | omega | (show 1 + _ ≤ _; omega) | (show 1 + _ + _ ≤ _; omega))) ?_
  refine Gx.any_one 7 (by kernel_rfl) (Gx.op_call rfl (by kernel_rfl) (by kernel_rfl) (fun R hR => big_c x.b 2 _ R (by omega) (fun w7 x5  => hR _ _ ⟨((((b1.ext x2).ext x3).ext x4).ext x5), ?_⟩)))
  have zw7 := x5.size
  refine Gx.any_take 8 (.string (((⟨#[UInt8.ofNat (byteI x.op 0)]⟩ : ByteArray) ++ (bigB x.a 2)) ++ (bigB x.b 2))) rfl (by kernel_rfl) (by kernel_rfl) (by kernel_rfl) (fun _ _ _ h => h) ((((b1.ext x2).ext x3).ext x4).ext x5) (by kernel_rfl) (fun _ _ => Gx.run_concat rfl ((⟨#[UInt8.ofNat (byteI x.op 0)]⟩ : ByteArray) ++ (bigB x.a 2)) (bigB x.b 2) (by kernel_rfl) (by kernel_rfl) (by simp only [ByteArray.size_append, bigB_size]; first | omega | (show 1 + _ ≤ _; omega) | (show 1 + _ + _ ≤ _; omega))) ?_
  refine Gx.any_take 9 (.string (((⟨#[UInt8.ofNat (byteI x.op 0)]⟩ : ByteArray) ++ (bigB x.a 2)) ++ (bigB x.b 2))) rfl (by kernel_rfl) (by kernel_rfl) (by kernel_rfl) (fun _ _ _ h => h) ((((b1.ext x2).ext x3).ext x4).ext x5) (by kernel_rfl) (fun _ _ => (by kernel_rfl)) ?_
  refine Gx.any_done (by kernel_rfl) ?_
  refine Gx.block_normal ?_
  refine Gx.then_normal ?_
  refine Gx.seq_run [(3, .bool true), (2, .string (((⟨#[UInt8.ofNat (byteI x.op 0)]⟩ : ByteArray) ++ (bigB x.a 2)) ++ (bigB x.b 2))), (89, .string (((⟨#[UInt8.ofNat (byteI x.op 0)]⟩ : ByteArray) ++ (bigB x.a 2)) ++ (bigB x.b 2)))] (by kernel_rfl) ?_
  refine wp_ret ?_
  refine Gx.ret (Gx.res2 (v := .string (((⟨#[UInt8.ofNat (byteI x.op 0)]⟩ : ByteArray) ++ (bigB x.a 2)) ++ (bigB x.b 2))) (u := .bool true) rfl (by kernel_rfl) (by kernel_rfl)) ?_
  have ho : 0 ≤ x.op ∧ x.op < 23 := by simp at h_c13; omega
  have hb : bd (insC x) = false := by rw [bd_ins ho, hf]; simp [over, hf, fitB]; simp at h_c57; omega
  exact Gx.ret_as (v' := .tuple #[.string (bif bd (insC x) then e0 else cat (insC x)), .bool (!bd (insC x))]) (by have hc := cat_ins ho hb; simp only [hf] at hc; rw [hb, cond_false, hc]; rfl) (hK _ ((((((Gx.Ext.refl w).trans x1).trans x2).trans x3).trans x4).trans x5))

set_option maxHeartbeats 400000 in
set_option maxRecDepth 10000 in
theorem rins_0 (x : InsP) (w : World) (K : Ending → World → Prop) (hf : form x.op = 0) (hK : ∀ w', Gx.Ext w w' → K (.returned (.tuple #[.string (bif bd (insC x) then e0 else cat (insC x)), .bool (!bd (insC x))])) w') :
    Calls Try.prog 12 #[.agg #[.int .i64 x.op, .int .i64 x.a, .int .i64 x.b, .int .i64 x.n]] w K := by
  refine Gx.enter 90 Try.func12 rfl rfl (Nat.le_of_ble_eq_true rfl) ?_
  refine Gx.seq_reg [0, 1, 2] (by kernel_rfl) ?_
  refine Gx.cons (Gx.op_new (.cells #[.int .i64 x.op, .int .i64 x.a, .int .i64 x.b, .int .i64 x.n] 46) rfl (by kernel_rfl) (by kernel_rfl) (fun k1 w1 l1 x1 b1 => ?_))
  have zw1 := x1.size
  have tb1 := b1.lt
  refine Gx.pure [1, 2] [] [(3, .bool false), (2, .string (⟨#[]⟩ : ByteArray))] rfl (by kernel_rfl) ?_
  refine Gx.ops_end ?_
  refine wp_seq ?_
  refine Gx.cut (d' := []) (n' := 90) (fun l' w' => l' = [(1, .pointer (some ⟨k1, 0, none⟩)), (13, .bool ((decide (x.op < (0 : Int))) || (decide (x.op ≥ (23 : Int)))))] ∧ w1 = w') (fun K1 hK1 => ?_) (fun bb1 ll1 w2 hI1 => ?_)
  · refine Gx.reg [0, 1, 2, 3, 4, 5, 6, 7] (by kernel_rfl) ?_
    refine Gx.pure [0] [1, 2, 3, 4, 5, 6, 7] [(6, .pointer (some ⟨k1, 0, none⟩))] rfl (by kernel_rfl) ?_
    refine Gx.cons (Gx.op_load rfl (by kernel_rfl) rfl 0 (.int .i64 x.op) (by kernel_rfl) b1 (by kernel_rfl) ?_)
    refine Gx.pure [2, 3] [4, 5, 6, 7] [(9, .bool (decide (x.op < (0 : Int)))), (8, .bool (decide (x.op < (0 : Int))))] rfl (by kernel_rfl) ?_
    refine Gx.split (decide (x.op < (0 : Int))) (fun h_g9 => ?_) (fun h_g9 => ?_)
    · rw [h_g9]
      refine Gx.pure [4, 5, 6, 7] [] [(13, .bool true), (12, undef), (11, undef), (10, undef)] rfl (by kernel_rfl) ?_
      refine Gx.ops_end ?_
      rw [Gx.forget [(1, .pointer (some ⟨k1, 0, none⟩)), (13, .bool ((decide (x.op < (0 : Int))) || (decide (x.op ≥ (23 : Int)))))] (by rw [h_g9]; try kernel_rfl)]
      exact hK1 _ _ _ ⟨rfl, rfl⟩
    rw [h_g9]
    refine Gx.pure [4] [5, 6, 7] [(10, .pointer (some ⟨k1, 0, none⟩))] rfl (by kernel_rfl) ?_
    refine Gx.cons (Gx.op_load rfl (by kernel_rfl) rfl 0 (.int .i64 x.op) (by kernel_rfl) b1 (by kernel_rfl) ?_)
    refine Gx.pure [6, 7] [] [(13, .bool (decide (x.op ≥ (23 : Int)))), (12, .bool (decide (x.op ≥ (23 : Int))))] rfl (by kernel_rfl) ?_
    refine Gx.ops_end ?_
    rw [Gx.forget [(1, .pointer (some ⟨k1, 0, none⟩)), (13, .bool ((decide (x.op < (0 : Int))) || (decide (x.op ≥ (23 : Int)))))] (by rw [h_g9]; try kernel_rfl)]
    exact hK1 _ _ _ ⟨rfl, rfl⟩
  obtain ⟨rfl, rfl⟩ := hI1
  refine Gx.cond ((decide (x.op < (0 : Int))) || (decide (x.op ≥ (23 : Int)))) (by kernel_rfl) (fun h_c13 => ?_) (fun h_c13 => ?_)
  · skip
    refine Gx.seq_run [(3, .bool false), (2, .string (⟨#[]⟩ : ByteArray))] (by kernel_rfl) ?_
    refine wp_ret ?_
    refine Gx.then_ret ?_
    refine Gx.ret (Gx.res2 (v := .string (⟨#[]⟩ : ByteArray)) (u := .bool false) rfl (by kernel_rfl) (by kernel_rfl)) ?_
    have p_c13 := h_c13; try simp [-List.getD_eq_getElem?_getD] at p_c13
    have hb := ins_wrong (x := x) (by simpa using h_c13)
    exact Gx.ret_as (v' := .tuple #[.string (bif bd (insC x) then e0 else cat (insC x)), .bool (!bd (insC x))]) (by rw [hb]; rfl) (hK _ ((Gx.Ext.refl w).trans x1))
  refine wp_skip ?_
  refine Gx.then_normal ?_
  refine Gx.seq_reg [0, 1, 2, 3] (by kernel_rfl) ?_
  refine Gx.pure [0] [1, 2, 3] [(14, .pointer (some ⟨k1, 0, none⟩))] rfl (by kernel_rfl) ?_
  refine Gx.cons (Gx.op_load rfl (by kernel_rfl) rfl 0 (.int .i64 x.op) (by kernel_rfl) b1 (by kernel_rfl) ?_)
  refine Gx.cons (Gx.op_call rfl (by kernel_rfl) (by kernel_rfl) (fun R hR => Form_0 x.op _ R hf (hR _ _ ?_)))
  refine Gx.pure [3] [] [(4, .int .i64 0)] rfl (by kernel_rfl) ?_
  refine Gx.ops_end ?_
  refine wp_seq ?_
  refine Gx.cut (d' := []) (n' := 90) (fun l' w' => l' = [(1, .pointer (some ⟨k1, 0, none⟩)), (4, .int .i64 0), (57, .bool (((((x.n != (0 : Int)) || (x.a != (0 : Int))) || (x.b != (0 : Int))) || (!(decide (x.a ≥ (0 : Int)) && decide (x.a ≤ (65535 : Int))))) || (!(decide (x.b ≥ (0 : Int)) && decide (x.b ≤ (65535 : Int))))))] ∧ w1 = w') (fun K2 hK2 => ?_) (fun bb2 ll2 w3 hI2 => ?_)
  · refine Gx.reg [0, 1, 2, 3, 4, 5, 6, 7, 8, 9, 10, 11, 12, 13, 14, 15, 16, 17, 18, 19, 20, 21, 22, 23, 24, 25, 26, 27, 28, 29, 30, 31, 32, 33, 34, 35, 36, 37, 38, 39, 40] (by kernel_rfl) ?_
    refine Gx.pure [0, 1, 2, 3] [4, 5, 6, 7, 8, 9, 10, 11, 12, 13, 14, 15, 16, 17, 18, 19, 20, 21, 22, 23, 24, 25, 26, 27, 28, 29, 30, 31, 32, 33, 34, 35, 36, 37, 38, 39, 40] [(20, .pointer (some ⟨k1, 3, none⟩)), (19, .bool true), (18, .bool true), (17, .int .i64 0)] rfl (by kernel_rfl) ?_
    refine Gx.cons (Gx.op_load rfl (by kernel_rfl) rfl 3 (.int .i64 x.n) (by kernel_rfl) b1 (by kernel_rfl) ?_)
    refine Gx.pure [5, 6, 7] [8, 9, 10, 11, 12, 13, 14, 15, 16, 17, 18, 19, 20, 21, 22, 23, 24, 25, 26, 27, 28, 29, 30, 31, 32, 33, 34, 35, 36, 37, 38, 39, 40] [(24, .bool (x.n != (0 : Int))), (23, .bool (x.n != (0 : Int))), (22, .bool (x.n != (0 : Int)))] rfl (by kernel_rfl) ?_
    refine Gx.split (x.n != (0 : Int)) (fun h_g24 => ?_) (fun h_g24 => ?_)
    · rw [h_g24]
      refine Gx.pure [8, 9, 10, 11, 12, 13, 14, 15, 16, 17, 18, 19, 20, 21, 22, 23, 24, 25, 26, 27, 28, 29, 30, 31, 32, 33, 34, 35, 36, 37, 38, 39, 40] [] [(57, .bool true), (56, undef), (55, undef), (54, undef), (53, undef), (52, .bool true), (51, .bool true), (50, undef), (49, undef), (48, undef), (47, undef), (46, .bool true), (45, .bool true), (44, undef), (43, undef), (42, undef), (41, undef), (40, undef), (39, undef), (38, undef), (37, .bool true), (36, .bool true), (35, undef), (34, undef), (33, undef), (32, undef), (31, undef), (30, undef), (29, undef), (28, undef), (27, undef), (26, undef), (25, undef)] rfl (by kernel_rfl) ?_
      refine Gx.ops_end ?_
      rw [Gx.forget [(1, .pointer (some ⟨k1, 0, none⟩)), (4, .int .i64 0), (57, .bool (((((x.n != (0 : Int)) || (x.a != (0 : Int))) || (x.b != (0 : Int))) || (!(decide (x.a ≥ (0 : Int)) && decide (x.a ≤ (65535 : Int))))) || (!(decide (x.b ≥ (0 : Int)) && decide (x.b ≤ (65535 : Int))))))] (by rw [h_g24]; try kernel_rfl)]
      exact hK2 _ _ _ ⟨rfl, rfl⟩
    rw [h_g24]
    refine Gx.pure [8, 9, 10, 11, 12, 13, 14, 15] [16, 17, 18, 19, 20, 21, 22, 23, 24, 25, 26, 27, 28, 29, 30, 31, 32, 33, 34, 35, 36, 37, 38, 39, 40] [(32, .pointer (some ⟨k1, 1, none⟩)), (31, .bool true), (30, .bool true), (29, .bool true), (28, .int .i64 0), (27, .bool true), (26, .bool true), (25, .int .i64 0)] rfl (by kernel_rfl) ?_
    refine Gx.cons (Gx.op_load rfl (by kernel_rfl) rfl 1 (.int .i64 x.a) (by kernel_rfl) b1 (by kernel_rfl) ?_)
    refine Gx.pure [17, 18, 19, 20] [21, 22, 23, 24, 25, 26, 27, 28, 29, 30, 31, 32, 33, 34, 35, 36, 37, 38, 39, 40] [(37, .bool (x.a != (0 : Int))), (36, .bool (x.a != (0 : Int))), (35, .bool (x.a != (0 : Int))), (34, .bool (x.a != (0 : Int)))] rfl (by kernel_rfl) ?_
    refine Gx.split (x.a != (0 : Int)) (fun h_g37 => ?_) (fun h_g37 => ?_)
    · rw [h_g37]
      refine Gx.pure [21, 22, 23, 24, 25, 26, 27, 28, 29, 30, 31, 32, 33, 34, 35, 36, 37, 38, 39, 40] [] [(57, .bool true), (56, undef), (55, undef), (54, undef), (53, undef), (52, .bool true), (51, .bool true), (50, undef), (49, undef), (48, undef), (47, undef), (46, .bool true), (45, .bool true), (44, undef), (43, undef), (42, undef), (41, undef), (40, undef), (39, undef), (38, undef)] rfl (by kernel_rfl) ?_
      refine Gx.ops_end ?_
      rw [Gx.forget [(1, .pointer (some ⟨k1, 0, none⟩)), (4, .int .i64 0), (57, .bool (((((x.n != (0 : Int)) || (x.a != (0 : Int))) || (x.b != (0 : Int))) || (!(decide (x.a ≥ (0 : Int)) && decide (x.a ≤ (65535 : Int))))) || (!(decide (x.b ≥ (0 : Int)) && decide (x.b ≤ (65535 : Int))))))] (by rw [h_g24, h_g37]; try kernel_rfl)]
      exact hK2 _ _ _ ⟨rfl, rfl⟩
    rw [h_g37]
    refine Gx.pure [21, 22, 23, 24] [25, 26, 27, 28, 29, 30, 31, 32, 33, 34, 35, 36, 37, 38, 39, 40] [(41, .pointer (some ⟨k1, 2, none⟩)), (40, .bool true), (39, .bool true), (38, .int .i64 0)] rfl (by kernel_rfl) ?_
    refine Gx.cons (Gx.op_load rfl (by kernel_rfl) rfl 2 (.int .i64 x.b) (by kernel_rfl) b1 (by kernel_rfl) ?_)
    refine Gx.pure [26, 27, 28, 29] [30, 31, 32, 33, 34, 35, 36, 37, 38, 39, 40] [(46, .bool (x.b != (0 : Int))), (45, .bool (x.b != (0 : Int))), (44, .bool (x.b != (0 : Int))), (43, .bool (x.b != (0 : Int)))] rfl (by kernel_rfl) ?_
    refine Gx.split (x.b != (0 : Int)) (fun h_g46 => ?_) (fun h_g46 => ?_)
    · rw [h_g46]
      refine Gx.pure [30, 31, 32, 33, 34, 35, 36, 37, 38, 39, 40] [] [(57, .bool true), (56, undef), (55, undef), (54, undef), (53, undef), (52, .bool true), (51, .bool true), (50, undef), (49, undef), (48, undef), (47, undef)] rfl (by kernel_rfl) ?_
      refine Gx.ops_end ?_
      rw [Gx.forget [(1, .pointer (some ⟨k1, 0, none⟩)), (4, .int .i64 0), (57, .bool (((((x.n != (0 : Int)) || (x.a != (0 : Int))) || (x.b != (0 : Int))) || (!(decide (x.a ≥ (0 : Int)) && decide (x.a ≤ (65535 : Int))))) || (!(decide (x.b ≥ (0 : Int)) && decide (x.b ≤ (65535 : Int))))))] (by rw [h_g24, h_g37, h_g46]; try kernel_rfl)]
      exact hK2 _ _ _ ⟨rfl, rfl⟩
    rw [h_g46]
    refine Gx.pure [30] [31, 32, 33, 34, 35, 36, 37, 38, 39, 40] [(47, .pointer (some ⟨k1, 1, none⟩))] rfl (by kernel_rfl) ?_
    refine Gx.cons (Gx.op_load rfl (by kernel_rfl) rfl 1 (.int .i64 x.a) (by kernel_rfl) b1 (by kernel_rfl) ?_)
    refine Gx.cons (Gx.op_call rfl (by kernel_rfl) (by kernel_rfl) (fun R hR => fits_c x.a (65535 : Int) _ R  (hR _ _ ?_)))
    refine Gx.pure [33, 34, 35] [36, 37, 38, 39, 40] [(52, .bool (!(decide (x.a ≥ (0 : Int)) && decide (x.a ≤ (65535 : Int))))), (51, .bool (!(decide (x.a ≥ (0 : Int)) && decide (x.a ≤ (65535 : Int))))), (50, .bool (!(decide (x.a ≥ (0 : Int)) && decide (x.a ≤ (65535 : Int)))))] rfl (by kernel_rfl) ?_
    refine Gx.split (!(decide (x.a ≥ (0 : Int)) && decide (x.a ≤ (65535 : Int)))) (fun h_g52 => ?_) (fun h_g52 => ?_)
    · rw [h_g52]
      refine Gx.pure [36, 37, 38, 39, 40] [] [(57, .bool true), (56, undef), (55, undef), (54, undef), (53, undef)] rfl (by kernel_rfl) ?_
      refine Gx.ops_end ?_
      rw [Gx.forget [(1, .pointer (some ⟨k1, 0, none⟩)), (4, .int .i64 0), (57, .bool (((((x.n != (0 : Int)) || (x.a != (0 : Int))) || (x.b != (0 : Int))) || (!(decide (x.a ≥ (0 : Int)) && decide (x.a ≤ (65535 : Int))))) || (!(decide (x.b ≥ (0 : Int)) && decide (x.b ≤ (65535 : Int))))))] (by rw [h_g24, h_g37, h_g46, h_g52]; try kernel_rfl)]
      exact hK2 _ _ _ ⟨rfl, rfl⟩
    rw [h_g52]
    refine Gx.pure [36] [37, 38, 39, 40] [(53, .pointer (some ⟨k1, 2, none⟩))] rfl (by kernel_rfl) ?_
    refine Gx.cons (Gx.op_load rfl (by kernel_rfl) rfl 2 (.int .i64 x.b) (by kernel_rfl) b1 (by kernel_rfl) ?_)
    refine Gx.cons (Gx.op_call rfl (by kernel_rfl) (by kernel_rfl) (fun R hR => fits_c x.b (65535 : Int) _ R  (hR _ _ ?_)))
    refine Gx.pure [39, 40] [] [(57, .bool (!(decide (x.b ≥ (0 : Int)) && decide (x.b ≤ (65535 : Int))))), (56, .bool (!(decide (x.b ≥ (0 : Int)) && decide (x.b ≤ (65535 : Int)))))] rfl (by kernel_rfl) ?_
    refine Gx.ops_end ?_
    rw [Gx.forget [(1, .pointer (some ⟨k1, 0, none⟩)), (4, .int .i64 0), (57, .bool (((((x.n != (0 : Int)) || (x.a != (0 : Int))) || (x.b != (0 : Int))) || (!(decide (x.a ≥ (0 : Int)) && decide (x.a ≤ (65535 : Int))))) || (!(decide (x.b ≥ (0 : Int)) && decide (x.b ≤ (65535 : Int))))))] (by rw [h_g24, h_g37, h_g46, h_g52]; try kernel_rfl)]
    exact hK2 _ _ _ ⟨rfl, rfl⟩
  obtain ⟨rfl, rfl⟩ := hI2
  refine Gx.cond (((((x.n != (0 : Int)) || (x.a != (0 : Int))) || (x.b != (0 : Int))) || (!(decide (x.a ≥ (0 : Int)) && decide (x.a ≤ (65535 : Int))))) || (!(decide (x.b ≥ (0 : Int)) && decide (x.b ≤ (65535 : Int))))) (by kernel_rfl) (fun h_c57 => ?_) (fun h_c57 => ?_)
  · skip
    refine Gx.seq_run [(3, .bool false), (2, .string (⟨#[]⟩ : ByteArray))] (by kernel_rfl) ?_
    refine wp_ret ?_
    refine Gx.then_ret ?_
    refine Gx.ret (Gx.res2 (v := .string (⟨#[]⟩ : ByteArray)) (u := .bool false) rfl (by kernel_rfl) (by kernel_rfl)) ?_
    have p_c13 := h_c13; try simp [-List.getD_eq_getElem?_getD] at p_c13
    have p_c57 := h_c57; try simp [-List.getD_eq_getElem?_getD] at p_c57
    have ho : 0 ≤ x.op ∧ x.op < 23 := by simp at h_c13; omega
    have hb : bd (insC x) = true := by rw [bd_ins ho, hf]; simp [over, hf, fitB]; simp at h_c57; omega
    exact Gx.ret_as (v' := .tuple #[.string (bif bd (insC x) then e0 else cat (insC x)), .bool (!bd (insC x))]) (by rw [hb]; rfl) (hK _ ((Gx.Ext.refl w).trans x1))
  refine wp_skip ?_
  refine Gx.then_normal ?_
  refine Gx.seq_reg [0, 1, 2, 3, 4, 5] (by kernel_rfl) ?_
  refine Gx.pure [0] [1, 2, 3, 4, 5] [(58, .pointer (some ⟨k1, 0, none⟩))] rfl (by kernel_rfl) ?_
  refine Gx.cons (Gx.op_load rfl (by kernel_rfl) rfl 0 (.int .i64 x.op) (by kernel_rfl) b1 (by kernel_rfl) ?_)
  have p_c13 := h_c13; try simp [-List.getD_eq_getElem?_getD] at p_c13
  have p_c57 := h_c57; try simp [-List.getD_eq_getElem?_getD] at p_c57
  refine Gx.pure_eq [2] [3, 4, 5] [(60, .int .u8 (IntKind.u8.wrap x.op))] [(60, .int .u8 ((byteI x.op 0 : Nat) : Int))] rfl (by kernel_rfl) (Gx.eqI (by rw [IntKind.wrap_u8, byteI_cast]; simp)) ?_
  refine Gx.cons (Gx.op_row (.cells #[.int .u8 ((byteI x.op 0 : Nat) : Int)] 5) 1 1 rfl (by kernel_rfl) (by kernel_rfl) (fun k2 w4 l2 x2 b2 => ?_))
  have zw4 := x2.size
  have tb2 := b2.lt
  refine Gx.cons (Gx.op_bstr rfl (by kernel_rfl) rfl 5 (by kernel_rfl) (by kernel_rfl) (by kernel_rfl) 0 1 1 (by kernel_rfl) b2 [UInt8.ofNat (byteI x.op 0)] rfl (Gx.bstr1 (by have := byteI_lt x.op 0; omega)) ?_)
  refine Gx.pure [5] [] [(5, .string (⟨#[UInt8.ofNat (byteI x.op 0)]⟩ : ByteArray))] rfl (by kernel_rfl) ?_
  refine Gx.ops_end ?_
  refine wp_seq ?_
  refine Gx.seq_run [(63, .int .i64 0)] (by kernel_rfl) ?_
  refine wp_block ?_
  refine Gx.seq_run [(64, .bool false), (65, .bool false)] (by kernel_rfl) ?_
  refine Gx.cond_f (by kernel_rfl) ?_
  refine Gx.seq_run [(71, .bool false), (72, .bool false)] (by kernel_rfl) ?_
  refine Gx.cond_f (by kernel_rfl) ?_
  refine Gx.seq_run [(78, .bool false), (79, .bool false)] (by kernel_rfl) ?_
  refine Gx.cond_f (by kernel_rfl) ?_
  refine wp_skip ?_
  refine Gx.block_normal ?_
  refine Gx.then_normal ?_
  refine Gx.seq_run [(3, .bool true), (2, .string (⟨#[UInt8.ofNat (byteI x.op 0)]⟩ : ByteArray)), (89, .string (⟨#[UInt8.ofNat (byteI x.op 0)]⟩ : ByteArray))] (by kernel_rfl) ?_
  refine wp_ret ?_
  refine Gx.ret (Gx.res2 (v := .string (⟨#[UInt8.ofNat (byteI x.op 0)]⟩ : ByteArray)) (u := .bool true) rfl (by kernel_rfl) (by kernel_rfl)) ?_
  have ho : 0 ≤ x.op ∧ x.op < 23 := by simp at h_c13; omega
  have hb : bd (insC x) = false := by rw [bd_ins ho, hf]; simp [over, hf, fitB]; simp at h_c57; omega
  exact Gx.ret_as (v' := .tuple #[.string (bif bd (insC x) then e0 else cat (insC x)), .bool (!bd (insC x))]) (by have hc := cat_ins ho hb; simp only [hf] at hc; rw [hb, cond_false, hc]; rfl) (hK _ (((Gx.Ext.refl w).trans x1).trans x2))


theorem rins_p (x : InsP) (w : World) (K : Ending → World → Prop) (hK : ∀ w', Gx.Ext w w' → K (.returned (.tuple #[.string (bif bd (insC x) then e0 else cat (insC x)), .bool (!bd (insC x))])) w') : Calls Try.prog 12 #[.agg #[.int .i64 x.op, .int .i64 x.a, .int .i64 x.b, .int .i64 x.n]] w K := by
  rcases form_cases x.op with h | h | h | h
  · exact rins_8 x w K h hK
  · exact rins_1 x w K h hK
  · exact rins_2 x w K h hK
  · exact rins_0 x w K h hK

end Go.Proofs.Ytccjnoefjehmhaa
