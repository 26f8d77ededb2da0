/- The walks, written by a program of ours (wip/gx/gx.py, lexgen.py). -/
import Derived.Test.YtinilkomfggjiaaRows
import Derived.Test.YtinilkomfggjiaaGs
import Derived.Test.YtinilkomfggjiaaLexPlain
set_option linter.unusedVariables false
set_option linter.unusedSimpArgs false
namespace Go.Proofs.Ytinilkomfggjiaa
open Go.RowKit Go.Lex
attribute [local irreducible] Go.wpOps Go.Code.wp Go.wpOp Go.wpAnyH Go.Calls
set_option maxHeartbeats 400000 in
set_option maxRecDepth 10000 in
theorem digit_c (c : UInt8) (w : World) (K : Ending → World → Prop)  (hK : K (.returned (.bool (digitB c))) w) :
    Calls Try.prog 42 #[.int .u8 ((c).toNat : Int)] w K := by
  refine Gx.enter 9 Try.func42 rfl rfl (Nat.le_of_ble_eq_true rfl) ?_
  refine Z.s [(2, .bool false)] ?_
  refine Gx.cut (d' := []) (n' := 9) (fun l' w' => l' = [(2, .bool ((decide (((c).toNat : Int) ≥ (48 : Int))) && (decide (((c).toNat : Int) ≤ (57 : Int)))))] ∧ w = w') (fun K1 hK1 => ?_) (fun bb1 ll1 w1 hI1 => ?_)
  · refine Z.g [0, 1, 2, 3, 4, 5, 6] ?_
    refine Z.p [0, 1, 2] [3, 4, 5, 6] [(5, .bool (decide (((c).toNat : Int) ≥ (48 : Int)))), (4, .bool (decide (((c).toNat : Int) ≥ (48 : Int)))), (3, .int .u8 ((c).toNat : Int))] ?_
    refine Gx.split (decide (((c).toNat : Int) ≥ (48 : Int))) (fun h_g5 => ?_) (fun h_g5 => ?_)
    · rw [h_g5]
      refine Z.p [3, 4, 5, 6] [] [(2, .bool (decide (((c).toNat : Int) ≤ (57 : Int)))), (8, .bool (decide (((c).toNat : Int) ≤ (57 : Int)))), (7, .bool (decide (((c).toNat : Int) ≤ (57 : Int)))), (6, .int .u8 ((c).toNat : Int))] ?_
      refine Z.e ?_
      rw [Gx.forget [(2, .bool ((decide (((c).toNat : Int) ≥ (48 : Int))) && (decide (((c).toNat : Int) ≤ (57 : Int)))))] (by rw [h_g5]; try kernel_rfl)]
      exact hK1 _ _ _ ⟨rfl, rfl⟩
    rw [h_g5]
    refine Z.p [3, 4, 5, 6] [] [(2, .bool false), (8, .bool false), (7, undef), (6, undef)] ?_
    refine Z.e ?_
    rw [Gx.forget [(2, .bool ((decide (((c).toNat : Int) ≥ (48 : Int))) && (decide (((c).toNat : Int) ≤ (57 : Int)))))] (by rw [h_g5]; try kernel_rfl)]
    exact hK1 _ _ _ ⟨rfl, rfl⟩
  obtain ⟨rfl, rfl⟩ := hI1
  refine wp_ret (Z.v (.bool ((decide (((c).toNat : Int) ≥ (48 : Int))) && (decide (((c).toNat : Int) ≤ (57 : Int))))) ?_)
  exact Gx.ret_as (v' := .bool (digitB c)) (by rfl) (hK)
set_option maxHeartbeats 400000 in
set_option maxRecDepth 10000 in
theorem letter_c (c : UInt8) (w : World) (K : Ending → World → Prop)  (hK : K (.returned (.bool (letterB c))) w) :
    Calls Try.prog 44 #[.int .u8 ((c).toNat : Int)] w K := by
  refine Gx.enter 21 Try.func44 rfl rfl (Nat.le_of_ble_eq_true rfl) ?_
  refine Z.s [(2, .bool false)] ?_
  refine Gx.cut (d' := []) (n' := 21) (fun l' w' => l' = [(2, .bool ((((decide (((c).toNat : Int) ≥ (97 : Int))) && (decide (((c).toNat : Int) ≤ (122 : Int)))) || ((decide (((c).toNat : Int) ≥ (65 : Int))) && (decide (((c).toNat : Int) ≤ (90 : Int))))) || (((c).toNat : Int) == (95 : Int))))] ∧ w = w') (fun K1 hK1 => ?_) (fun bb1 ll1 w1 hI1 => ?_)
  · refine Z.g [0, 1, 2, 3, 4, 5, 6, 7, 8, 9, 10, 11, 12, 13, 14, 15, 16, 17, 18] ?_
    refine Z.p [0, 1, 2] [3, 4, 5, 6, 7, 8, 9, 10, 11, 12, 13, 14, 15, 16, 17, 18] [(5, .bool (decide (((c).toNat : Int) ≥ (97 : Int)))), (4, .bool (decide (((c).toNat : Int) ≥ (97 : Int)))), (3, .int .u8 ((c).toNat : Int))] ?_
    refine Gx.split (decide (((c).toNat : Int) ≥ (97 : Int))) (fun h_g5 => ?_) (fun h_g5 => ?_)
    · rw [h_g5]
      refine Z.p [3, 4, 5, 6] [7, 8, 9, 10, 11, 12, 13, 14, 15, 16, 17, 18] [(9, .bool (decide (((c).toNat : Int) ≤ (122 : Int)))), (8, .bool (decide (((c).toNat : Int) ≤ (122 : Int)))), (7, .bool (decide (((c).toNat : Int) ≤ (122 : Int)))), (6, .int .u8 ((c).toNat : Int))] ?_
      refine Gx.split (decide (((c).toNat : Int) ≤ (122 : Int))) (fun h_g9 => ?_) (fun h_g9 => ?_)
      · rw [h_g9]
        refine Z.p [7, 8, 9, 10, 11, 12, 13, 14, 15, 16, 17, 18] [] [(2, .bool true), (20, .bool true), (19, undef), (18, undef), (17, .bool true), (16, .bool true), (15, undef), (14, undef), (13, undef), (12, undef), (11, undef), (10, undef)] ?_
        refine Z.e ?_
        rw [Gx.forget [(2, .bool ((((decide (((c).toNat : Int) ≥ (97 : Int))) && (decide (((c).toNat : Int) ≤ (122 : Int)))) || ((decide (((c).toNat : Int) ≥ (65 : Int))) && (decide (((c).toNat : Int) ≤ (90 : Int))))) || (((c).toNat : Int) == (95 : Int))))] (by rw [h_g5, h_g9]; try kernel_rfl)]
        exact hK1 _ _ _ ⟨rfl, rfl⟩
      rw [h_g9]
      refine Z.p [7, 8, 9] [10, 11, 12, 13, 14, 15, 16, 17, 18] [(12, .bool (decide (((c).toNat : Int) ≥ (65 : Int)))), (11, .bool (decide (((c).toNat : Int) ≥ (65 : Int)))), (10, .int .u8 ((c).toNat : Int))] ?_
      refine Gx.split (decide (((c).toNat : Int) ≥ (65 : Int))) (fun h_g12 => ?_) (fun h_g12 => ?_)
      · rw [h_g12]
        refine Z.p [10, 11, 12, 13, 14] [15, 16, 17, 18] [(17, .bool (decide (((c).toNat : Int) ≤ (90 : Int)))), (16, .bool (decide (((c).toNat : Int) ≤ (90 : Int)))), (15, .bool (decide (((c).toNat : Int) ≤ (90 : Int)))), (14, .bool (decide (((c).toNat : Int) ≤ (90 : Int)))), (13, .int .u8 ((c).toNat : Int))] ?_
        refine Gx.split (decide (((c).toNat : Int) ≤ (90 : Int))) (fun h_g17 => ?_) (fun h_g17 => ?_)
        · rw [h_g17]
          refine Z.p [15, 16, 17, 18] [] [(2, .bool true), (20, .bool true), (19, undef), (18, undef)] ?_
          refine Z.e ?_
          rw [Gx.forget [(2, .bool ((((decide (((c).toNat : Int) ≥ (97 : Int))) && (decide (((c).toNat : Int) ≤ (122 : Int)))) || ((decide (((c).toNat : Int) ≥ (65 : Int))) && (decide (((c).toNat : Int) ≤ (90 : Int))))) || (((c).toNat : Int) == (95 : Int))))] (by rw [h_g5, h_g9, h_g12, h_g17]; try kernel_rfl)]
          exact hK1 _ _ _ ⟨rfl, rfl⟩
        rw [h_g17]
        refine Z.p [15, 16, 17, 18] [] [(2, .bool (((c).toNat : Int) == (95 : Int))), (20, .bool (((c).toNat : Int) == (95 : Int))), (19, .bool (((c).toNat : Int) == (95 : Int))), (18, .int .u8 ((c).toNat : Int))] ?_
        refine Z.e ?_
        rw [Gx.forget [(2, .bool ((((decide (((c).toNat : Int) ≥ (97 : Int))) && (decide (((c).toNat : Int) ≤ (122 : Int)))) || ((decide (((c).toNat : Int) ≥ (65 : Int))) && (decide (((c).toNat : Int) ≤ (90 : Int))))) || (((c).toNat : Int) == (95 : Int))))] (by rw [h_g5, h_g9, h_g12, h_g17]; try kernel_rfl)]
        exact hK1 _ _ _ ⟨rfl, rfl⟩
      rw [h_g12]
      refine Z.p [10, 11, 12, 13, 14, 15, 16, 17, 18] [] [(2, .bool (((c).toNat : Int) == (95 : Int))), (20, .bool (((c).toNat : Int) == (95 : Int))), (19, .bool (((c).toNat : Int) == (95 : Int))), (18, .int .u8 ((c).toNat : Int)), (17, .bool false), (16, .bool false), (15, .bool false), (14, undef), (13, undef)] ?_
      refine Z.e ?_
      rw [Gx.forget [(2, .bool ((((decide (((c).toNat : Int) ≥ (97 : Int))) && (decide (((c).toNat : Int) ≤ (122 : Int)))) || ((decide (((c).toNat : Int) ≥ (65 : Int))) && (decide (((c).toNat : Int) ≤ (90 : Int))))) || (((c).toNat : Int) == (95 : Int))))] (by rw [h_g5, h_g9, h_g12]; try kernel_rfl)]
      exact hK1 _ _ _ ⟨rfl, rfl⟩
    rw [h_g5]
    refine Z.p [3, 4, 5, 6, 7, 8, 9] [10, 11, 12, 13, 14, 15, 16, 17, 18] [(12, .bool (decide (((c).toNat : Int) ≥ (65 : Int)))), (11, .bool (decide (((c).toNat : Int) ≥ (65 : Int)))), (10, .int .u8 ((c).toNat : Int)), (9, .bool false), (8, .bool false), (7, undef), (6, undef)] ?_
    refine Gx.split (decide (((c).toNat : Int) ≥ (65 : Int))) (fun h_g12 => ?_) (fun h_g12 => ?_)
    · rw [h_g12]
      refine Z.p [10, 11, 12, 13, 14] [15, 16, 17, 18] [(17, .bool (decide (((c).toNat : Int) ≤ (90 : Int)))), (16, .bool (decide (((c).toNat : Int) ≤ (90 : Int)))), (15, .bool (decide (((c).toNat : Int) ≤ (90 : Int)))), (14, .bool (decide (((c).toNat : Int) ≤ (90 : Int)))), (13, .int .u8 ((c).toNat : Int))] ?_
      refine Gx.split (decide (((c).toNat : Int) ≤ (90 : Int))) (fun h_g17 => ?_) (fun h_g17 => ?_)
      · rw [h_g17]
        refine Z.p [15, 16, 17, 18] [] [(2, .bool true), (20, .bool true), (19, undef), (18, undef)] ?_
        refine Z.e ?_
        rw [Gx.forget [(2, .bool ((((decide (((c).toNat : Int) ≥ (97 : Int))) && (decide (((c).toNat : Int) ≤ (122 : Int)))) || ((decide (((c).toNat : Int) ≥ (65 : Int))) && (decide (((c).toNat : Int) ≤ (90 : Int))))) || (((c).toNat : Int) == (95 : Int))))] (by rw [h_g5, h_g12, h_g17]; try kernel_rfl)]
        exact hK1 _ _ _ ⟨rfl, rfl⟩
      rw [h_g17]
      refine Z.p [15, 16, 17, 18] [] [(2, .bool (((c).toNat : Int) == (95 : Int))), (20, .bool (((c).toNat : Int) == (95 : Int))), (19, .bool (((c).toNat : Int) == (95 : Int))), (18, .int .u8 ((c).toNat : Int))] ?_
      refine Z.e ?_
      rw [Gx.forget [(2, .bool ((((decide (((c).toNat : Int) ≥ (97 : Int))) && (decide (((c).toNat : Int) ≤ (122 : Int)))) || ((decide (((c).toNat : Int) ≥ (65 : Int))) && (decide (((c).toNat : Int) ≤ (90 : Int))))) || (((c).toNat : Int) == (95 : Int))))] (by rw [h_g5, h_g12, h_g17]; try kernel_rfl)]
      exact hK1 _ _ _ ⟨rfl, rfl⟩
    rw [h_g12]
    refine Z.p [10, 11, 12, 13, 14, 15, 16, 17, 18] [] [(2, .bool (((c).toNat : Int) == (95 : Int))), (20, .bool (((c).toNat : Int) == (95 : Int))), (19, .bool (((c).toNat : Int) == (95 : Int))), (18, .int .u8 ((c).toNat : Int)), (17, .bool false), (16, .bool false), (15, .bool false), (14, undef), (13, undef)] ?_
    refine Z.e ?_
    rw [Gx.forget [(2, .bool ((((decide (((c).toNat : Int) ≥ (97 : Int))) && (decide (((c).toNat : Int) ≤ (122 : Int)))) || ((decide (((c).toNat : Int) ≥ (65 : Int))) && (decide (((c).toNat : Int) ≤ (90 : Int))))) || (((c).toNat : Int) == (95 : Int))))] (by rw [h_g5, h_g12]; try kernel_rfl)]
    exact hK1 _ _ _ ⟨rfl, rfl⟩
  obtain ⟨rfl, rfl⟩ := hI1
  refine wp_ret (Z.v (.bool ((((decide (((c).toNat : Int) ≥ (97 : Int))) && (decide (((c).toNat : Int) ≤ (122 : Int)))) || ((decide (((c).toNat : Int) ≥ (65 : Int))) && (decide (((c).toNat : Int) ≤ (90 : Int))))) || (((c).toNat : Int) == (95 : Int)))) ?_)
  exact Gx.ret_as (v' := .bool (letterB c)) (by rfl) (hK)
set_option maxHeartbeats 400000 in
set_option maxRecDepth 10000 in
theorem blank_c (c : UInt8) (w : World) (K : Ending → World → Prop)  (hK : K (.returned (.bool (blankB c))) w) :
    Calls Try.prog 54 #[.int .u8 ((c).toNat : Int)] w K := by
  refine Gx.enter 17 Try.func54 rfl rfl (Nat.le_of_ble_eq_true rfl) ?_
  refine Z.s [(2, .bool false)] ?_
  refine Gx.cut (d' := []) (n' := 17) (fun l' w' => l' = [(2, .bool ((((((c).toNat : Int) == (9 : Int)) || (((c).toNat : Int) == (10 : Int))) || (((c).toNat : Int) == (13 : Int))) || (((c).toNat : Int) == (32 : Int))))] ∧ w = w') (fun K1 hK1 => ?_) (fun bb1 ll1 w1 hI1 => ?_)
  · refine Z.g [0, 1, 2, 3, 4, 5, 6, 7, 8, 9, 10, 11, 12, 13, 14] ?_
    refine Z.p [0, 1, 2] [3, 4, 5, 6, 7, 8, 9, 10, 11, 12, 13, 14] [(5, .bool (((c).toNat : Int) == (9 : Int))), (4, .bool (((c).toNat : Int) == (9 : Int))), (3, .int .u8 ((c).toNat : Int))] ?_
    refine Gx.split (((c).toNat : Int) == (9 : Int)) (fun h_g5 => ?_) (fun h_g5 => ?_)
    · rw [h_g5]
      refine Z.p [3, 4, 5, 6, 7, 8, 9, 10, 11, 12, 13, 14] [] [(2, .bool true), (16, .bool true), (15, undef), (14, undef), (13, .bool true), (12, .bool true), (11, undef), (10, undef), (9, .bool true), (8, .bool true), (7, undef), (6, undef)] ?_
      refine Z.e ?_
      rw [Gx.forget [(2, .bool ((((((c).toNat : Int) == (9 : Int)) || (((c).toNat : Int) == (10 : Int))) || (((c).toNat : Int) == (13 : Int))) || (((c).toNat : Int) == (32 : Int))))] (by rw [h_g5]; try kernel_rfl)]
      exact hK1 _ _ _ ⟨rfl, rfl⟩
    rw [h_g5]
    refine Z.p [3, 4, 5, 6] [7, 8, 9, 10, 11, 12, 13, 14] [(9, .bool (((c).toNat : Int) == (10 : Int))), (8, .bool (((c).toNat : Int) == (10 : Int))), (7, .bool (((c).toNat : Int) == (10 : Int))), (6, .int .u8 ((c).toNat : Int))] ?_
    refine Gx.split (((c).toNat : Int) == (10 : Int)) (fun h_g9 => ?_) (fun h_g9 => ?_)
    · rw [h_g9]
      refine Z.p [7, 8, 9, 10, 11, 12, 13, 14] [] [(2, .bool true), (16, .bool true), (15, undef), (14, undef), (13, .bool true), (12, .bool true), (11, undef), (10, undef)] ?_
      refine Z.e ?_
      rw [Gx.forget [(2, .bool ((((((c).toNat : Int) == (9 : Int)) || (((c).toNat : Int) == (10 : Int))) || (((c).toNat : Int) == (13 : Int))) || (((c).toNat : Int) == (32 : Int))))] (by rw [h_g5, h_g9]; try kernel_rfl)]
      exact hK1 _ _ _ ⟨rfl, rfl⟩
    rw [h_g9]
    refine Z.p [7, 8, 9, 10] [11, 12, 13, 14] [(13, .bool (((c).toNat : Int) == (13 : Int))), (12, .bool (((c).toNat : Int) == (13 : Int))), (11, .bool (((c).toNat : Int) == (13 : Int))), (10, .int .u8 ((c).toNat : Int))] ?_
    refine Gx.split (((c).toNat : Int) == (13 : Int)) (fun h_g13 => ?_) (fun h_g13 => ?_)
    · rw [h_g13]
      refine Z.p [11, 12, 13, 14] [] [(2, .bool true), (16, .bool true), (15, undef), (14, undef)] ?_
      refine Z.e ?_
      rw [Gx.forget [(2, .bool ((((((c).toNat : Int) == (9 : Int)) || (((c).toNat : Int) == (10 : Int))) || (((c).toNat : Int) == (13 : Int))) || (((c).toNat : Int) == (32 : Int))))] (by rw [h_g5, h_g9, h_g13]; try kernel_rfl)]
      exact hK1 _ _ _ ⟨rfl, rfl⟩
    rw [h_g13]
    refine Z.p [11, 12, 13, 14] [] [(2, .bool (((c).toNat : Int) == (32 : Int))), (16, .bool (((c).toNat : Int) == (32 : Int))), (15, .bool (((c).toNat : Int) == (32 : Int))), (14, .int .u8 ((c).toNat : Int))] ?_
    refine Z.e ?_
    rw [Gx.forget [(2, .bool ((((((c).toNat : Int) == (9 : Int)) || (((c).toNat : Int) == (10 : Int))) || (((c).toNat : Int) == (13 : Int))) || (((c).toNat : Int) == (32 : Int))))] (by rw [h_g5, h_g9, h_g13]; try kernel_rfl)]
    exact hK1 _ _ _ ⟨rfl, rfl⟩
  obtain ⟨rfl, rfl⟩ := hI1
  refine wp_ret (Z.v (.bool ((((((c).toNat : Int) == (9 : Int)) || (((c).toNat : Int) == (10 : Int))) || (((c).toNat : Int) == (13 : Int))) || (((c).toNat : Int) == (32 : Int)))) ?_)
  exact Gx.ret_as (v' := .bool (blankB c)) (by rfl) (hK)
set_option maxHeartbeats 400000 in
set_option maxRecDepth 10000 in
theorem class_c (c : UInt8) (w : World) (K : Ending → World → Prop)  (hK : ∀ w', Gx.Ext w w' → K (.returned (.int .i64 ((cls c : Nat) : Int))) w') :
    Calls Try.prog 33 #[.int .u8 ((c).toNat : Int)] w K := by
  refine Gx.enter 57 Try.func33 rfl rfl (Nat.le_of_ble_eq_true rfl) ?_
  refine Z.s [(2, .int .i64 0)] ?_
  refine wp_seq (wp_block (Gx.cut (d' := []) (n' := 57) (fun l' w' => l' = [(0, .int .u8 ((c).toNat : Int)), (5, .bool ((((((c).toNat : Int) == (9 : Int)) || (((c).toNat : Int) == (10 : Int))) || (((c).toNat : Int) == (13 : Int))) || (((c).toNat : Int) == (32 : Int))))] ∧ w = w') (fun K1 hK1 => ?_) (fun bb1 ll1 w1 hI1 => ?_)))
  · refine Z.g [0, 1, 2, 3, 4, 5, 6, 7, 8, 9, 10, 11, 12, 13, 14] ?_
    refine Z.p [0, 1, 2] [3, 4, 5, 6, 7, 8, 9, 10, 11, 12, 13, 14] [(8, .bool (((c).toNat : Int) == (9 : Int))), (7, .bool (((c).toNat : Int) == (9 : Int))), (6, .int .u8 ((c).toNat : Int))] ?_
    refine Gx.split (((c).toNat : Int) == (9 : Int)) (fun h_g8 => ?_) (fun h_g8 => ?_)
    · rw [h_g8]
      refine Z.p [3, 4, 5, 6, 7, 8, 9, 10, 11, 12, 13, 14] [] [(5, .bool true), (19, .bool true), (18, undef), (17, undef), (16, .bool true), (15, .bool true), (14, undef), (13, undef), (12, .bool true), (11, .bool true), (10, undef), (9, undef)] ?_
      refine Z.e ?_
      rw [Gx.forget [(0, .int .u8 ((c).toNat : Int)), (5, .bool ((((((c).toNat : Int) == (9 : Int)) || (((c).toNat : Int) == (10 : Int))) || (((c).toNat : Int) == (13 : Int))) || (((c).toNat : Int) == (32 : Int))))] (by rw [h_g8]; try kernel_rfl)]
      exact hK1 _ _ _ ⟨rfl, rfl⟩
    rw [h_g8]
    refine Z.p [3, 4, 5, 6] [7, 8, 9, 10, 11, 12, 13, 14] [(12, .bool (((c).toNat : Int) == (10 : Int))), (11, .bool (((c).toNat : Int) == (10 : Int))), (10, .bool (((c).toNat : Int) == (10 : Int))), (9, .int .u8 ((c).toNat : Int))] ?_
    refine Gx.split (((c).toNat : Int) == (10 : Int)) (fun h_g12 => ?_) (fun h_g12 => ?_)
    · rw [h_g12]
      refine Z.p [7, 8, 9, 10, 11, 12, 13, 14] [] [(5, .bool true), (19, .bool true), (18, undef), (17, undef), (16, .bool true), (15, .bool true), (14, undef), (13, undef)] ?_
      refine Z.e ?_
      rw [Gx.forget [(0, .int .u8 ((c).toNat : Int)), (5, .bool ((((((c).toNat : Int) == (9 : Int)) || (((c).toNat : Int) == (10 : Int))) || (((c).toNat : Int) == (13 : Int))) || (((c).toNat : Int) == (32 : Int))))] (by rw [h_g8, h_g12]; try kernel_rfl)]
      exact hK1 _ _ _ ⟨rfl, rfl⟩
    rw [h_g12]
    refine Z.p [7, 8, 9, 10] [11, 12, 13, 14] [(16, .bool (((c).toNat : Int) == (13 : Int))), (15, .bool (((c).toNat : Int) == (13 : Int))), (14, .bool (((c).toNat : Int) == (13 : Int))), (13, .int .u8 ((c).toNat : Int))] ?_
    refine Gx.split (((c).toNat : Int) == (13 : Int)) (fun h_g16 => ?_) (fun h_g16 => ?_)
    · rw [h_g16]
      refine Z.p [11, 12, 13, 14] [] [(5, .bool true), (19, .bool true), (18, undef), (17, undef)] ?_
      refine Z.e ?_
      rw [Gx.forget [(0, .int .u8 ((c).toNat : Int)), (5, .bool ((((((c).toNat : Int) == (9 : Int)) || (((c).toNat : Int) == (10 : Int))) || (((c).toNat : Int) == (13 : Int))) || (((c).toNat : Int) == (32 : Int))))] (by rw [h_g8, h_g12, h_g16]; try kernel_rfl)]
      exact hK1 _ _ _ ⟨rfl, rfl⟩
    rw [h_g16]
    refine Z.p [11, 12, 13, 14] [] [(5, .bool (((c).toNat : Int) == (32 : Int))), (19, .bool (((c).toNat : Int) == (32 : Int))), (18, .bool (((c).toNat : Int) == (32 : Int))), (17, .int .u8 ((c).toNat : Int))] ?_
    refine Z.e ?_
    rw [Gx.forget [(0, .int .u8 ((c).toNat : Int)), (5, .bool ((((((c).toNat : Int) == (9 : Int)) || (((c).toNat : Int) == (10 : Int))) || (((c).toNat : Int) == (13 : Int))) || (((c).toNat : Int) == (32 : Int))))] (by rw [h_g8, h_g12, h_g16]; try kernel_rfl)]
    exact hK1 _ _ _ ⟨rfl, rfl⟩
  obtain ⟨rfl, rfl⟩ := hI1
  refine Z.c ((((((c).toNat : Int) == (9 : Int)) || (((c).toNat : Int) == (10 : Int))) || (((c).toNat : Int) == (13 : Int))) || (((c).toNat : Int) == (32 : Int))) (fun h_c5 => ?_) (fun h_c5 => ?_)
  · skip
    refine Z.s [(2, .int .i64 1)] ?_
    refine wp_ret (Gx.block_ret (Gx.then_ret (Z.v (.int .i64 1) ?_)))
    have p_c5 := h_c5; try simp at p_c5
    exact Gx.ret_as (v' := .int .i64 ((cls c : Nat) : Int)) (by unfold cls; rw [if_pos (show blankB c = true from h_c5)]; rfl) (hK _ (Gx.Ext.refl w))
  refine Z.s [(20, .bool (((c).toNat : Int) == (35 : Int))), (22, .bool (((c).toNat : Int) == (35 : Int))), (21, .int .u8 ((c).toNat : Int))] ?_
  refine Z.c (((c).toNat : Int) == (35 : Int)) (fun h_c20 => ?_) (fun h_c20 => ?_)
  · skip
    refine Z.s [(2, .int .i64 2)] ?_
    refine wp_ret (Gx.block_ret (Gx.then_ret (Z.v (.int .i64 2) ?_)))
    have p_c5 := h_c5; try simp at p_c5
    have p_c20 := h_c20; try simp at p_c20
    exact Gx.ret_as (v' := .int .i64 ((cls c : Nat) : Int)) (by unfold cls; rw [if_neg (by rw [show blankB c = _ from h_c5]; simp), if_pos h_c20]; rfl) (hK _ (Gx.Ext.refl w))
  refine Gx.cut (d' := []) (n' := 57) (fun l' w' => l' = [(0, .int .u8 ((c).toNat : Int)), (23, .bool ((decide (((c).toNat : Int) ≥ (48 : Int))) && (decide (((c).toNat : Int) ≤ (57 : Int)))))] ∧ w = w') (fun K2 hK2 => ?_) (fun bb2 ll2 w2 hI2 => ?_)
  · refine Z.g [0, 1, 2, 3, 4, 5, 6] ?_
    refine Z.p [0, 1, 2] [3, 4, 5, 6] [(26, .bool (decide (((c).toNat : Int) ≥ (48 : Int)))), (25, .bool (decide (((c).toNat : Int) ≥ (48 : Int)))), (24, .int .u8 ((c).toNat : Int))] ?_
    refine Gx.split (decide (((c).toNat : Int) ≥ (48 : Int))) (fun h_g26 => ?_) (fun h_g26 => ?_)
    · rw [h_g26]
      refine Z.p [3, 4, 5, 6] [] [(23, .bool (decide (((c).toNat : Int) ≤ (57 : Int)))), (29, .bool (decide (((c).toNat : Int) ≤ (57 : Int)))), (28, .bool (decide (((c).toNat : Int) ≤ (57 : Int)))), (27, .int .u8 ((c).toNat : Int))] ?_
      refine Z.e ?_
      rw [Gx.forget [(0, .int .u8 ((c).toNat : Int)), (23, .bool ((decide (((c).toNat : Int) ≥ (48 : Int))) && (decide (((c).toNat : Int) ≤ (57 : Int)))))] (by rw [h_g26]; try kernel_rfl)]
      exact hK2 _ _ _ ⟨rfl, rfl⟩
    rw [h_g26]
    refine Z.p [3, 4, 5, 6] [] [(23, .bool false), (29, .bool false), (28, undef), (27, undef)] ?_
    refine Z.e ?_
    rw [Gx.forget [(0, .int .u8 ((c).toNat : Int)), (23, .bool ((decide (((c).toNat : Int) ≥ (48 : Int))) && (decide (((c).toNat : Int) ≤ (57 : Int)))))] (by rw [h_g26]; try kernel_rfl)]
    exact hK2 _ _ _ ⟨rfl, rfl⟩
  obtain ⟨rfl, rfl⟩ := hI2
  refine Z.c ((decide (((c).toNat : Int) ≥ (48 : Int))) && (decide (((c).toNat : Int) ≤ (57 : Int)))) (fun h_c23 => ?_) (fun h_c23 => ?_)
  · skip
    refine Z.s [(2, .int .i64 3)] ?_
    refine wp_ret (Gx.block_ret (Gx.then_ret (Z.v (.int .i64 3) ?_)))
    have p_c5 := h_c5; try simp at p_c5
    have p_c20 := h_c20; try simp at p_c20
    have p_c23 := h_c23; try simp at p_c23
    exact Gx.ret_as (v' := .int .i64 ((cls c : Nat) : Int)) (by unfold cls; rw [if_neg (by rw [show blankB c = _ from h_c5]; simp), if_neg (by rw [h_c20]; simp), if_pos (show digitB c = true from h_c23)]; rfl) (hK _ (Gx.Ext.refl w))
  refine Gx.cut (d' := []) (n' := 57) (fun l' w' => l' = [(0, .int .u8 ((c).toNat : Int)), (30, .bool ((((decide (((c).toNat : Int) ≥ (97 : Int))) && (decide (((c).toNat : Int) ≤ (122 : Int)))) || ((decide (((c).toNat : Int) ≥ (65 : Int))) && (decide (((c).toNat : Int) ≤ (90 : Int))))) || (((c).toNat : Int) == (95 : Int))))] ∧ w = w') (fun K3 hK3 => ?_) (fun bb3 ll3 w3 hI3 => ?_)
  · refine Z.g [0, 1, 2, 3, 4, 5, 6, 7, 8, 9, 10, 11, 12, 13, 14, 15, 16, 17, 18] ?_
    refine Z.p [0, 1, 2] [3, 4, 5, 6, 7, 8, 9, 10, 11, 12, 13, 14, 15, 16, 17, 18] [(33, .bool (decide (((c).toNat : Int) ≥ (97 : Int)))), (32, .bool (decide (((c).toNat : Int) ≥ (97 : Int)))), (31, .int .u8 ((c).toNat : Int))] ?_
    refine Gx.split (decide (((c).toNat : Int) ≥ (97 : Int))) (fun h_g33 => ?_) (fun h_g33 => ?_)
    · rw [h_g33]
      refine Z.p [3, 4, 5, 6] [7, 8, 9, 10, 11, 12, 13, 14, 15, 16, 17, 18] [(37, .bool (decide (((c).toNat : Int) ≤ (122 : Int)))), (36, .bool (decide (((c).toNat : Int) ≤ (122 : Int)))), (35, .bool (decide (((c).toNat : Int) ≤ (122 : Int)))), (34, .int .u8 ((c).toNat : Int))] ?_
      refine Gx.split (decide (((c).toNat : Int) ≤ (122 : Int))) (fun h_g37 => ?_) (fun h_g37 => ?_)
      · rw [h_g37]
        refine Z.p [7, 8, 9, 10, 11, 12, 13, 14, 15, 16, 17, 18] [] [(30, .bool true), (48, .bool true), (47, undef), (46, undef), (45, .bool true), (44, .bool true), (43, undef), (42, undef), (41, undef), (40, undef), (39, undef), (38, undef)] ?_
        refine Z.e ?_
        rw [Gx.forget [(0, .int .u8 ((c).toNat : Int)), (30, .bool ((((decide (((c).toNat : Int) ≥ (97 : Int))) && (decide (((c).toNat : Int) ≤ (122 : Int)))) || ((decide (((c).toNat : Int) ≥ (65 : Int))) && (decide (((c).toNat : Int) ≤ (90 : Int))))) || (((c).toNat : Int) == (95 : Int))))] (by rw [h_g33, h_g37]; try kernel_rfl)]
        exact hK3 _ _ _ ⟨rfl, rfl⟩
      rw [h_g37]
      refine Z.p [7, 8, 9] [10, 11, 12, 13, 14, 15, 16, 17, 18] [(40, .bool (decide (((c).toNat : Int) ≥ (65 : Int)))), (39, .bool (decide (((c).toNat : Int) ≥ (65 : Int)))), (38, .int .u8 ((c).toNat : Int))] ?_
      refine Gx.split (decide (((c).toNat : Int) ≥ (65 : Int))) (fun h_g40 => ?_) (fun h_g40 => ?_)
      · rw [h_g40]
        refine Z.p [10, 11, 12, 13, 14] [15, 16, 17, 18] [(45, .bool (decide (((c).toNat : Int) ≤ (90 : Int)))), (44, .bool (decide (((c).toNat : Int) ≤ (90 : Int)))), (43, .bool (decide (((c).toNat : Int) ≤ (90 : Int)))), (42, .bool (decide (((c).toNat : Int) ≤ (90 : Int)))), (41, .int .u8 ((c).toNat : Int))] ?_
        refine Gx.split (decide (((c).toNat : Int) ≤ (90 : Int))) (fun h_g45 => ?_) (fun h_g45 => ?_)
        · rw [h_g45]
          refine Z.p [15, 16, 17, 18] [] [(30, .bool true), (48, .bool true), (47, undef), (46, undef)] ?_
          refine Z.e ?_
          rw [Gx.forget [(0, .int .u8 ((c).toNat : Int)), (30, .bool ((((decide (((c).toNat : Int) ≥ (97 : Int))) && (decide (((c).toNat : Int) ≤ (122 : Int)))) || ((decide (((c).toNat : Int) ≥ (65 : Int))) && (decide (((c).toNat : Int) ≤ (90 : Int))))) || (((c).toNat : Int) == (95 : Int))))] (by rw [h_g33, h_g37, h_g40, h_g45]; try kernel_rfl)]
          exact hK3 _ _ _ ⟨rfl, rfl⟩
        rw [h_g45]
        refine Z.p [15, 16, 17, 18] [] [(30, .bool (((c).toNat : Int) == (95 : Int))), (48, .bool (((c).toNat : Int) == (95 : Int))), (47, .bool (((c).toNat : Int) == (95 : Int))), (46, .int .u8 ((c).toNat : Int))] ?_
        refine Z.e ?_
        rw [Gx.forget [(0, .int .u8 ((c).toNat : Int)), (30, .bool ((((decide (((c).toNat : Int) ≥ (97 : Int))) && (decide (((c).toNat : Int) ≤ (122 : Int)))) || ((decide (((c).toNat : Int) ≥ (65 : Int))) && (decide (((c).toNat : Int) ≤ (90 : Int))))) || (((c).toNat : Int) == (95 : Int))))] (by rw [h_g33, h_g37, h_g40, h_g45]; try kernel_rfl)]
        exact hK3 _ _ _ ⟨rfl, rfl⟩
      rw [h_g40]
      refine Z.p [10, 11, 12, 13, 14, 15, 16, 17, 18] [] [(30, .bool (((c).toNat : Int) == (95 : Int))), (48, .bool (((c).toNat : Int) == (95 : Int))), (47, .bool (((c).toNat : Int) == (95 : Int))), (46, .int .u8 ((c).toNat : Int)), (45, .bool false), (44, .bool false), (43, .bool false), (42, undef), (41, undef)] ?_
      refine Z.e ?_
      rw [Gx.forget [(0, .int .u8 ((c).toNat : Int)), (30, .bool ((((decide (((c).toNat : Int) ≥ (97 : Int))) && (decide (((c).toNat : Int) ≤ (122 : Int)))) || ((decide (((c).toNat : Int) ≥ (65 : Int))) && (decide (((c).toNat : Int) ≤ (90 : Int))))) || (((c).toNat : Int) == (95 : Int))))] (by rw [h_g33, h_g37, h_g40]; try kernel_rfl)]
      exact hK3 _ _ _ ⟨rfl, rfl⟩
    rw [h_g33]
    refine Z.p [3, 4, 5, 6, 7, 8, 9] [10, 11, 12, 13, 14, 15, 16, 17, 18] [(40, .bool (decide (((c).toNat : Int) ≥ (65 : Int)))), (39, .bool (decide (((c).toNat : Int) ≥ (65 : Int)))), (38, .int .u8 ((c).toNat : Int)), (37, .bool false), (36, .bool false), (35, undef), (34, undef)] ?_
    refine Gx.split (decide (((c).toNat : Int) ≥ (65 : Int))) (fun h_g40 => ?_) (fun h_g40 => ?_)
    · rw [h_g40]
      refine Z.p [10, 11, 12, 13, 14] [15, 16, 17, 18] [(45, .bool (decide (((c).toNat : Int) ≤ (90 : Int)))), (44, .bool (decide (((c).toNat : Int) ≤ (90 : Int)))), (43, .bool (decide (((c).toNat : Int) ≤ (90 : Int)))), (42, .bool (decide (((c).toNat : Int) ≤ (90 : Int)))), (41, .int .u8 ((c).toNat : Int))] ?_
      refine Gx.split (decide (((c).toNat : Int) ≤ (90 : Int))) (fun h_g45 => ?_) (fun h_g45 => ?_)
      · rw [h_g45]
        refine Z.p [15, 16, 17, 18] [] [(30, .bool true), (48, .bool true), (47, undef), (46, undef)] ?_
        refine Z.e ?_
        rw [Gx.forget [(0, .int .u8 ((c).toNat : Int)), (30, .bool ((((decide (((c).toNat : Int) ≥ (97 : Int))) && (decide (((c).toNat : Int) ≤ (122 : Int)))) || ((decide (((c).toNat : Int) ≥ (65 : Int))) && (decide (((c).toNat : Int) ≤ (90 : Int))))) || (((c).toNat : Int) == (95 : Int))))] (by rw [h_g33, h_g40, h_g45]; try kernel_rfl)]
        exact hK3 _ _ _ ⟨rfl, rfl⟩
      rw [h_g45]
      refine Z.p [15, 16, 17, 18] [] [(30, .bool (((c).toNat : Int) == (95 : Int))), (48, .bool (((c).toNat : Int) == (95 : Int))), (47, .bool (((c).toNat : Int) == (95 : Int))), (46, .int .u8 ((c).toNat : Int))] ?_
      refine Z.e ?_
      rw [Gx.forget [(0, .int .u8 ((c).toNat : Int)), (30, .bool ((((decide (((c).toNat : Int) ≥ (97 : Int))) && (decide (((c).toNat : Int) ≤ (122 : Int)))) || ((decide (((c).toNat : Int) ≥ (65 : Int))) && (decide (((c).toNat : Int) ≤ (90 : Int))))) || (((c).toNat : Int) == (95 : Int))))] (by rw [h_g33, h_g40, h_g45]; try kernel_rfl)]
      exact hK3 _ _ _ ⟨rfl, rfl⟩
    rw [h_g40]
    refine Z.p [10, 11, 12, 13, 14, 15, 16, 17, 18] [] [(30, .bool (((c).toNat : Int) == (95 : Int))), (48, .bool (((c).toNat : Int) == (95 : Int))), (47, .bool (((c).toNat : Int) == (95 : Int))), (46, .int .u8 ((c).toNat : Int)), (45, .bool false), (44, .bool false), (43, .bool false), (42, undef), (41, undef)] ?_
    refine Z.e ?_
    rw [Gx.forget [(0, .int .u8 ((c).toNat : Int)), (30, .bool ((((decide (((c).toNat : Int) ≥ (97 : Int))) && (decide (((c).toNat : Int) ≤ (122 : Int)))) || ((decide (((c).toNat : Int) ≥ (65 : Int))) && (decide (((c).toNat : Int) ≤ (90 : Int))))) || (((c).toNat : Int) == (95 : Int))))] (by rw [h_g33, h_g40]; try kernel_rfl)]
    exact hK3 _ _ _ ⟨rfl, rfl⟩
  obtain ⟨rfl, rfl⟩ := hI3
  refine Z.c ((((decide (((c).toNat : Int) ≥ (97 : Int))) && (decide (((c).toNat : Int) ≤ (122 : Int)))) || ((decide (((c).toNat : Int) ≥ (65 : Int))) && (decide (((c).toNat : Int) ≤ (90 : Int))))) || (((c).toNat : Int) == (95 : Int))) (fun h_c30 => ?_) (fun h_c30 => ?_)
  · skip
    refine Z.s [(2, .int .i64 4)] ?_
    refine wp_ret (Gx.block_ret (Gx.then_ret (Z.v (.int .i64 4) ?_)))
    have p_c5 := h_c5; try simp at p_c5
    have p_c20 := h_c20; try simp at p_c20
    have p_c23 := h_c23; try simp at p_c23
    have p_c30 := h_c30; try simp at p_c30
    exact Gx.ret_as (v' := .int .i64 ((cls c : Nat) : Int)) (by unfold cls; rw [if_neg (by rw [show blankB c = _ from h_c5]; simp), if_neg (by rw [h_c20]; simp), if_neg (by rw [show digitB c = _ from h_c23]; simp), if_pos (show letterB c = true from h_c30)]; rfl) (hK _ (Gx.Ext.refl w))
  refine wp_skip (Gx.block_normal (Z.x (wp_seq (Z.r [0] ?_))))
  refine Z.N (.stringIter (Z.B [40, 41, 91, 93, 123, 125, 44, 59, 58, 61, 45, 43, 42, 60, 124, 126]) 0) (fun k1 w4 l1 x1 b1 zw4 tb1 => ?_)
  refine Z.e (wp_block ?_)
  have p_c5 := h_c5; try simp at p_c5
  have p_c20 := h_c20; try simp at p_c20
  have p_c23 := h_c23; try simp at p_c23
  have p_c30 := h_c30; try simp at p_c30
  refine Gx.loop (n' := 57) (d' := []) (fun mz l' w' => ∃ (k : Nat), l' = [(0, .int .u8 ((c).toNat : Int)), (49, Z.P k1 0)] ∧ mz = 16 - k ∧ Gx.Ext w w' ∧ Gx.Has w' k1 (.stringIter sgB k) ∧ (k ≤ 16) ∧ (∀ j, j < k → (Gx.byteAt sgB j).toNat ≠ c.toNat)) _ _ [(0, .int .u8 ((c).toNat : Int)), (49, Z.P k1 0)] (Gx.forget [(0, .int .u8 ((c).toNat : Int)), (49, Z.P k1 0)] (by kernel_rfl)) ⟨0, rfl, rfl, ((Gx.Ext.refl w).trans x1), b1, (by omega), (by intro j hj; omega)⟩ (fun bb4 m1 ll4 w5 hI4 K4 hK4 => ?_)
  obtain ⟨k, rfl, rfl, x2, b2, hk16, hn⟩ := hI4
  have zw5 := x2.size
  have tb2 := b2.lt
  rcases Nat.lt_or_ge k 16 with hk | hk
  · skip
    refine Z.r [0, 1] ?_
    refine Gx.cons (Gx.op_next_as rfl (by kernel_rfl) rfl sgB k (by kernel_rfl) b2 (by rw [sgB_sz]; omega) ((Gx.byteAt sgB k).toNat) 1 (sgB_dec k (by omega)) (fun w6 u1 b3 => ?_))
    have zw6 := u1.size
    refine Z.p [1] [] [(51, .bool true)] ?_
    refine Z.e (wp_seq (Z.ct ?_))
    refine wp_skip (Z.x (wp_block (Z.s [(4, .int .i32 (((Gx.byteAt sgB k).toNat : Nat) : Int)), (52, .int .i32 (((Gx.byteAt sgB k).toNat : Nat) : Int))] ?_)))
    refine Z.r [0, 1, 2, 3] ?_
    refine Z.p [0] [1, 2, 3] [(53, .int .i32 (((Gx.byteAt sgB k).toNat : Nat) : Int))] ?_
    refine Gx.pure_eq [1] [2, 3] [(54, .int .u8 (IntKind.u8.wrap (((Gx.byteAt sgB k).toNat : Nat) : Int)))] [(54, .int .u8 (((Gx.byteAt sgB k).toNat : Nat) : Int))] rfl (by kernel_rfl) (Gx.eqI (IntWalk.u8_in _ (by have := UInt8.toNat_lt (Gx.byteAt sgB k); omega))) ?_
    refine Z.p [2, 3] [] [(56, .bool ((((Gx.byteAt sgB k).toNat : Nat) : Int) == ((c).toNat : Int))), (55, .int .u8 ((c).toNat : Int))] ?_
    refine Z.e (Z.c ((((Gx.byteAt sgB k).toNat : Nat) : Int) == ((c).toNat : Int)) (fun h_c56 => ?_) (fun h_c56 => ?_))
    · skip
      refine Z.s [(2, .int .i64 5)] ?_
      refine wp_ret (Gx.block_ret (Gx.then_ret (Gx.block_ret (Gx.then_ret (Z.v (.int .i64 5) ?_)))))
      have p_c56 := h_c56; try simp at p_c56
      exact Gx.ret_as (v' := .int .i64 ((cls c : Nat) : Int)) (by unfold cls; rw [if_neg (by rw [show blankB c = _ from h_c5]; simp), if_neg (by rw [h_c20]; simp), if_neg (by rw [show digitB c = _ from h_c23]; simp), if_neg (by rw [show letterB c = _ from h_c30]; simp), if_pos (signB_yes hk (by omega))]; rfl) (hK _ (((Gx.Ext.refl w).trans x2).upd1 u1))
    refine wp_skip (Gx.block_normal (Z.x ?_))
    have p_c56 := h_c56; try simp at p_c56
    rw [Gx.forget [(0, .int .u8 ((c).toNat : Int)), (49, Z.P k1 0)] (by kernel_rfl)]
    exact hK4 _ _ _ _ (by omega) ⟨k + 1, rfl, rfl, (((Gx.Ext.refl w).trans x2).upd1 u1), b3, (by omega), (fun j hj => by rcases Nat.lt_or_ge j k with h | h; exact hn j h; (obtain rfl : j = k := by omega); omega)⟩
  refine Z.r [0, 1] ?_
  refine Gx.cons (Gx.op_next_end rfl (by kernel_rfl) rfl sgB k (by kernel_rfl) b2 (by rw [sgB_sz]; omega) ?_)
  refine Z.p [1] [] [(51, .bool false)] ?_
  refine Z.e (wp_seq (Z.cf ?_))
  refine wp_exit (Gx.then_exit (Gx.then_exit (Gx.block_exit (Z.x (Z.s [(2, .int .i64 0)] ?_)))))
  refine wp_ret (Z.v (.int .i64 0) ?_)
  exact Gx.ret_as (v' := .int .i64 ((cls c : Nat) : Int)) (by unfold cls; rw [if_neg (by rw [show blankB c = _ from h_c5]; simp), if_neg (by rw [h_c20]; simp), if_neg (by rw [show digitB c = _ from h_c23]; simp), if_neg (by rw [show letterB c = _ from h_c30]; simp), if_neg (by rw [signB_no (fun j hj => hn j (by omega))]; simp)]; rfl) (hK _ ((Gx.Ext.refl w).trans x2))
set_option maxHeartbeats 400000 in
set_option maxRecDepth 10000 in
theorem longer_c (s : ByteArray) (w : World) (K : Ending → World → Prop)  (hK : K (.returned (.bool (longerB s))) w) :
    Calls Try.prog 36 #[.string s] w K := by
  refine Gx.enter 17 Try.func36 rfl rfl (Nat.le_of_ble_eq_true rfl) ?_
  refine Z.s [(2, .bool false)] ?_
  refine Gx.cut (d' := []) (n' := 17) (fun l' w' => l' = [(2, .bool ((((s.toList == (Z.B [58, 58]).toList) || (s.toList == (Z.B [61, 61]).toList)) || (s.toList == (Z.B [61, 62]).toList)) || (s.toList == (Z.B [45, 62]).toList)))] ∧ w = w') (fun K1 hK1 => ?_) (fun bb1 ll1 w1 hI1 => ?_)
  · refine Z.g [0, 1, 2, 3, 4, 5, 6, 7, 8, 9, 10, 11, 12, 13, 14] ?_
    refine Z.p [0, 1, 2] [3, 4, 5, 6, 7, 8, 9, 10, 11, 12, 13, 14] [(5, .bool (s.toList == (Z.B [58, 58]).toList)), (4, .bool (s.toList == (Z.B [58, 58]).toList)), (3, .string s)] ?_
    refine Gx.split (s.toList == (Z.B [58, 58]).toList) (fun h_g5 => ?_) (fun h_g5 => ?_)
    · rw [h_g5]
      refine Z.p [3, 4, 5, 6, 7, 8, 9, 10, 11, 12, 13, 14] [] [(2, .bool true), (16, .bool true), (15, undef), (14, undef), (13, .bool true), (12, .bool true), (11, undef), (10, undef), (9, .bool true), (8, .bool true), (7, undef), (6, undef)] ?_
      refine Z.e ?_
      rw [Gx.forget [(2, .bool ((((s.toList == (Z.B [58, 58]).toList) || (s.toList == (Z.B [61, 61]).toList)) || (s.toList == (Z.B [61, 62]).toList)) || (s.toList == (Z.B [45, 62]).toList)))] (by rw [h_g5]; try kernel_rfl)]
      exact hK1 _ _ _ ⟨rfl, rfl⟩
    rw [h_g5]
    refine Z.p [3, 4, 5, 6] [7, 8, 9, 10, 11, 12, 13, 14] [(9, .bool (s.toList == (Z.B [61, 61]).toList)), (8, .bool (s.toList == (Z.B [61, 61]).toList)), (7, .bool (s.toList == (Z.B [61, 61]).toList)), (6, .string s)] ?_
    refine Gx.split (s.toList == (Z.B [61, 61]).toList) (fun h_g9 => ?_) (fun h_g9 => ?_)
    · rw [h_g9]
      refine Z.p [7, 8, 9, 10, 11, 12, 13, 14] [] [(2, .bool true), (16, .bool true), (15, undef), (14, undef), (13, .bool true), (12, .bool true), (11, undef), (10, undef)] ?_
      refine Z.e ?_
      rw [Gx.forget [(2, .bool ((((s.toList == (Z.B [58, 58]).toList) || (s.toList == (Z.B [61, 61]).toList)) || (s.toList == (Z.B [61, 62]).toList)) || (s.toList == (Z.B [45, 62]).toList)))] (by rw [h_g5, h_g9]; try kernel_rfl)]
      exact hK1 _ _ _ ⟨rfl, rfl⟩
    rw [h_g9]
    refine Z.p [7, 8, 9, 10] [11, 12, 13, 14] [(13, .bool (s.toList == (Z.B [61, 62]).toList)), (12, .bool (s.toList == (Z.B [61, 62]).toList)), (11, .bool (s.toList == (Z.B [61, 62]).toList)), (10, .string s)] ?_
    refine Gx.split (s.toList == (Z.B [61, 62]).toList) (fun h_g13 => ?_) (fun h_g13 => ?_)
    · rw [h_g13]
      refine Z.p [11, 12, 13, 14] [] [(2, .bool true), (16, .bool true), (15, undef), (14, undef)] ?_
      refine Z.e ?_
      rw [Gx.forget [(2, .bool ((((s.toList == (Z.B [58, 58]).toList) || (s.toList == (Z.B [61, 61]).toList)) || (s.toList == (Z.B [61, 62]).toList)) || (s.toList == (Z.B [45, 62]).toList)))] (by rw [h_g5, h_g9, h_g13]; try kernel_rfl)]
      exact hK1 _ _ _ ⟨rfl, rfl⟩
    rw [h_g13]
    refine Z.p [11, 12, 13, 14] [] [(2, .bool (s.toList == (Z.B [45, 62]).toList)), (16, .bool (s.toList == (Z.B [45, 62]).toList)), (15, .bool (s.toList == (Z.B [45, 62]).toList)), (14, .string s)] ?_
    refine Z.e ?_
    rw [Gx.forget [(2, .bool ((((s.toList == (Z.B [58, 58]).toList) || (s.toList == (Z.B [61, 61]).toList)) || (s.toList == (Z.B [61, 62]).toList)) || (s.toList == (Z.B [45, 62]).toList)))] (by rw [h_g5, h_g9, h_g13]; try kernel_rfl)]
    exact hK1 _ _ _ ⟨rfl, rfl⟩
  obtain ⟨rfl, rfl⟩ := hI1
  refine wp_ret (Z.v (.bool ((((s.toList == (Z.B [58, 58]).toList) || (s.toList == (Z.B [61, 61]).toList)) || (s.toList == (Z.B [61, 62]).toList)) || (s.toList == (Z.B [45, 62]).toList))) ?_)
  exact Gx.ret_as (v' := .bool (longerB s)) (by rfl) (hK)
set_option maxHeartbeats 1000000 in
set_option maxRecDepth 10000 in
theorem isWord_c (s : ByteArray) (w : World) (K : Ending → World → Prop)  (hK : ∀ w', Gx.Ext w w' → K (.returned (.bool (wordB s))) w') :
    Calls Try.prog 50 #[.string s] w K := by
  refine Gx.enter 33 Try.func50 rfl rfl (Nat.le_of_ble_eq_true rfl) ?_
  refine Z.s [(2, .bool false)] ?_
  refine wp_seq (Z.s [(3, .string s)] ?_)
  refine wp_block (Gx.cut (d' := []) (n' := 33) (fun l' w' => l' = [(4, .bool (wordB s))] ∧ Gx.Ext w w') (fun K1 hK1 => ?_) (fun bb1 ll1 w1 hI1 => ?_))
  · skip
    refine Z.s [(4, .bool (s.toList == (Z.B [111, 112]).toList)), (5, .bool (s.toList == (Z.B [111, 112]).toList))] ?_
    refine Z.c (s.toList == (Z.B [111, 112]).toList) (fun h_c4 => ?_) (fun h_c4 => ?_)
    · skip
      refine wp_skip (Z.x ?_)
      have p_c4 := h_c4; try simp at p_c4
      rw [Gx.forget [(4, .bool (wordB s))] (by rw [wordB_yes 0 _ rfl h_c4, h_c4]; kernel_rfl)]
      exact hK1 _ _ _ ⟨rfl, (Gx.Ext.refl w)⟩
    refine Z.s [(4, .bool (s.toList == (Z.B [111, 110, 99, 101]).toList)), (6, .bool (s.toList == (Z.B [111, 110, 99, 101]).toList))] ?_
    refine Z.c (s.toList == (Z.B [111, 110, 99, 101]).toList) (fun h_c4_1 => ?_) (fun h_c4_1 => ?_)
    · skip
      refine wp_skip (Z.x ?_)
      have p_c4 := h_c4; try simp at p_c4
      have p_c4_1 := h_c4_1; try simp at p_c4_1
      rw [Gx.forget [(4, .bool (wordB s))] (by rw [wordB_yes 1 _ rfl h_c4_1, h_c4_1]; kernel_rfl)]
      exact hK1 _ _ _ ⟨rfl, (Gx.Ext.refl w)⟩
    refine Z.s [(4, .bool (s.toList == (Z.B [109, 97, 110, 121]).toList)), (7, .bool (s.toList == (Z.B [109, 97, 110, 121]).toList))] ?_
    refine Z.c (s.toList == (Z.B [109, 97, 110, 121]).toList) (fun h_c4_2 => ?_) (fun h_c4_2 => ?_)
    · skip
      refine wp_skip (Z.x ?_)
      have p_c4 := h_c4; try simp at p_c4
      have p_c4_1 := h_c4_1; try simp at p_c4_1
      have p_c4_2 := h_c4_2; try simp at p_c4_2
      rw [Gx.forget [(4, .bool (wordB s))] (by rw [wordB_yes 2 _ rfl h_c4_2, h_c4_2]; kernel_rfl)]
      exact hK1 _ _ _ ⟨rfl, (Gx.Ext.refl w)⟩
    refine Z.s [(4, .bool (s.toList == (Z.B [100, 101, 102]).toList)), (8, .bool (s.toList == (Z.B [100, 101, 102]).toList))] ?_
    refine Z.c (s.toList == (Z.B [100, 101, 102]).toList) (fun h_c4_3 => ?_) (fun h_c4_3 => ?_)
    · skip
      refine wp_skip (Z.x ?_)
      have p_c4 := h_c4; try simp at p_c4
      have p_c4_1 := h_c4_1; try simp at p_c4_1
      have p_c4_2 := h_c4_2; try simp at p_c4_2
      have p_c4_3 := h_c4_3; try simp at p_c4_3
      rw [Gx.forget [(4, .bool (wordB s))] (by rw [wordB_yes 3 _ rfl h_c4_3, h_c4_3]; kernel_rfl)]
      exact hK1 _ _ _ ⟨rfl, (Gx.Ext.refl w)⟩
    refine Z.s [(4, .bool (s.toList == (Z.B [114, 101, 99]).toList)), (9, .bool (s.toList == (Z.B [114, 101, 99]).toList))] ?_
    refine Z.c (s.toList == (Z.B [114, 101, 99]).toList) (fun h_c4_4 => ?_) (fun h_c4_4 => ?_)
    · skip
      refine wp_skip (Z.x ?_)
      have p_c4 := h_c4; try simp at p_c4
      have p_c4_1 := h_c4_1; try simp at p_c4_1
      have p_c4_2 := h_c4_2; try simp at p_c4_2
      have p_c4_3 := h_c4_3; try simp at p_c4_3
      have p_c4_4 := h_c4_4; try simp at p_c4_4
      rw [Gx.forget [(4, .bool (wordB s))] (by rw [wordB_yes 4 _ rfl h_c4_4, h_c4_4]; kernel_rfl)]
      exact hK1 _ _ _ ⟨rfl, (Gx.Ext.refl w)⟩
    refine Z.s [(4, .bool (s.toList == (Z.B [109, 97, 105, 110]).toList)), (10, .bool (s.toList == (Z.B [109, 97, 105, 110]).toList))] ?_
    refine Z.c (s.toList == (Z.B [109, 97, 105, 110]).toList) (fun h_c4_5 => ?_) (fun h_c4_5 => ?_)
    · skip
      refine wp_skip (Z.x ?_)
      have p_c4 := h_c4; try simp at p_c4
      have p_c4_1 := h_c4_1; try simp at p_c4_1
      have p_c4_2 := h_c4_2; try simp at p_c4_2
      have p_c4_3 := h_c4_3; try simp at p_c4_3
      have p_c4_4 := h_c4_4; try simp at p_c4_4
      have p_c4_5 := h_c4_5; try simp at p_c4_5
      rw [Gx.forget [(4, .bool (wordB s))] (by rw [wordB_yes 5 _ rfl h_c4_5, h_c4_5]; kernel_rfl)]
      exact hK1 _ _ _ ⟨rfl, (Gx.Ext.refl w)⟩
    refine Z.s [(4, .bool (s.toList == (Z.B [108, 101, 116]).toList)), (11, .bool (s.toList == (Z.B [108, 101, 116]).toList))] ?_
    refine Z.c (s.toList == (Z.B [108, 101, 116]).toList) (fun h_c4_6 => ?_) (fun h_c4_6 => ?_)
    · skip
      refine wp_skip (Z.x ?_)
      have p_c4 := h_c4; try simp at p_c4
      have p_c4_1 := h_c4_1; try simp at p_c4_1
      have p_c4_2 := h_c4_2; try simp at p_c4_2
      have p_c4_3 := h_c4_3; try simp at p_c4_3
      have p_c4_4 := h_c4_4; try simp at p_c4_4
      have p_c4_5 := h_c4_5; try simp at p_c4_5
      have p_c4_6 := h_c4_6; try simp at p_c4_6
      rw [Gx.forget [(4, .bool (wordB s))] (by rw [wordB_yes 6 _ rfl h_c4_6, h_c4_6]; kernel_rfl)]
      exact hK1 _ _ _ ⟨rfl, (Gx.Ext.refl w)⟩
    refine Z.s [(4, .bool (s.toList == (Z.B [105, 110]).toList)), (12, .bool (s.toList == (Z.B [105, 110]).toList))] ?_
    refine Z.c (s.toList == (Z.B [105, 110]).toList) (fun h_c4_7 => ?_) (fun h_c4_7 => ?_)
    · skip
      refine wp_skip (Z.x ?_)
      have p_c4 := h_c4; try simp at p_c4
      have p_c4_1 := h_c4_1; try simp at p_c4_1
      have p_c4_2 := h_c4_2; try simp at p_c4_2
      have p_c4_3 := h_c4_3; try simp at p_c4_3
      have p_c4_4 := h_c4_4; try simp at p_c4_4
      have p_c4_5 := h_c4_5; try simp at p_c4_5
      have p_c4_6 := h_c4_6; try simp at p_c4_6
      have p_c4_7 := h_c4_7; try simp at p_c4_7
      rw [Gx.forget [(4, .bool (wordB s))] (by rw [wordB_yes 7 _ rfl h_c4_7, h_c4_7]; kernel_rfl)]
      exact hK1 _ _ _ ⟨rfl, (Gx.Ext.refl w)⟩
    refine Z.s [(4, .bool (s.toList == (Z.B [102, 110]).toList)), (13, .bool (s.toList == (Z.B [102, 110]).toList))] ?_
    refine Z.c (s.toList == (Z.B [102, 110]).toList) (fun h_c4_8 => ?_) (fun h_c4_8 => ?_)
    · skip
      refine wp_skip (Z.x ?_)
      have p_c4 := h_c4; try simp at p_c4
      have p_c4_1 := h_c4_1; try simp at p_c4_1
      have p_c4_2 := h_c4_2; try simp at p_c4_2
      have p_c4_3 := h_c4_3; try simp at p_c4_3
      have p_c4_4 := h_c4_4; try simp at p_c4_4
      have p_c4_5 := h_c4_5; try simp at p_c4_5
      have p_c4_6 := h_c4_6; try simp at p_c4_6
      have p_c4_7 := h_c4_7; try simp at p_c4_7
      have p_c4_8 := h_c4_8; try simp at p_c4_8
      rw [Gx.forget [(4, .bool (wordB s))] (by rw [wordB_yes 8 _ rfl h_c4_8, h_c4_8]; kernel_rfl)]
      exact hK1 _ _ _ ⟨rfl, (Gx.Ext.refl w)⟩
    refine Z.s [(4, .bool (s.toList == (Z.B [105, 102]).toList)), (14, .bool (s.toList == (Z.B [105, 102]).toList))] ?_
    refine Z.c (s.toList == (Z.B [105, 102]).toList) (fun h_c4_9 => ?_) (fun h_c4_9 => ?_)
    · skip
      refine wp_skip (Z.x ?_)
      have p_c4 := h_c4; try simp at p_c4
      have p_c4_1 := h_c4_1; try simp at p_c4_1
      have p_c4_2 := h_c4_2; try simp at p_c4_2
      have p_c4_3 := h_c4_3; try simp at p_c4_3
      have p_c4_4 := h_c4_4; try simp at p_c4_4
      have p_c4_5 := h_c4_5; try simp at p_c4_5
      have p_c4_6 := h_c4_6; try simp at p_c4_6
      have p_c4_7 := h_c4_7; try simp at p_c4_7
      have p_c4_8 := h_c4_8; try simp at p_c4_8
      have p_c4_9 := h_c4_9; try simp at p_c4_9
      rw [Gx.forget [(4, .bool (wordB s))] (by rw [wordB_yes 9 _ rfl h_c4_9, h_c4_9]; kernel_rfl)]
      exact hK1 _ _ _ ⟨rfl, (Gx.Ext.refl w)⟩
    refine Z.s [(4, .bool (s.toList == (Z.B [116, 104, 101, 110]).toList)), (15, .bool (s.toList == (Z.B [116, 104, 101, 110]).toList))] ?_
    refine Z.c (s.toList == (Z.B [116, 104, 101, 110]).toList) (fun h_c4_10 => ?_) (fun h_c4_10 => ?_)
    · skip
      refine wp_skip (Z.x ?_)
      have p_c4 := h_c4; try simp at p_c4
      have p_c4_1 := h_c4_1; try simp at p_c4_1
      have p_c4_2 := h_c4_2; try simp at p_c4_2
      have p_c4_3 := h_c4_3; try simp at p_c4_3
      have p_c4_4 := h_c4_4; try simp at p_c4_4
      have p_c4_5 := h_c4_5; try simp at p_c4_5
      have p_c4_6 := h_c4_6; try simp at p_c4_6
      have p_c4_7 := h_c4_7; try simp at p_c4_7
      have p_c4_8 := h_c4_8; try simp at p_c4_8
      have p_c4_9 := h_c4_9; try simp at p_c4_9
      have p_c4_10 := h_c4_10; try simp at p_c4_10
      rw [Gx.forget [(4, .bool (wordB s))] (by rw [wordB_yes 10 _ rfl h_c4_10, h_c4_10]; kernel_rfl)]
      exact hK1 _ _ _ ⟨rfl, (Gx.Ext.refl w)⟩
    refine Z.s [(4, .bool (s.toList == (Z.B [101, 108, 115, 101]).toList)), (16, .bool (s.toList == (Z.B [101, 108, 115, 101]).toList))] ?_
    refine Z.c (s.toList == (Z.B [101, 108, 115, 101]).toList) (fun h_c4_11 => ?_) (fun h_c4_11 => ?_)
    · skip
      refine wp_skip (Z.x ?_)
      have p_c4 := h_c4; try simp at p_c4
      have p_c4_1 := h_c4_1; try simp at p_c4_1
      have p_c4_2 := h_c4_2; try simp at p_c4_2
      have p_c4_3 := h_c4_3; try simp at p_c4_3
      have p_c4_4 := h_c4_4; try simp at p_c4_4
      have p_c4_5 := h_c4_5; try simp at p_c4_5
      have p_c4_6 := h_c4_6; try simp at p_c4_6
      have p_c4_7 := h_c4_7; try simp at p_c4_7
      have p_c4_8 := h_c4_8; try simp at p_c4_8
      have p_c4_9 := h_c4_9; try simp at p_c4_9
      have p_c4_10 := h_c4_10; try simp at p_c4_10
      have p_c4_11 := h_c4_11; try simp at p_c4_11
      rw [Gx.forget [(4, .bool (wordB s))] (by rw [wordB_yes 11 _ rfl h_c4_11, h_c4_11]; kernel_rfl)]
      exact hK1 _ _ _ ⟨rfl, (Gx.Ext.refl w)⟩
    refine Z.s [(4, .bool (s.toList == (Z.B [99, 97, 115, 101]).toList)), (17, .bool (s.toList == (Z.B [99, 97, 115, 101]).toList))] ?_
    refine Z.c (s.toList == (Z.B [99, 97, 115, 101]).toList) (fun h_c4_12 => ?_) (fun h_c4_12 => ?_)
    · skip
      refine wp_skip (Z.x ?_)
      have p_c4 := h_c4; try simp at p_c4
      have p_c4_1 := h_c4_1; try simp at p_c4_1
      have p_c4_2 := h_c4_2; try simp at p_c4_2
      have p_c4_3 := h_c4_3; try simp at p_c4_3
      have p_c4_4 := h_c4_4; try simp at p_c4_4
      have p_c4_5 := h_c4_5; try simp at p_c4_5
      have p_c4_6 := h_c4_6; try simp at p_c4_6
      have p_c4_7 := h_c4_7; try simp at p_c4_7
      have p_c4_8 := h_c4_8; try simp at p_c4_8
      have p_c4_9 := h_c4_9; try simp at p_c4_9
      have p_c4_10 := h_c4_10; try simp at p_c4_10
      have p_c4_11 := h_c4_11; try simp at p_c4_11
      have p_c4_12 := h_c4_12; try simp at p_c4_12
      rw [Gx.forget [(4, .bool (wordB s))] (by rw [wordB_yes 12 _ rfl h_c4_12, h_c4_12]; kernel_rfl)]
      exact hK1 _ _ _ ⟨rfl, (Gx.Ext.refl w)⟩
    refine Z.s [(4, .bool (s.toList == (Z.B [111, 102]).toList)), (18, .bool (s.toList == (Z.B [111, 102]).toList))] ?_
    refine Z.c (s.toList == (Z.B [111, 102]).toList) (fun h_c4_13 => ?_) (fun h_c4_13 => ?_)
    · skip
      refine wp_skip (Z.x ?_)
      have p_c4 := h_c4; try simp at p_c4
      have p_c4_1 := h_c4_1; try simp at p_c4_1
      have p_c4_2 := h_c4_2; try simp at p_c4_2
      have p_c4_3 := h_c4_3; try simp at p_c4_3
      have p_c4_4 := h_c4_4; try simp at p_c4_4
      have p_c4_5 := h_c4_5; try simp at p_c4_5
      have p_c4_6 := h_c4_6; try simp at p_c4_6
      have p_c4_7 := h_c4_7; try simp at p_c4_7
      have p_c4_8 := h_c4_8; try simp at p_c4_8
      have p_c4_9 := h_c4_9; try simp at p_c4_9
      have p_c4_10 := h_c4_10; try simp at p_c4_10
      have p_c4_11 := h_c4_11; try simp at p_c4_11
      have p_c4_12 := h_c4_12; try simp at p_c4_12
      have p_c4_13 := h_c4_13; try simp at p_c4_13
      rw [Gx.forget [(4, .bool (wordB s))] (by rw [wordB_yes 13 _ rfl h_c4_13, h_c4_13]; kernel_rfl)]
      exact hK1 _ _ _ ⟨rfl, (Gx.Ext.refl w)⟩
    refine Z.s [(4, .bool (s.toList == (Z.B [101, 110, 100]).toList)), (19, .bool (s.toList == (Z.B [101, 110, 100]).toList))] ?_
    refine Z.c (s.toList == (Z.B [101, 110, 100]).toList) (fun h_c4_14 => ?_) (fun h_c4_14 => ?_)
    · skip
      refine wp_skip (Z.x ?_)
      have p_c4 := h_c4; try simp at p_c4
      have p_c4_1 := h_c4_1; try simp at p_c4_1
      have p_c4_2 := h_c4_2; try simp at p_c4_2
      have p_c4_3 := h_c4_3; try simp at p_c4_3
      have p_c4_4 := h_c4_4; try simp at p_c4_4
      have p_c4_5 := h_c4_5; try simp at p_c4_5
      have p_c4_6 := h_c4_6; try simp at p_c4_6
      have p_c4_7 := h_c4_7; try simp at p_c4_7
      have p_c4_8 := h_c4_8; try simp at p_c4_8
      have p_c4_9 := h_c4_9; try simp at p_c4_9
      have p_c4_10 := h_c4_10; try simp at p_c4_10
      have p_c4_11 := h_c4_11; try simp at p_c4_11
      have p_c4_12 := h_c4_12; try simp at p_c4_12
      have p_c4_13 := h_c4_13; try simp at p_c4_13
      have p_c4_14 := h_c4_14; try simp at p_c4_14
      rw [Gx.forget [(4, .bool (wordB s))] (by rw [wordB_yes 14 _ rfl h_c4_14, h_c4_14]; kernel_rfl)]
      exact hK1 _ _ _ ⟨rfl, (Gx.Ext.refl w)⟩
    refine Z.s [(4, .bool (s.toList == (Z.B [100, 111]).toList)), (20, .bool (s.toList == (Z.B [100, 111]).toList))] ?_
    refine Z.c (s.toList == (Z.B [100, 111]).toList) (fun h_c4_15 => ?_) (fun h_c4_15 => ?_)
    · skip
      refine wp_skip (Z.x ?_)
      have p_c4 := h_c4; try simp at p_c4
      have p_c4_1 := h_c4_1; try simp at p_c4_1
      have p_c4_2 := h_c4_2; try simp at p_c4_2
      have p_c4_3 := h_c4_3; try simp at p_c4_3
      have p_c4_4 := h_c4_4; try simp at p_c4_4
      have p_c4_5 := h_c4_5; try simp at p_c4_5
      have p_c4_6 := h_c4_6; try simp at p_c4_6
      have p_c4_7 := h_c4_7; try simp at p_c4_7
      have p_c4_8 := h_c4_8; try simp at p_c4_8
      have p_c4_9 := h_c4_9; try simp at p_c4_9
      have p_c4_10 := h_c4_10; try simp at p_c4_10
      have p_c4_11 := h_c4_11; try simp at p_c4_11
      have p_c4_12 := h_c4_12; try simp at p_c4_12
      have p_c4_13 := h_c4_13; try simp at p_c4_13
      have p_c4_14 := h_c4_14; try simp at p_c4_14
      have p_c4_15 := h_c4_15; try simp at p_c4_15
      rw [Gx.forget [(4, .bool (wordB s))] (by rw [wordB_yes 15 _ rfl h_c4_15, h_c4_15]; kernel_rfl)]
      exact hK1 _ _ _ ⟨rfl, (Gx.Ext.refl w)⟩
    refine Z.s [(4, .bool (s.toList == (Z.B [102, 115, 116]).toList)), (21, .bool (s.toList == (Z.B [102, 115, 116]).toList))] ?_
    refine Z.c (s.toList == (Z.B [102, 115, 116]).toList) (fun h_c4_16 => ?_) (fun h_c4_16 => ?_)
    · skip
      refine wp_skip (Z.x ?_)
      have p_c4 := h_c4; try simp at p_c4
      have p_c4_1 := h_c4_1; try simp at p_c4_1
      have p_c4_2 := h_c4_2; try simp at p_c4_2
      have p_c4_3 := h_c4_3; try simp at p_c4_3
      have p_c4_4 := h_c4_4; try simp at p_c4_4
      have p_c4_5 := h_c4_5; try simp at p_c4_5
      have p_c4_6 := h_c4_6; try simp at p_c4_6
      have p_c4_7 := h_c4_7; try simp at p_c4_7
      have p_c4_8 := h_c4_8; try simp at p_c4_8
      have p_c4_9 := h_c4_9; try simp at p_c4_9
      have p_c4_10 := h_c4_10; try simp at p_c4_10
      have p_c4_11 := h_c4_11; try simp at p_c4_11
      have p_c4_12 := h_c4_12; try simp at p_c4_12
      have p_c4_13 := h_c4_13; try simp at p_c4_13
      have p_c4_14 := h_c4_14; try simp at p_c4_14
      have p_c4_15 := h_c4_15; try simp at p_c4_15
      have p_c4_16 := h_c4_16; try simp at p_c4_16
      rw [Gx.forget [(4, .bool (wordB s))] (by rw [wordB_yes 16 _ rfl h_c4_16, h_c4_16]; kernel_rfl)]
      exact hK1 _ _ _ ⟨rfl, (Gx.Ext.refl w)⟩
    refine Z.s [(4, .bool (s.toList == (Z.B [115, 110, 100]).toList)), (22, .bool (s.toList == (Z.B [115, 110, 100]).toList))] ?_
    refine Z.c (s.toList == (Z.B [115, 110, 100]).toList) (fun h_c4_17 => ?_) (fun h_c4_17 => ?_)
    · skip
      refine wp_skip (Z.x ?_)
      have p_c4 := h_c4; try simp at p_c4
      have p_c4_1 := h_c4_1; try simp at p_c4_1
      have p_c4_2 := h_c4_2; try simp at p_c4_2
      have p_c4_3 := h_c4_3; try simp at p_c4_3
      have p_c4_4 := h_c4_4; try simp at p_c4_4
      have p_c4_5 := h_c4_5; try simp at p_c4_5
      have p_c4_6 := h_c4_6; try simp at p_c4_6
      have p_c4_7 := h_c4_7; try simp at p_c4_7
      have p_c4_8 := h_c4_8; try simp at p_c4_8
      have p_c4_9 := h_c4_9; try simp at p_c4_9
      have p_c4_10 := h_c4_10; try simp at p_c4_10
      have p_c4_11 := h_c4_11; try simp at p_c4_11
      have p_c4_12 := h_c4_12; try simp at p_c4_12
      have p_c4_13 := h_c4_13; try simp at p_c4_13
      have p_c4_14 := h_c4_14; try simp at p_c4_14
      have p_c4_15 := h_c4_15; try simp at p_c4_15
      have p_c4_16 := h_c4_16; try simp at p_c4_16
      have p_c4_17 := h_c4_17; try simp at p_c4_17
      rw [Gx.forget [(4, .bool (wordB s))] (by rw [wordB_yes 17 _ rfl h_c4_17, h_c4_17]; kernel_rfl)]
      exact hK1 _ _ _ ⟨rfl, (Gx.Ext.refl w)⟩
    refine Z.s [(4, .bool (s.toList == (Z.B [104, 97, 110, 100, 108, 101]).toList)), (23, .bool (s.toList == (Z.B [104, 97, 110, 100, 108, 101]).toList))] ?_
    refine Z.c (s.toList == (Z.B [104, 97, 110, 100, 108, 101]).toList) (fun h_c4_18 => ?_) (fun h_c4_18 => ?_)
    · skip
      refine wp_skip (Z.x ?_)
      have p_c4 := h_c4; try simp at p_c4
      have p_c4_1 := h_c4_1; try simp at p_c4_1
      have p_c4_2 := h_c4_2; try simp at p_c4_2
      have p_c4_3 := h_c4_3; try simp at p_c4_3
      have p_c4_4 := h_c4_4; try simp at p_c4_4
      have p_c4_5 := h_c4_5; try simp at p_c4_5
      have p_c4_6 := h_c4_6; try simp at p_c4_6
      have p_c4_7 := h_c4_7; try simp at p_c4_7
      have p_c4_8 := h_c4_8; try simp at p_c4_8
      have p_c4_9 := h_c4_9; try simp at p_c4_9
      have p_c4_10 := h_c4_10; try simp at p_c4_10
      have p_c4_11 := h_c4_11; try simp at p_c4_11
      have p_c4_12 := h_c4_12; try simp at p_c4_12
      have p_c4_13 := h_c4_13; try simp at p_c4_13
      have p_c4_14 := h_c4_14; try simp at p_c4_14
      have p_c4_15 := h_c4_15; try simp at p_c4_15
      have p_c4_16 := h_c4_16; try simp at p_c4_16
      have p_c4_17 := h_c4_17; try simp at p_c4_17
      have p_c4_18 := h_c4_18; try simp at p_c4_18
      rw [Gx.forget [(4, .bool (wordB s))] (by rw [wordB_yes 18 _ rfl h_c4_18, h_c4_18]; kernel_rfl)]
      exact hK1 _ _ _ ⟨rfl, (Gx.Ext.refl w)⟩
    refine Z.s [(4, .bool (s.toList == (Z.B [115, 104, 97, 108, 108, 111, 119]).toList)), (24, .bool (s.toList == (Z.B [115, 104, 97, 108, 108, 111, 119]).toList))] ?_
    refine Z.c (s.toList == (Z.B [115, 104, 97, 108, 108, 111, 119]).toList) (fun h_c4_19 => ?_) (fun h_c4_19 => ?_)
    · skip
      refine wp_skip (Z.x ?_)
      have p_c4 := h_c4; try simp at p_c4
      have p_c4_1 := h_c4_1; try simp at p_c4_1
      have p_c4_2 := h_c4_2; try simp at p_c4_2
      have p_c4_3 := h_c4_3; try simp at p_c4_3
      have p_c4_4 := h_c4_4; try simp at p_c4_4
      have p_c4_5 := h_c4_5; try simp at p_c4_5
      have p_c4_6 := h_c4_6; try simp at p_c4_6
      have p_c4_7 := h_c4_7; try simp at p_c4_7
      have p_c4_8 := h_c4_8; try simp at p_c4_8
      have p_c4_9 := h_c4_9; try simp at p_c4_9
      have p_c4_10 := h_c4_10; try simp at p_c4_10
      have p_c4_11 := h_c4_11; try simp at p_c4_11
      have p_c4_12 := h_c4_12; try simp at p_c4_12
      have p_c4_13 := h_c4_13; try simp at p_c4_13
      have p_c4_14 := h_c4_14; try simp at p_c4_14
      have p_c4_15 := h_c4_15; try simp at p_c4_15
      have p_c4_16 := h_c4_16; try simp at p_c4_16
      have p_c4_17 := h_c4_17; try simp at p_c4_17
      have p_c4_18 := h_c4_18; try simp at p_c4_18
      have p_c4_19 := h_c4_19; try simp at p_c4_19
      rw [Gx.forget [(4, .bool (wordB s))] (by rw [wordB_yes 19 _ rfl h_c4_19, h_c4_19]; kernel_rfl)]
      exact hK1 _ _ _ ⟨rfl, (Gx.Ext.refl w)⟩
    refine Z.s [(4, .bool (s.toList == (Z.B [119, 105, 116, 104]).toList)), (25, .bool (s.toList == (Z.B [119, 105, 116, 104]).toList))] ?_
    refine Z.c (s.toList == (Z.B [119, 105, 116, 104]).toList) (fun h_c4_20 => ?_) (fun h_c4_20 => ?_)
    · skip
      refine wp_skip (Z.x ?_)
      have p_c4 := h_c4; try simp at p_c4
      have p_c4_1 := h_c4_1; try simp at p_c4_1
      have p_c4_2 := h_c4_2; try simp at p_c4_2
      have p_c4_3 := h_c4_3; try simp at p_c4_3
      have p_c4_4 := h_c4_4; try simp at p_c4_4
      have p_c4_5 := h_c4_5; try simp at p_c4_5
      have p_c4_6 := h_c4_6; try simp at p_c4_6
      have p_c4_7 := h_c4_7; try simp at p_c4_7
      have p_c4_8 := h_c4_8; try simp at p_c4_8
      have p_c4_9 := h_c4_9; try simp at p_c4_9
      have p_c4_10 := h_c4_10; try simp at p_c4_10
      have p_c4_11 := h_c4_11; try simp at p_c4_11
      have p_c4_12 := h_c4_12; try simp at p_c4_12
      have p_c4_13 := h_c4_13; try simp at p_c4_13
      have p_c4_14 := h_c4_14; try simp at p_c4_14
      have p_c4_15 := h_c4_15; try simp at p_c4_15
      have p_c4_16 := h_c4_16; try simp at p_c4_16
      have p_c4_17 := h_c4_17; try simp at p_c4_17
      have p_c4_18 := h_c4_18; try simp at p_c4_18
      have p_c4_19 := h_c4_19; try simp at p_c4_19
      have p_c4_20 := h_c4_20; try simp at p_c4_20
      rw [Gx.forget [(4, .bool (wordB s))] (by rw [wordB_yes 20 _ rfl h_c4_20, h_c4_20]; kernel_rfl)]
      exact hK1 _ _ _ ⟨rfl, (Gx.Ext.refl w)⟩
    refine Z.s [(4, .bool (s.toList == (Z.B [114, 101, 116, 117, 114, 110]).toList)), (26, .bool (s.toList == (Z.B [114, 101, 116, 117, 114, 110]).toList))] ?_
    refine Z.c (s.toList == (Z.B [114, 101, 116, 117, 114, 110]).toList) (fun h_c4_21 => ?_) (fun h_c4_21 => ?_)
    · skip
      refine wp_skip (Z.x ?_)
      have p_c4 := h_c4; try simp at p_c4
      have p_c4_1 := h_c4_1; try simp at p_c4_1
      have p_c4_2 := h_c4_2; try simp at p_c4_2
      have p_c4_3 := h_c4_3; try simp at p_c4_3
      have p_c4_4 := h_c4_4; try simp at p_c4_4
      have p_c4_5 := h_c4_5; try simp at p_c4_5
      have p_c4_6 := h_c4_6; try simp at p_c4_6
      have p_c4_7 := h_c4_7; try simp at p_c4_7
      have p_c4_8 := h_c4_8; try simp at p_c4_8
      have p_c4_9 := h_c4_9; try simp at p_c4_9
      have p_c4_10 := h_c4_10; try simp at p_c4_10
      have p_c4_11 := h_c4_11; try simp at p_c4_11
      have p_c4_12 := h_c4_12; try simp at p_c4_12
      have p_c4_13 := h_c4_13; try simp at p_c4_13
      have p_c4_14 := h_c4_14; try simp at p_c4_14
      have p_c4_15 := h_c4_15; try simp at p_c4_15
      have p_c4_16 := h_c4_16; try simp at p_c4_16
      have p_c4_17 := h_c4_17; try simp at p_c4_17
      have p_c4_18 := h_c4_18; try simp at p_c4_18
      have p_c4_19 := h_c4_19; try simp at p_c4_19
      have p_c4_20 := h_c4_20; try simp at p_c4_20
      have p_c4_21 := h_c4_21; try simp at p_c4_21
      rw [Gx.forget [(4, .bool (wordB s))] (by rw [wordB_yes 21 _ rfl h_c4_21, h_c4_21]; kernel_rfl)]
      exact hK1 _ _ _ ⟨rfl, (Gx.Ext.refl w)⟩
    refine Z.s [(4, .bool (s.toList == (Z.B [116, 114, 117, 101]).toList)), (27, .bool (s.toList == (Z.B [116, 114, 117, 101]).toList))] ?_
    refine Z.c (s.toList == (Z.B [116, 114, 117, 101]).toList) (fun h_c4_22 => ?_) (fun h_c4_22 => ?_)
    · skip
      refine wp_skip (Z.x ?_)
      have p_c4 := h_c4; try simp at p_c4
      have p_c4_1 := h_c4_1; try simp at p_c4_1
      have p_c4_2 := h_c4_2; try simp at p_c4_2
      have p_c4_3 := h_c4_3; try simp at p_c4_3
      have p_c4_4 := h_c4_4; try simp at p_c4_4
      have p_c4_5 := h_c4_5; try simp at p_c4_5
      have p_c4_6 := h_c4_6; try simp at p_c4_6
      have p_c4_7 := h_c4_7; try simp at p_c4_7
      have p_c4_8 := h_c4_8; try simp at p_c4_8
      have p_c4_9 := h_c4_9; try simp at p_c4_9
      have p_c4_10 := h_c4_10; try simp at p_c4_10
      have p_c4_11 := h_c4_11; try simp at p_c4_11
      have p_c4_12 := h_c4_12; try simp at p_c4_12
      have p_c4_13 := h_c4_13; try simp at p_c4_13
      have p_c4_14 := h_c4_14; try simp at p_c4_14
      have p_c4_15 := h_c4_15; try simp at p_c4_15
      have p_c4_16 := h_c4_16; try simp at p_c4_16
      have p_c4_17 := h_c4_17; try simp at p_c4_17
      have p_c4_18 := h_c4_18; try simp at p_c4_18
      have p_c4_19 := h_c4_19; try simp at p_c4_19
      have p_c4_20 := h_c4_20; try simp at p_c4_20
      have p_c4_21 := h_c4_21; try simp at p_c4_21
      have p_c4_22 := h_c4_22; try simp at p_c4_22
      rw [Gx.forget [(4, .bool (wordB s))] (by rw [wordB_yes 22 _ rfl h_c4_22, h_c4_22]; kernel_rfl)]
      exact hK1 _ _ _ ⟨rfl, (Gx.Ext.refl w)⟩
    refine Z.s [(4, .bool (s.toList == (Z.B [102, 97, 108, 115, 101]).toList)), (28, .bool (s.toList == (Z.B [102, 97, 108, 115, 101]).toList))] ?_
    refine Z.c (s.toList == (Z.B [102, 97, 108, 115, 101]).toList) (fun h_c4_23 => ?_) (fun h_c4_23 => ?_)
    · skip
      refine wp_skip (Z.x ?_)
      have p_c4 := h_c4; try simp at p_c4
      have p_c4_1 := h_c4_1; try simp at p_c4_1
      have p_c4_2 := h_c4_2; try simp at p_c4_2
      have p_c4_3 := h_c4_3; try simp at p_c4_3
      have p_c4_4 := h_c4_4; try simp at p_c4_4
      have p_c4_5 := h_c4_5; try simp at p_c4_5
      have p_c4_6 := h_c4_6; try simp at p_c4_6
      have p_c4_7 := h_c4_7; try simp at p_c4_7
      have p_c4_8 := h_c4_8; try simp at p_c4_8
      have p_c4_9 := h_c4_9; try simp at p_c4_9
      have p_c4_10 := h_c4_10; try simp at p_c4_10
      have p_c4_11 := h_c4_11; try simp at p_c4_11
      have p_c4_12 := h_c4_12; try simp at p_c4_12
      have p_c4_13 := h_c4_13; try simp at p_c4_13
      have p_c4_14 := h_c4_14; try simp at p_c4_14
      have p_c4_15 := h_c4_15; try simp at p_c4_15
      have p_c4_16 := h_c4_16; try simp at p_c4_16
      have p_c4_17 := h_c4_17; try simp at p_c4_17
      have p_c4_18 := h_c4_18; try simp at p_c4_18
      have p_c4_19 := h_c4_19; try simp at p_c4_19
      have p_c4_20 := h_c4_20; try simp at p_c4_20
      have p_c4_21 := h_c4_21; try simp at p_c4_21
      have p_c4_22 := h_c4_22; try simp at p_c4_22
      have p_c4_23 := h_c4_23; try simp at p_c4_23
      rw [Gx.forget [(4, .bool (wordB s))] (by rw [wordB_yes 23 _ rfl h_c4_23, h_c4_23]; kernel_rfl)]
      exact hK1 _ _ _ ⟨rfl, (Gx.Ext.refl w)⟩
    refine Z.s [(4, .bool (s.toList == (Z.B [105, 110, 116]).toList)), (29, .bool (s.toList == (Z.B [105, 110, 116]).toList))] ?_
    refine Z.c (s.toList == (Z.B [105, 110, 116]).toList) (fun h_c4_24 => ?_) (fun h_c4_24 => ?_)
    · skip
      refine wp_skip (Z.x ?_)
      have p_c4 := h_c4; try simp at p_c4
      have p_c4_1 := h_c4_1; try simp at p_c4_1
      have p_c4_2 := h_c4_2; try simp at p_c4_2
      have p_c4_3 := h_c4_3; try simp at p_c4_3
      have p_c4_4 := h_c4_4; try simp at p_c4_4
      have p_c4_5 := h_c4_5; try simp at p_c4_5
      have p_c4_6 := h_c4_6; try simp at p_c4_6
      have p_c4_7 := h_c4_7; try simp at p_c4_7
      have p_c4_8 := h_c4_8; try simp at p_c4_8
      have p_c4_9 := h_c4_9; try simp at p_c4_9
      have p_c4_10 := h_c4_10; try simp at p_c4_10
      have p_c4_11 := h_c4_11; try simp at p_c4_11
      have p_c4_12 := h_c4_12; try simp at p_c4_12
      have p_c4_13 := h_c4_13; try simp at p_c4_13
      have p_c4_14 := h_c4_14; try simp at p_c4_14
      have p_c4_15 := h_c4_15; try simp at p_c4_15
      have p_c4_16 := h_c4_16; try simp at p_c4_16
      have p_c4_17 := h_c4_17; try simp at p_c4_17
      have p_c4_18 := h_c4_18; try simp at p_c4_18
      have p_c4_19 := h_c4_19; try simp at p_c4_19
      have p_c4_20 := h_c4_20; try simp at p_c4_20
      have p_c4_21 := h_c4_21; try simp at p_c4_21
      have p_c4_22 := h_c4_22; try simp at p_c4_22
      have p_c4_23 := h_c4_23; try simp at p_c4_23
      have p_c4_24 := h_c4_24; try simp at p_c4_24
      rw [Gx.forget [(4, .bool (wordB s))] (by rw [wordB_yes 24 _ rfl h_c4_24, h_c4_24]; kernel_rfl)]
      exact hK1 _ _ _ ⟨rfl, (Gx.Ext.refl w)⟩
    refine Z.s [(4, .bool (s.toList == (Z.B [98, 111, 111, 108]).toList)), (30, .bool (s.toList == (Z.B [98, 111, 111, 108]).toList))] ?_
    refine Z.c (s.toList == (Z.B [98, 111, 111, 108]).toList) (fun h_c4_25 => ?_) (fun h_c4_25 => ?_)
    · skip
      refine wp_skip (Z.x ?_)
      have p_c4 := h_c4; try simp at p_c4
      have p_c4_1 := h_c4_1; try simp at p_c4_1
      have p_c4_2 := h_c4_2; try simp at p_c4_2
      have p_c4_3 := h_c4_3; try simp at p_c4_3
      have p_c4_4 := h_c4_4; try simp at p_c4_4
      have p_c4_5 := h_c4_5; try simp at p_c4_5
      have p_c4_6 := h_c4_6; try simp at p_c4_6
      have p_c4_7 := h_c4_7; try simp at p_c4_7
      have p_c4_8 := h_c4_8; try simp at p_c4_8
      have p_c4_9 := h_c4_9; try simp at p_c4_9
      have p_c4_10 := h_c4_10; try simp at p_c4_10
      have p_c4_11 := h_c4_11; try simp at p_c4_11
      have p_c4_12 := h_c4_12; try simp at p_c4_12
      have p_c4_13 := h_c4_13; try simp at p_c4_13
      have p_c4_14 := h_c4_14; try simp at p_c4_14
      have p_c4_15 := h_c4_15; try simp at p_c4_15
      have p_c4_16 := h_c4_16; try simp at p_c4_16
      have p_c4_17 := h_c4_17; try simp at p_c4_17
      have p_c4_18 := h_c4_18; try simp at p_c4_18
      have p_c4_19 := h_c4_19; try simp at p_c4_19
      have p_c4_20 := h_c4_20; try simp at p_c4_20
      have p_c4_21 := h_c4_21; try simp at p_c4_21
      have p_c4_22 := h_c4_22; try simp at p_c4_22
      have p_c4_23 := h_c4_23; try simp at p_c4_23
      have p_c4_24 := h_c4_24; try simp at p_c4_24
      have p_c4_25 := h_c4_25; try simp at p_c4_25
      rw [Gx.forget [(4, .bool (wordB s))] (by rw [wordB_yes 25 _ rfl h_c4_25, h_c4_25]; kernel_rfl)]
      exact hK1 _ _ _ ⟨rfl, (Gx.Ext.refl w)⟩
    refine Z.s [(4, .bool (s.toList == (Z.B [117, 110, 105, 116]).toList)), (31, .bool (s.toList == (Z.B [117, 110, 105, 116]).toList))] ?_
    refine Z.c (s.toList == (Z.B [117, 110, 105, 116]).toList) (fun h_c4_26 => ?_) (fun h_c4_26 => ?_)
    · skip
      refine wp_skip (Z.x ?_)
      have p_c4 := h_c4; try simp at p_c4
      have p_c4_1 := h_c4_1; try simp at p_c4_1
      have p_c4_2 := h_c4_2; try simp at p_c4_2
      have p_c4_3 := h_c4_3; try simp at p_c4_3
      have p_c4_4 := h_c4_4; try simp at p_c4_4
      have p_c4_5 := h_c4_5; try simp at p_c4_5
      have p_c4_6 := h_c4_6; try simp at p_c4_6
      have p_c4_7 := h_c4_7; try simp at p_c4_7
      have p_c4_8 := h_c4_8; try simp at p_c4_8
      have p_c4_9 := h_c4_9; try simp at p_c4_9
      have p_c4_10 := h_c4_10; try simp at p_c4_10
      have p_c4_11 := h_c4_11; try simp at p_c4_11
      have p_c4_12 := h_c4_12; try simp at p_c4_12
      have p_c4_13 := h_c4_13; try simp at p_c4_13
      have p_c4_14 := h_c4_14; try simp at p_c4_14
      have p_c4_15 := h_c4_15; try simp at p_c4_15
      have p_c4_16 := h_c4_16; try simp at p_c4_16
      have p_c4_17 := h_c4_17; try simp at p_c4_17
      have p_c4_18 := h_c4_18; try simp at p_c4_18
      have p_c4_19 := h_c4_19; try simp at p_c4_19
      have p_c4_20 := h_c4_20; try simp at p_c4_20
      have p_c4_21 := h_c4_21; try simp at p_c4_21
      have p_c4_22 := h_c4_22; try simp at p_c4_22
      have p_c4_23 := h_c4_23; try simp at p_c4_23
      have p_c4_24 := h_c4_24; try simp at p_c4_24
      have p_c4_25 := h_c4_25; try simp at p_c4_25
      have p_c4_26 := h_c4_26; try simp at p_c4_26
      rw [Gx.forget [(4, .bool (wordB s))] (by rw [wordB_yes 26 _ rfl h_c4_26, h_c4_26]; kernel_rfl)]
      exact hK1 _ _ _ ⟨rfl, (Gx.Ext.refl w)⟩
    refine Z.u [(4, .bool (s.toList == (Z.B [108, 105, 115, 116]).toList)), (32, .bool (s.toList == (Z.B [108, 105, 115, 116]).toList))] ?_
    refine Z.x ?_
    have p_c4 := h_c4; try simp at p_c4
    have p_c4_1 := h_c4_1; try simp at p_c4_1
    have p_c4_2 := h_c4_2; try simp at p_c4_2
    have p_c4_3 := h_c4_3; try simp at p_c4_3
    have p_c4_4 := h_c4_4; try simp at p_c4_4
    have p_c4_5 := h_c4_5; try simp at p_c4_5
    have p_c4_6 := h_c4_6; try simp at p_c4_6
    have p_c4_7 := h_c4_7; try simp at p_c4_7
    have p_c4_8 := h_c4_8; try simp at p_c4_8
    have p_c4_9 := h_c4_9; try simp at p_c4_9
    have p_c4_10 := h_c4_10; try simp at p_c4_10
    have p_c4_11 := h_c4_11; try simp at p_c4_11
    have p_c4_12 := h_c4_12; try simp at p_c4_12
    have p_c4_13 := h_c4_13; try simp at p_c4_13
    have p_c4_14 := h_c4_14; try simp at p_c4_14
    have p_c4_15 := h_c4_15; try simp at p_c4_15
    have p_c4_16 := h_c4_16; try simp at p_c4_16
    have p_c4_17 := h_c4_17; try simp at p_c4_17
    have p_c4_18 := h_c4_18; try simp at p_c4_18
    have p_c4_19 := h_c4_19; try simp at p_c4_19
    have p_c4_20 := h_c4_20; try simp at p_c4_20
    have p_c4_21 := h_c4_21; try simp at p_c4_21
    have p_c4_22 := h_c4_22; try simp at p_c4_22
    have p_c4_23 := h_c4_23; try simp at p_c4_23
    have p_c4_24 := h_c4_24; try simp at p_c4_24
    have p_c4_25 := h_c4_25; try simp at p_c4_25
    have p_c4_26 := h_c4_26; try simp at p_c4_26
    rw [Gx.forget [(4, .bool (wordB s))] (by rw [show wordB s = _ from wordB_no h_c4 h_c4_1 h_c4_2 h_c4_3 h_c4_4 h_c4_5 h_c4_6 h_c4_7 h_c4_8 h_c4_9 h_c4_10 h_c4_11 h_c4_12 h_c4_13 h_c4_14 h_c4_15 h_c4_16 h_c4_17 h_c4_18 h_c4_19 h_c4_20 h_c4_21 h_c4_22 h_c4_23 h_c4_24 h_c4_25 h_c4_26 _ rfl]; kernel_rfl)]
    exact hK1 _ _ _ ⟨rfl, (Gx.Ext.refl w)⟩
  obtain ⟨rfl, x1⟩ := hI1
  have zw1 := x1.size
  refine Z.c (wordB s) (fun h_c4 => ?_) (fun h_c4 => ?_)
  · skip
    refine Z.s [(2, .bool true)] ?_
    refine wp_ret (Gx.block_ret (Gx.then_ret (Z.v (.bool true) ?_)))
    have p_c4 := h_c4; try simp at p_c4
    exact Gx.ret_as (v' := .bool (wordB s)) (by rw [h_c4]) (hK _ ((Gx.Ext.refl w).trans x1))
  refine wp_skip (Gx.block_normal (Z.x (Z.s [(2, .bool false)] ?_)))
  refine wp_ret (Z.v (.bool false) ?_)
  have p_c4 := h_c4; try simp at p_c4
  exact Gx.ret_as (v' := .bool (wordB s)) (by rw [h_c4]) (hK _ ((Gx.Ext.refl w).trans x1))
set_option maxHeartbeats 400000 in
set_option maxRecDepth 10000 in
theorem words_c  (w : World) (K : Ending → World → Prop)  (hK : ∀ w', Gx.Ext w w' → ∀ bk, w.heap.size ≤ bk → Gx.Has w' bk (.cells (Gx.strA wordsL) 9) → K (.returned (.slice (some ⟨bk, 0, none⟩) 28 28)) w') :
    Calls Try.prog 55 #[] w K := by
  refine Gx.enter 2 Try.func55 rfl rfl (Nat.le_of_ble_eq_true rfl) ?_
  refine Z.s [(0, .slice none 0 0)] ?_
  refine Z.r [0, 1] ?_
  refine Z.R (.cells #[.string (Z.B [111, 112]), .string (Z.B [111, 110, 99, 101]), .string (Z.B [109, 97, 110, 121]), .string (Z.B [100, 101, 102]), .string (Z.B [114, 101, 99]), .string (Z.B [109, 97, 105, 110]), .string (Z.B [108, 101, 116]), .string (Z.B [105, 110]), .string (Z.B [102, 110]), .string (Z.B [105, 102]), .string (Z.B [116, 104, 101, 110]), .string (Z.B [101, 108, 115, 101]), .string (Z.B [99, 97, 115, 101]), .string (Z.B [111, 102]), .string (Z.B [101, 110, 100]), .string (Z.B [100, 111]), .string (Z.B [102, 115, 116]), .string (Z.B [115, 110, 100]), .string (Z.B [104, 97, 110, 100, 108, 101]), .string (Z.B [115, 104, 97, 108, 108, 111, 119]), .string (Z.B [119, 105, 116, 104]), .string (Z.B [114, 101, 116, 117, 114, 110]), .string (Z.B [116, 114, 117, 101]), .string (Z.B [102, 97, 108, 115, 101]), .string (Z.B [105, 110, 116]), .string (Z.B [98, 111, 111, 108]), .string (Z.B [117, 110, 105, 116]), .string (Z.B [108, 105, 115, 116])] 9) 28 28 (fun k1 w1 l1 x1 b1 zw1 tb1 => ?_)
  refine Z.p [1] [] [(0, .slice (some ⟨k1, 0, none⟩) 28 28)] ?_
  refine Z.e (wp_ret (Z.v (.slice (some ⟨k1, 0, none⟩) 28 28) ?_))
  exact hK _ ((Gx.Ext.refl w).trans x1) _ (by omega) (show Gx.Has _ _ (.cells (Gx.strA wordsL) 9) from b1)
set_option maxHeartbeats 400000 in
set_option maxRecDepth 10000 in
theorem signs_c  (w : World) (K : Ending → World → Prop)  (hK : ∀ w', Gx.Ext w w' → ∀ bk, w.heap.size ≤ bk → Gx.Has w' bk (.cells (Gx.strA signsL) 9) → K (.returned (.slice (some ⟨bk, 0, none⟩) 20 20)) w') :
    Calls Try.prog 46 #[] w K := by
  refine Gx.enter 2 Try.func46 rfl rfl (Nat.le_of_ble_eq_true rfl) ?_
  refine Z.s [(0, .slice none 0 0)] ?_
  refine Z.r [0, 1] ?_
  refine Z.R (.cells #[.string (Z.B [58, 58]), .string (Z.B [61, 61]), .string (Z.B [61, 62]), .string (Z.B [45, 62]), .string (Z.B [40]), .string (Z.B [41]), .string (Z.B [91]), .string (Z.B [93]), .string (Z.B [123]), .string (Z.B [125]), .string (Z.B [44]), .string (Z.B [59]), .string (Z.B [58]), .string (Z.B [61]), .string (Z.B [45]), .string (Z.B [43]), .string (Z.B [42]), .string (Z.B [60]), .string (Z.B [124]), .string (Z.B [126])] 9) 20 20 (fun k1 w1 l1 x1 b1 zw1 tb1 => ?_)
  refine Z.p [1] [] [(0, .slice (some ⟨k1, 0, none⟩) 20 20)] ?_
  refine Z.e (wp_ret (Z.v (.slice (some ⟨k1, 0, none⟩) 20 20) ?_))
  exact hK _ ((Gx.Ext.refl w).trans x1) _ (by omega) (show Gx.Has _ _ (.cells (Gx.strA signsL) 9) from b1)
set_option maxHeartbeats 400000 in
set_option maxRecDepth 10000 in
theorem IsWord_c (s : ByteArray) (w : World) (K : Ending → World → Prop)  (hK : ∀ w', Gx.Ext w w' → K (.returned (.bool (wordB s))) w') :
    Calls Try.prog 45 #[.string s] w K := by
  refine Gx.enter 18 Try.func45 rfl rfl (Nat.le_of_ble_eq_true rfl) ?_
  refine Z.s [(2, .bool false)] ?_
  refine Z.r [0, 1] ?_
  refine Z.k (fun R hR => words_c  _ R  (fun w1 x1 k1 l1 b1 => hR _ _ ?_))
  have zw1 := x1.size
  have tb1 := b1.lt
  refine Z.p [1] [] [(3, .slice (some ⟨k1, 0, none⟩) 28 28)] ?_
  refine Z.e (wp_seq (Z.s [(4, .int .i64 0)] ?_))
  refine wp_block (Gx.loop (n' := 18) (d' := []) (fun mz l' w' => ∃ (k : Nat), l' = [(0, .string s), (3, .slice (some ⟨k1, 0, none⟩) 28 28), (4, Z.n k)] ∧ mz = 28 - k ∧ Gx.Ext w w' ∧ Gx.Has w' k1 (.cells (Gx.strA wordsL) 9) ∧ (k ≤ 28) ∧ (∀ j, j < k → ((Gx.gs wordsL j).toList == s.toList) = false)) _ _ [(0, .string s), (3, .slice (some ⟨k1, 0, none⟩) 28 28), (4, Z.n 0)] (Gx.forget [(0, .string s), (3, .slice (some ⟨k1, 0, none⟩) 28 28), (4, Z.n 0)] (by kernel_rfl)) ⟨0, rfl, rfl, ((Gx.Ext.refl w).trans x1), b1, (by omega), (by intro j hj; omega)⟩ (fun bb1 m1 ll1 w2 hI1 K1 hK1 => ?_))
  obtain ⟨k, rfl, rfl, x2, b2, hk, hn⟩ := hI1
  have zw2 := x2.size
  have tb2 := b2.lt
  refine wp_seq (Z.s [(9, .bool (decide (((k : Nat) : Int) < (28 : Int)))), (8, .int .i64 28), (7, .slice (some ⟨k1, 0, none⟩) 28 28), (6, Z.n k)] ?_)
  refine Z.c (decide (((k : Nat) : Int) < (28 : Int))) (fun h_c9 => ?_) (fun h_c9 => ?_)
  · skip
    refine wp_skip (Z.x (wp_seq (wp_block (Z.r [0, 1, 2, 3, 4, 5] ?_))))
    refine Z.p [0, 1] [2, 3, 4, 5] [(13, Z.n k), (12, .slice (some ⟨k1, 0, none⟩) 28 28)] ?_
    have p_c9 := h_c9; try simp at p_c9
    refine Gx.cons (Gx.op_indexAddr (bk := k1) rfl (by kernel_rfl) rfl 9 1 (by kernel_rfl) (by kernel_rfl) 0 28 28 (by kernel_rfl) .i64 k (by kernel_rfl) (by omega) ?_)
    refine Gx.cons (Gx.op_load rfl (by kernel_rfl) rfl (0 + k * 1) (.string (Gx.gs wordsL k)) (by kernel_rfl) b2 (Gx.loadB_strA (by kernel_rfl) (show k < 28 by omega)) ?_)
    refine Z.p [4, 5] [] [(17, .bool ((Gx.gs wordsL k).toList == s.toList)), (16, .string s)] ?_
    refine Z.e (Z.c ((Gx.gs wordsL k).toList == s.toList) (fun h_c17 => ?_) (fun h_c17 => ?_))
    · skip
      refine Z.s [(2, .bool true)] ?_
      refine wp_ret (Gx.block_ret (Gx.then_ret (Gx.then_ret (Gx.block_ret (Gx.then_ret (Z.v (.bool true) ?_))))))
      have p_c17 := h_c17; try simp at p_c17
      exact Gx.ret_as (v' := .bool (wordB s)) (by rw [wordB_at (by omega) h_c17]) (hK _ ((Gx.Ext.refl w).trans x2))
    refine wp_skip (Gx.block_normal (Z.x (Z.g [0, 1, 2] ?_)))
    refine Z.p [0] [1, 2] [(10, Z.n k)] ?_
    have p_c17 := h_c17; try simp at p_c17
    refine Gx.pure_eq [1] [2] [(11, .int .i64 (IntKind.i64.wrap (((k : Nat) : Int) + (1 : Int))))] [(11, .int .i64 ((k + 1 : Nat) : Int))] rfl (by kernel_rfl) (Gx.eqI (Gx.i64n (by omega) (by omega))) ?_
    refine Z.p [2] [] [(4, .int .i64 ((k + 1 : Nat) : Int))] ?_
    refine Gx.ops_nil (Z.x ?_)
    rw [Gx.forget [(0, .string s), (3, .slice (some ⟨k1, 0, none⟩) 28 28), (4, .int .i64 ((k + 1 : Nat) : Int))] (by kernel_rfl)]
    exact hK1 _ _ _ _ (by omega) ⟨k + 1, rfl, rfl, ((Gx.Ext.refl w).trans x2), b2, (by omega), (fun j hj => by rcases Nat.lt_or_ge j k with h | h; exact hn j h; (obtain rfl : j = k := by omega); exact h_c17)⟩
  refine wp_exit (Gx.then_exit (Gx.then_exit (Gx.block_exit (Z.x (Z.s [(2, .bool false)] ?_)))))
  refine wp_ret (Z.v (.bool false) ?_)
  have p_c9 := h_c9; try simp at p_c9
  exact Gx.ret_as (v' := .bool (wordB s)) (by rw [wordB_none (fun j hj => hn j (by omega))]) (hK _ ((Gx.Ext.refl w).trans x2))
set_option maxHeartbeats 400000 in
set_option maxRecDepth 10000 in
theorem pass_c (s : ByteArray) (i : Nat) (w : World) (K : Ending → World → Prop) (hs : s.size ≤ 3000) (hi : i ≤ s.size) (hK : ∀ w', Gx.Ext w w' → K (.returned (.int .i64 ((pass s i : Nat) : Int))) w') :
    Calls Try.prog 41 #[.string s, Z.n i] w K := by
  refine Gx.enter 33 Try.func41 rfl rfl (Nat.le_of_ble_eq_true rfl) ?_
  refine Z.s [(4, .int .i64 0)] ?_
  refine wp_seq (wp_block (Gx.loop (n' := 33) (d' := []) (fun mz l' w' => ∃ (k : Nat), l' = [(0, .string s), (1, Z.n k)] ∧ mz = s.size - k ∧ Gx.Ext w w' ∧ (k ≤ s.size) ∧ (pass s k = pass s i)) _ _ [(0, .string s), (1, Z.n i)] (Gx.forget [(0, .string s), (1, Z.n i)] (by kernel_rfl)) ⟨i, rfl, rfl, (Gx.Ext.refl w), hi, rfl⟩ (fun bb1 m1 ll1 w1 hI1 K1 hK1 => ?_)))
  obtain ⟨k, rfl, rfl, x1, hk, hp⟩ := hI1
  have zw1 := x1.size
  refine wp_seq (Z.s [(8, .bool (decide (((k : Nat) : Int) < ((s.size : Nat) : Int)))), (7, Z.n s.size), (6, .string s), (5, Z.n k)] ?_)
  refine Z.c (decide (((k : Nat) : Int) < ((s.size : Nat) : Int))) (fun h_c8 => ?_) (fun h_c8 => ?_)
  · skip
    refine wp_skip (Z.x (wp_block (wp_seq (Z.r [0, 1, 2, 3] ?_))))
    refine Z.p [0, 1] [2, 3] [(10, Z.n k), (9, .string s)] ?_
    have p_c8 := h_c8; try simp at p_c8
    refine Gx.cons (Gx.op_index_str rfl (by kernel_rfl) rfl (by kernel_rfl) s .i64 k (by kernel_rfl) (by kernel_rfl) (by omega) ?_)
    refine Z.k (fun R hR => blank_c (Gx.byteAt s k) _ R  (hR _ _ ?_))
    refine Z.e (Z.c (blankB (Gx.byteAt s k)) (fun h_c12 => ?_) (fun h_c12 => ?_))
    · skip
      refine Z.r [0, 1, 2] ?_
      refine Z.p [0] [1, 2] [(13, Z.n k)] ?_
      have p_c12 := h_c12; try simp at p_c12
      refine Gx.pure_eq [1] [2] [(14, .int .i64 (IntKind.i64.wrap (((k : Nat) : Int) + (1 : Int))))] [(14, .int .i64 ((k + 1 : Nat) : Int))] rfl (by kernel_rfl) (Gx.eqI (Gx.i64n (by omega) (by omega))) ?_
      refine Z.p [2] [] [(1, .int .i64 ((k + 1 : Nat) : Int))] ?_
      refine Z.e (wp_exit (Gx.then_exit (Gx.block_exit (Z.x ?_))))
      rw [Gx.forget [(0, .string s), (1, .int .i64 ((k + 1 : Nat) : Int))] (by kernel_rfl)]
      exact hK1 _ _ _ _ (by omega) ⟨k + 1, rfl, rfl, ((Gx.Ext.refl w).trans x1), (by omega), (by rw [← hp, pass_blank (s := s) (k := k) (by omega) h_c12])⟩
    refine wp_skip (Z.x (wp_seq (Z.r [0, 1, 2, 3] ?_)))
    refine Z.p [0, 1] [2, 3] [(16, Z.n k), (15, .string s)] ?_
    have p_c12 := h_c12; try simp at p_c12
    refine Gx.cons (Gx.op_index_str rfl (by kernel_rfl) rfl (by kernel_rfl) s .i64 k (by kernel_rfl) (by kernel_rfl) (by omega) ?_)
    refine Z.p [3] [] [(18, .bool (((Gx.byteAt s k).toNat : Int) != (35 : Int)))] ?_
    refine Z.e (Z.c (((Gx.byteAt s k).toNat : Int) != (35 : Int)) (fun h_c18 => ?_) (fun h_c18 => ?_))
    · skip
      refine Z.s [(4, Z.n k), (19, Z.n k)] ?_
      refine wp_ret (Gx.then_ret (Gx.block_ret (Gx.then_ret (Gx.block_ret (Gx.then_ret (Z.v (Z.n k) ?_))))))
      have p_c18 := h_c18; try simp at p_c18
      exact Gx.ret_as (v' := .int .i64 ((pass s i : Nat) : Int)) (by rw [← hp, pass_here (s := s) (k := k) (by omega) (by rw [h_c12]; simp) (by omega)]) (hK _ ((Gx.Ext.refl w).trans x1))
    refine wp_skip (Z.x (wp_block ?_))
    have p_c18 := h_c18; try simp at p_c18
    refine Gx.loop (n' := 33) (d' := []) (fun mz l' w' => ∃ (j : Nat), l' = [(0, .string s), (1, Z.n j)] ∧ mz = s.size - j ∧ Gx.Ext w w' ∧ (k ≤ j ∧ j ≤ s.size) ∧ (stop notNl s j = stop notNl s k)) _ _ [(0, .string s), (1, Z.n k)] (Gx.forget [(0, .string s), (1, Z.n k)] (by kernel_rfl)) ⟨k, rfl, rfl, ((Gx.Ext.refl w).trans x1), (by omega), rfl⟩ (fun bb2 m2 ll2 w2 hI2 K2 hK2 => ?_)
    obtain ⟨j, rfl, rfl, x2, hj, hst⟩ := hI2
    have zw2 := x2.size
    refine wp_seq (Gx.cut (d' := []) (n' := 33) (fun l' w' => l' = [(0, .string s), (1, Z.n j), (29, .bool ((decide (((j : Nat) : Int) < ((s.size : Nat) : Int))) && (((Gx.byteAt s j).toNat : Int) != (10 : Int))))] ∧ w2 = w') (fun K3 hK3 => ?_) (fun bb3 ll3 w3 hI3 => ?_))
    · refine Z.g [0, 1, 2, 3, 4, 5, 6, 7, 8, 9] ?_
      refine Z.p [0, 1, 2, 3, 4] [5, 6, 7, 8, 9] [(24, .bool (decide (((j : Nat) : Int) < ((s.size : Nat) : Int)))), (23, .bool (decide (((j : Nat) : Int) < ((s.size : Nat) : Int)))), (22, Z.n s.size), (21, .string s), (20, Z.n j)] ?_
      refine Gx.split (decide (((j : Nat) : Int) < ((s.size : Nat) : Int))) (fun h_g24 => ?_) (fun h_g24 => ?_)
      · rw [h_g24]
        refine Z.p [5, 6] [7, 8, 9] [(26, Z.n j), (25, .string s)] ?_
        have p_g24 := h_g24; try simp at p_g24
        refine Gx.cons (Gx.op_index_str rfl (by kernel_rfl) rfl (by kernel_rfl) s .i64 j (by kernel_rfl) (by kernel_rfl) (by omega) ?_)
        refine Z.p [8, 9] [] [(29, .bool (((Gx.byteAt s j).toNat : Int) != (10 : Int))), (28, .bool (((Gx.byteAt s j).toNat : Int) != (10 : Int)))] ?_
        refine Z.e ?_
        rw [Gx.forget [(0, .string s), (1, Z.n j), (29, .bool ((decide (((j : Nat) : Int) < ((s.size : Nat) : Int))) && (((Gx.byteAt s j).toNat : Int) != (10 : Int))))] (by rw [h_g24]; try kernel_rfl)]
        exact hK3 _ _ _ ⟨rfl, rfl⟩
      rw [h_g24]
      refine Z.p [5, 6, 7, 8, 9] [] [(29, .bool false), (28, undef), (27, undef), (26, undef), (25, undef)] ?_
      refine Z.e ?_
      rw [Gx.forget [(0, .string s), (1, Z.n j), (29, .bool ((decide (((j : Nat) : Int) < ((s.size : Nat) : Int))) && (((Gx.byteAt s j).toNat : Int) != (10 : Int))))] (by rw [h_g24]; try kernel_rfl)]
      exact hK3 _ _ _ ⟨rfl, rfl⟩
    obtain ⟨rfl, rfl⟩ := hI3
    refine Z.c ((decide (((j : Nat) : Int) < ((s.size : Nat) : Int))) && (((Gx.byteAt s j).toNat : Int) != (10 : Int))) (fun h_c29 => ?_) (fun h_c29 => ?_)
    · skip
      refine wp_skip (Z.x (wp_block (Z.g [0, 1, 2] ?_)))
      refine Z.p [0] [1, 2] [(30, Z.n j)] ?_
      have p_c29 := h_c29; try simp at p_c29
      refine Gx.pure_eq [1] [2] [(31, .int .i64 (IntKind.i64.wrap (((j : Nat) : Int) + (1 : Int))))] [(31, .int .i64 ((j + 1 : Nat) : Int))] rfl (by kernel_rfl) (Gx.eqI (Gx.i64n (by omega) (by omega))) ?_
      refine Z.p [2] [] [(1, .int .i64 ((j + 1 : Nat) : Int))] ?_
      refine Gx.ops_nil (Gx.block_normal (Z.x ?_))
      rw [Gx.forget [(0, .string s), (1, .int .i64 ((j + 1 : Nat) : Int))] (by kernel_rfl)]
      exact hK2 _ _ _ _ (by omega) ⟨j + 1, rfl, rfl, ((Gx.Ext.refl w).trans x2), (by omega), (by rw [← hst, stop_go (p := notNl) (s := s) (k := j) (by omega) (by unfold notNl; simp; omega)])⟩
    refine wp_exit (Gx.then_exit (Gx.then_exit (Gx.block_exit (Gx.block_normal (Z.x ?_)))))
    have p_c29 := h_c29; try simp at p_c29
    rw [Gx.forget [(0, .string s), (1, Z.n j)] (by kernel_rfl)]
    exact hK1 _ _ _ _ (by have h1 := le_stop notNl s (k + 1); rw [← stop_go (p := notNl) (s := s) (k := k) (by omega) (by unfold notNl; simp; omega), ← hst, stop_at (p := notNl) (s := s) (k := j) (by simpa [notNl] using h_c29)] at h1; omega) ⟨j, rfl, rfl, ((Gx.Ext.refl w).trans x2), (by omega), (by rw [← hp, pass_remark (s := s) (k := k) (by omega) (by omega), ← stop_go (p := notNl) (s := s) (k := k) (by omega) (by unfold notNl; simp; omega), ← hst, stop_at (p := notNl) (s := s) (k := j) (by simpa [notNl] using h_c29)])⟩
  refine wp_exit (Gx.then_exit (Gx.then_exit (Gx.block_exit (Z.x (Z.s [(4, Z.n k), (32, Z.n k)] ?_)))))
  refine wp_ret (Z.v (Z.n k) ?_)
  have p_c8 := h_c8; try simp at p_c8
  exact Gx.ret_as (v' := .int .i64 ((pass s i : Nat) : Int)) (by rw [← hp, pass_end (s := s) (k := k) (by omega)]) (hK _ ((Gx.Ext.refl w).trans x1))
set_option maxHeartbeats 400000 in
set_option maxRecDepth 10000 in
theorem number_c (s : ByteArray) (w : World) (K : Ending → World → Prop) (hs : s.size ≤ 3000) (hd : ∀ m, m < s.size → digitB (Gx.byteAt s m) = true) (hK : ∀ w', Gx.Ext w w' → K (.returned (.tuple #[.int .i64 (((bif numOk s 0 s.size then dval s 0 s.size else 0) : Nat) : Int), .bool (numOk s 0 s.size)])) w') :
    Calls Try.prog 43 #[.string s] w K := by
  refine Gx.enter 36 Try.func43 rfl rfl (Nat.le_of_ble_eq_true rfl) ?_
  refine Z.s [(3, .bool false), (2, .int .i64 0)] ?_
  refine wp_seq (Gx.cut (d' := []) (n' := 36) (fun l' w' => l' = [(0, .string s), (14, .bool ((decide (((s.size : Nat) : Int) > (1 : Int))) && (((Gx.byteAt s 0).toNat : Int) == (48 : Int))))] ∧ w = w') (fun K1 hK1 => ?_) (fun bb1 ll1 w1 hI1 => ?_))
  · refine Z.g [0, 1, 2, 3, 4, 5, 6, 7] ?_
    refine Z.p [0, 1, 2, 3] [4, 5, 6, 7] [(10, .bool (decide (((s.size : Nat) : Int) > (1 : Int)))), (9, .bool (decide (((s.size : Nat) : Int) > (1 : Int)))), (8, Z.n s.size), (7, .string s)] ?_
    refine Gx.split (decide (((s.size : Nat) : Int) > (1 : Int))) (fun h_g10 => ?_) (fun h_g10 => ?_)
    · rw [h_g10]
      refine Z.p [4] [5, 6, 7] [(11, .string s)] ?_
      have p_g10 := h_g10; try simp at p_g10
      refine Gx.cons (Gx.op_index_str rfl (by kernel_rfl) rfl (by kernel_rfl) s .i64 0 (by kernel_rfl) (by kernel_rfl) (by omega) ?_)
      refine Z.p [6, 7] [] [(14, .bool (((Gx.byteAt s 0).toNat : Int) == (48 : Int))), (13, .bool (((Gx.byteAt s 0).toNat : Int) == (48 : Int)))] ?_
      refine Z.e ?_
      rw [Gx.forget [(0, .string s), (14, .bool ((decide (((s.size : Nat) : Int) > (1 : Int))) && (((Gx.byteAt s 0).toNat : Int) == (48 : Int))))] (by rw [h_g10]; try kernel_rfl)]
      exact hK1 _ _ _ ⟨rfl, rfl⟩
    rw [h_g10]
    refine Z.p [4, 5, 6, 7] [] [(14, .bool false), (13, undef), (12, undef), (11, undef)] ?_
    refine Z.e ?_
    rw [Gx.forget [(0, .string s), (14, .bool ((decide (((s.size : Nat) : Int) > (1 : Int))) && (((Gx.byteAt s 0).toNat : Int) == (48 : Int))))] (by rw [h_g10]; try kernel_rfl)]
    exact hK1 _ _ _ ⟨rfl, rfl⟩
  obtain ⟨rfl, rfl⟩ := hI1
  refine Z.c ((decide (((s.size : Nat) : Int) > (1 : Int))) && (((Gx.byteAt s 0).toNat : Int) == (48 : Int))) (fun h_c14 => ?_) (fun h_c14 => ?_)
  · skip
    refine Z.s [(3, .bool false), (2, .int .i64 0)] ?_
    refine wp_ret (Gx.then_ret (Gx.ret (Gx.res2 (v := .int .i64 0) (u := .bool false) rfl (by kernel_rfl) (by kernel_rfl)) ?_))
    have p_c14 := h_c14; try simp at p_c14
    exact Gx.ret_as (v' := .tuple #[.int .i64 (((bif numOk s 0 s.size then dval s 0 s.size else 0) : Nat) : Int), .bool (numOk s 0 s.size)]) (by rw [numOk_zero (s := s) (j := 0) (e := s.size) (by omega) (by omega)]; rfl) (hK _ (Gx.Ext.refl w))
  refine wp_skip (Z.x (Z.s [(4, .int .i64 0)] ?_))
  refine wp_seq (Z.s [(5, .int .i64 0)] ?_)
  refine wp_block ?_
  have p_c14 := h_c14; try simp at p_c14
  refine Gx.loop (n' := 36) (d' := []) (fun mz l' w' => ∃ (k : Nat) (v : Nat), l' = [(0, .string s), (4, Z.n v), (5, Z.n k)] ∧ mz = s.size - k ∧ Gx.Ext w w' ∧ (k ≤ s.size) ∧ (v = dval s 0 k) ∧ (v ≤ 9223372036854775807)) _ _ [(0, .string s), (4, Z.n 0), (5, Z.n 0)] (Gx.forget [(0, .string s), (4, Z.n 0), (5, Z.n 0)] (by kernel_rfl)) ⟨0, 0, rfl, rfl, (Gx.Ext.refl w), (by omega), rfl, (by omega)⟩ (fun bb2 m1 ll2 w2 hI2 K2 hK2 => ?_)
  obtain ⟨k, v, rfl, rfl, x1, hk, hv, hm⟩ := hI2
  have zw2 := x1.size
  refine wp_seq (Z.s [(18, .bool (decide (((k : Nat) : Int) < ((s.size : Nat) : Int)))), (17, Z.n s.size), (16, .string s), (15, Z.n k)] ?_)
  refine Z.c (decide (((k : Nat) : Int) < ((s.size : Nat) : Int))) (fun h_c18 => ?_) (fun h_c18 => ?_)
  · skip
    refine wp_skip (Z.x (wp_seq (wp_block ?_)))
    have p_c18 := h_c18; try simp at p_c18
    have hd' := (digit_iff _).1 (hd k (by omega))
    refine Z.r [0, 1, 2, 3, 4, 5] ?_
    refine Z.p [0, 1] [2, 3, 4, 5] [(22, Z.n k), (21, .string s)] ?_
    refine Gx.cons (Gx.op_index_str rfl (by kernel_rfl) rfl (by kernel_rfl) s .i64 k (by kernel_rfl) (by kernel_rfl) (by omega) ?_)
    refine Gx.pure_eq [3] [4, 5] [(24, .int .u8 (IntKind.u8.wrap (((Gx.byteAt s k).toNat : Int) - (48 : Int))))] [(24, .int .u8 (((Gx.byteAt s k).toNat - 48 : Nat) : Int))] rfl (by kernel_rfl) (Gx.eqI ((by rw [IntWalk.u8_in _ (by omega)]; omega))) ?_
    refine Gx.pure_eq [4] [5] [(25, .int .i64 (IntKind.i64.wrap (((Gx.byteAt s k).toNat - 48 : Nat) : Int)))] [(25, .int .i64 (((Gx.byteAt s k).toNat - 48 : Nat) : Int))] rfl (by kernel_rfl) (Gx.eqI (IntWalk.i64_in _ (by omega))) ?_
    refine Z.p [5] [] [(6, .int .i64 (((Gx.byteAt s k).toNat - 48 : Nat) : Int))] ?_
    refine Z.e (wp_seq (Z.r [0, 1, 2, 3, 4] ?_))
    refine Z.p [0, 1] [2, 3, 4] [(27, .int .i64 (((Gx.byteAt s k).toNat - 48 : Nat) : Int)), (26, Z.n v)] ?_
    refine Gx.pure_eq [2] [3, 4] [(28, .int .i64 (IntKind.i64.wrap ((9223372036854775807 : Int) - (((Gx.byteAt s k).toNat - 48 : Nat) : Int))))] [(28, .int .i64 ((9223372036854775807 : Int) - (((Gx.byteAt s k).toNat - 48 : Nat) : Int)))] rfl (by kernel_rfl) (Gx.eqI (IntWalk.i64_in _ (by omega))) ?_
    refine Gx.pure_eq [3] [4] [(29, .int .i64 (IntKind.i64.wrap (Int.tdiv ((9223372036854775807 : Int) - (((Gx.byteAt s k).toNat - 48 : Nat) : Int)) (10 : Int))))] [(29, .int .i64 (((9223372036854775807 : Int) - (((Gx.byteAt s k).toNat - 48 : Nat) : Int)) / (10 : Int)))] rfl (by kernel_rfl) (Gx.eqI (IntWalk.i64_quo _ _ (by omega))) ?_
    refine Z.p [4] [] [(30, .bool (decide (((v : Nat) : Int) > (((9223372036854775807 : Int) - (((Gx.byteAt s k).toNat - 48 : Nat) : Int)) / (10 : Int)))))] ?_
    refine Z.e (Z.c (decide (((v : Nat) : Int) > (((9223372036854775807 : Int) - (((Gx.byteAt s k).toNat - 48 : Nat) : Int)) / (10 : Int)))) (fun h_c30 => ?_) (fun h_c30 => ?_))
    · skip
      refine Z.s [(3, .bool false), (2, .int .i64 0)] ?_
      refine wp_ret (Gx.then_ret (Gx.block_ret (Gx.then_ret (Gx.then_ret (Gx.block_ret (Gx.then_ret (Gx.ret (Gx.res2 (v := .int .i64 0) (u := .bool false) rfl (by kernel_rfl) (by kernel_rfl)) ?_)))))))
      have p_c30 := h_c30; try simp at p_c30
      exact Gx.ret_as (v' := .tuple #[.int .i64 (((bif numOk s 0 s.size then dval s 0 s.size else 0) : Nat) : Int), .bool (numOk s 0 s.size)]) (by rw [numOk_over (s := s) (j := 0) (e := s.size) (k := k) (d := (Gx.byteAt s k).toNat - 48) (by omega) (by rw [Nat.zero_add]) (by rw [← hv]; unfold maxInt; omega) (by omega)]; rfl) (hK _ ((Gx.Ext.refl w).trans x1))
    refine wp_skip (Z.x (Z.g [0, 1, 2, 3, 4] ?_))
    refine Z.p [0] [1, 2, 3, 4] [(31, Z.n v)] ?_
    have p_c30 := h_c30; try simp at p_c30
    refine Gx.pure_eq [1] [2, 3, 4] [(32, .int .i64 (IntKind.i64.wrap ((10 : Int) * ((v : Nat) : Int))))] [(32, .int .i64 ((10 * v : Nat) : Int))] rfl (by kernel_rfl) (Gx.eqI (Gx.i64n (by omega) (by omega))) ?_
    refine Z.p [2] [3, 4] [(33, .int .i64 (((Gx.byteAt s k).toNat - 48 : Nat) : Int))] ?_
    refine Gx.pure_eq [3] [4] [(34, .int .i64 (IntKind.i64.wrap (((10 * v : Nat) : Int) + (((Gx.byteAt s k).toNat - 48 : Nat) : Int))))] [(34, .int .i64 (((10 * v) + ((Gx.byteAt s k).toNat - 48) : Nat) : Int))] rfl (by kernel_rfl) (Gx.eqI (Gx.i64n (by omega) (by omega))) ?_
    refine Z.p [4] [] [(4, .int .i64 (((10 * v) + ((Gx.byteAt s k).toNat - 48) : Nat) : Int))] ?_
    refine Gx.ops_nil (Gx.block_normal (Z.x (Z.g [0, 1, 2] ?_)))
    refine Z.p [0] [1, 2] [(19, Z.n k)] ?_
    refine Gx.pure_eq [1] [2] [(20, .int .i64 (IntKind.i64.wrap (((k : Nat) : Int) + (1 : Int))))] [(20, .int .i64 ((k + 1 : Nat) : Int))] rfl (by kernel_rfl) (Gx.eqI (Gx.i64n (by omega) (by omega))) ?_
    refine Z.p [2] [] [(5, .int .i64 ((k + 1 : Nat) : Int))] ?_
    refine Gx.ops_nil (Z.x ?_)
    rw [Gx.forget [(0, .string s), (4, .int .i64 ((10 * v + ((Gx.byteAt s k).toNat - 48) : Nat) : Int)), (5, .int .i64 ((k + 1 : Nat) : Int))] (by kernel_rfl)]
    exact hK2 _ _ _ _ (by omega) ⟨k + 1, 10 * v + ((Gx.byteAt s k).toNat - 48), rfl, rfl, ((Gx.Ext.refl w).trans x1), (by omega), (by simp only [dval, Nat.zero_add]; omega), (by omega)⟩
  refine wp_exit (Gx.then_exit (Gx.then_exit (Gx.block_exit (Z.x (Z.s [(3, .bool true), (2, Z.n v), (35, Z.n v)] ?_)))))
  refine wp_ret (Gx.ret (Gx.res2 (v := Z.n v) (u := .bool true) rfl (by kernel_rfl) (by kernel_rfl)) ?_)
  have p_c18 := h_c18; try simp at p_c18
  exact Gx.ret_as (v' := .tuple #[.int .i64 (((bif numOk s 0 s.size then dval s 0 s.size else 0) : Nat) : Int), .bool (numOk s 0 s.size)]) (by have e : k = s.size := (by omega); subst e; rw [numOk_yes (s := s) (j := 0) (e := s.size) (by omega) (by show dval s 0 s.size ≤ maxInt; unfold maxInt; omega), hv]; rfl) (hK _ ((Gx.Ext.refl w).trans x1))
end Go.Proofs.Ytinilkomfggjiaa
