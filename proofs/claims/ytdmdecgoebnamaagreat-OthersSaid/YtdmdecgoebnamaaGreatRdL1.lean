/- A part of the proof. -/
import Derived.Test.YtdmdecgoebnamaaGreatGx
import Derived.Test.YtdmdecgoebnamaaGreatProg
import Derived.Test.YtdmdecgoebnamaaGreatGraph
set_option linter.unusedVariables false
set_option linter.unusedSimpArgs false
namespace Go.Proofs.YtdmdecgoebnamaaGreat
open Go.RowKit Go.Lex
attribute [local irreducible] Go.wpOps Go.Code.wp Go.wpOp Go.wpAnyH Go.Calls
namespace Doc
set_option maxHeartbeats 400000 in
set_option maxRecDepth 10000 in
theorem digit_c (c : UInt8) (w : World) (K : Ending → World → Prop)  (hK : K (.returned (.bool (digitB c))) w) :
    Calls Tryz.prog 75 #[.int .u8 ((c).toNat : Int)] w K := by
  refine Gx.enter 9 Tryz.func75 rfl rfl (Nat.le_of_ble_eq_true rfl) ?_
  refine Z.s [(2, .bool false)] ?_
  refine Gx.cut (d' := []) (n' := 9) (fun l' w' => l' = [(2, .bool ((decide (((c).toNat : Int) ≥ (48 : Int))) && (decide (((c).toNat : Int) ≤ (57 : Int)))))] ∧ w = w') (fun K1 hK1 => ?_) (fun bb1 ll1 w1 hI1 => ?_)
  · refine Z.g [0, 1, 2, 3, 4, 5, 6] ?_
    refine Z.p [0, 1, 2] [3, 4, 5, 6] [(5, .bool (decide (((c).toNat : Int) ≥ (48 : Int)))), (4, .bool (decide (((c).toNat : Int) ≥ (48 : Int)))), (3, .int .u8 ((c).toNat : Int))] ?_
    refine Gx.split (decide (((c).toNat : Int) ≥ (48 : Int))) (fun h_g5 => ?_) (fun h_g5 => ?_)
    · rw [h_g5]
      refine Z.p [3, 4, 5, 6] [] [(2, .bool (decide (((c).toNat : Int) ≤ (57 : Int)))), (8, .bool (decide (((c).toNat : Int) ≤ (57 : Int)))), (7, .bool (decide (((c).toNat : Int) ≤ (57 : Int)))), (6, .int .u8 ((c).toNat : Int))] ?_
      refine Z.e ?_
      rw [Gx.forget [(2, .bool ((decide (((c).toNat : Int) ≥ (48 : Int))) && (decide (((c).toNat : Int) ≤ (57 : Int)))))] (by rw [h_g5]; try kernel_rfl)]
      exact hK1 _ _ _ ⟨rfl, rfl⟩
    rw [h_g5]
    refine Z.p [3, 4, 5, 6] [] [(2, .bool false), (8, .bool false), (7, undef), (6, undef)] ?_
    refine Z.e ?_
    rw [Gx.forget [(2, .bool ((decide (((c).toNat : Int) ≥ (48 : Int))) && (decide (((c).toNat : Int) ≤ (57 : Int)))))] (by rw [h_g5]; try kernel_rfl)]
    exact hK1 _ _ _ ⟨rfl, rfl⟩
  obtain ⟨rfl, rfl⟩ := hI1
  refine wp_ret (Z.v (.bool ((decide (((c).toNat : Int) ≥ (48 : Int))) && (decide (((c).toNat : Int) ≤ (57 : Int))))) ?_)
  exact Gx.ret_as (v' := .bool (digitB c)) (by rfl) (hK)
set_option maxHeartbeats 400000 in
set_option maxRecDepth 10000 in
theorem letter_c (c : UInt8) (w : World) (K : Ending → World → Prop)  (hK : K (.returned (.bool (letterB c))) w) :
    Calls Tryz.prog 77 #[.int .u8 ((c).toNat : Int)] w K := by
  refine Gx.enter 21 Tryz.func77 rfl rfl (Nat.le_of_ble_eq_true rfl) ?_
  refine Z.s [(2, .bool false)] ?_
  refine Gx.cut (d' := []) (n' := 21) (fun l' w' => l' = [(2, .bool ((((decide (((c).toNat : Int) ≥ (97 : Int))) && (decide (((c).toNat : Int) ≤ (122 : Int)))) || ((decide (((c).toNat : Int) ≥ (65 : Int))) && (decide (((c).toNat : Int) ≤ (90 : Int))))) || (((c).toNat : Int) == (95 : Int))))] ∧ w = w') (fun K1 hK1 => ?_) (fun bb1 ll1 w1 hI1 => ?_)
  · refine Z.g [0, 1, 2, 3, 4, 5, 6, 7, 8, 9, 10, 11, 12, 13, 14, 15, 16, 17, 18] ?_
    refine Z.p [0, 1, 2] [3, 4, 5, 6, 7, 8, 9, 10, 11, 12, 13, 14, 15, 16, 17, 18] [(5, .bool (decide (((c).toNat : Int) ≥ (97 : Int)))), (4, .bool (decide (((c).toNat : Int) ≥ (97 : Int)))), (3, .int .u8 ((c).toNat : Int))] ?_
    refine Gx.split (decide (((c).toNat : Int) ≥ (97 : Int))) (fun h_g5 => ?_) (fun h_g5 => ?_)
    · rw [h_g5]
      refine Z.p [3, 4, 5, 6] [7, 8, 9, 10, 11, 12, 13, 14, 15, 16, 17, 18] [(9, .bool (decide (((c).toNat : Int) ≤ (122 : Int)))), (8, .bool (decide (((c).toNat : Int) ≤ (122 : Int)))), (7, .bool (decide (((c).toNat : Int) ≤ (122 : Int)))), (6, .int .u8 ((c).toNat : Int))] ?_
      refine Gx.split (decide (((c).toNat : Int) ≤ (122 : Int))) (fun h_g9 => ?_) (fun h_g9 => ?_)
      · rw [h_g9]
        refine Z.p [7, 8, 9, 10, 11, 12, 13, 14, 15, 16, 17, 18] [] [(2, .bool true), (20, .bool true), (19, undef), (18, undef), (17, .bool true), (16, .bool true), (15, undef), (14, undef), (13, undef), (12, undef), (11, undef), (10, undef)] ?_
        refine Z.e ?_
        rw [Gx.forget [(2, .bool ((((decide (((c).toNat : Int) ≥ (97 : Int))) && (decide (((c).toNat : Int) ≤ (122 : Int)))) || ((decide (((c).toNat : Int) ≥ (65 : Int))) && (decide (((c).toNat : Int) ≤ (90 : Int))))) || (((c).toNat : Int) == (95 : Int))))] (by rw [h_g5, h_g9]; try kernel_rfl)]
        exact hK1 _ _ _ ⟨rfl, rfl⟩
      rw [h_g9]
      refine Z.p [7, 8, 9] [10, 11, 12, 13, 14, 15, 16, 17, 18] [(12, .bool (decide (((c).toNat : Int) ≥ (65 : Int)))), (11, .bool (decide (((c).toNat : Int) ≥ (65 : Int)))), (10, .int .u8 ((c).toNat : Int))] ?_
      refine Gx.split (decide (((c).toNat : Int) ≥ (65 : Int))) (fun h_g12 => ?_) (fun h_g12 => ?_)
      · rw [h_g12]
        refine Z.p [10, 11, 12, 13, 14] [15, 16, 17, 18] [(17, .bool (decide (((c).toNat : Int) ≤ (90 : Int)))), (16, .bool (decide (((c).toNat : Int) ≤ (90 : Int)))), (15, .bool (decide (((c).toNat : Int) ≤ (90 : Int)))), (14, .bool (decide (((c).toNat : Int) ≤ (90 : Int)))), (13, .int .u8 ((c).toNat : Int))] ?_
        refine Gx.split (decide (((c).toNat : Int) ≤ (90 : Int))) (fun h_g17 => ?_) (fun h_g17 => ?_)
        · rw [h_g17]
          refine Z.p [15, 16, 17, 18] [] [(2, .bool true), (20, .bool true), (19, undef), (18, undef)] ?_
          refine Z.e ?_
          rw [Gx.forget [(2, .bool ((((decide (((c).toNat : Int) ≥ (97 : Int))) && (decide (((c).toNat : Int) ≤ (122 : Int)))) || ((decide (((c).toNat : Int) ≥ (65 : Int))) && (decide (((c).toNat : Int) ≤ (90 : Int))))) || (((c).toNat : Int) == (95 : Int))))] (by rw [h_g5, h_g9, h_g12, h_g17]; try kernel_rfl)]
          exact hK1 _ _ _ ⟨rfl, rfl⟩
        rw [h_g17]
        refine Z.p [15, 16, 17, 18] [] [(2, .bool (((c).toNat : Int) == (95 : Int))), (20, .bool (((c).toNat : Int) == (95 : Int))), (19, .bool (((c).toNat : Int) == (95 : Int))), (18, .int .u8 ((c).toNat : Int))] ?_
        refine Z.e ?_
        rw [Gx.forget [(2, .bool ((((decide (((c).toNat : Int) ≥ (97 : Int))) && (decide (((c).toNat : Int) ≤ (122 : Int)))) || ((decide (((c).toNat : Int) ≥ (65 : Int))) && (decide (((c).toNat : Int) ≤ (90 : Int))))) || (((c).toNat : Int) == (95 : Int))))] (by rw [h_g5, h_g9, h_g12, h_g17]; try kernel_rfl)]
        exact hK1 _ _ _ ⟨rfl, rfl⟩
      rw [h_g12]
      refine Z.p [10, 11, 12, 13, 14, 15, 16, 17, 18] [] [(2, .bool (((c).toNat : Int) == (95 : Int))), (20, .bool (((c).toNat : Int) == (95 : Int))), (19, .bool (((c).toNat : Int) == (95 : Int))), (18, .int .u8 ((c).toNat : Int)), (17, .bool false), (16, .bool false), (15, .bool false), (14, undef), (13, undef)] ?_
      refine Z.e ?_
      rw [Gx.forget [(2, .bool ((((decide (((c).toNat : Int) ≥ (97 : Int))) && (decide (((c).toNat : Int) ≤ (122 : Int)))) || ((decide (((c).toNat : Int) ≥ (65 : Int))) && (decide (((c).toNat : Int) ≤ (90 : Int))))) || (((c).toNat : Int) == (95 : Int))))] (by rw [h_g5, h_g9, h_g12]; try kernel_rfl)]
      exact hK1 _ _ _ ⟨rfl, rfl⟩
    rw [h_g5]
    refine Z.p [3, 4, 5, 6, 7, 8, 9] [10, 11, 12, 13, 14, 15, 16, 17, 18] [(12, .bool (decide (((c).toNat : Int) ≥ (65 : Int)))), (11, .bool (decide (((c).toNat : Int) ≥ (65 : Int)))), (10, .int .u8 ((c).toNat : Int)), (9, .bool false), (8, .bool false), (7, undef), (6, undef)] ?_
    refine Gx.split (decide (((c).toNat : Int) ≥ (65 : Int))) (fun h_g12 => ?_) (fun h_g12 => ?_)
    · rw [h_g12]
      refine Z.p [10, 11, 12, 13, 14] [15, 16, 17, 18] [(17, .bool (decide (((c).toNat : Int) ≤ (90 : Int)))), (16, .bool (decide (((c).toNat : Int) ≤ (90 : Int)))), (15, .bool (decide (((c).toNat : Int) ≤ (90 : Int)))), (14, .bool (decide (((c).toNat : Int) ≤ (90 : Int)))), (13, .int .u8 ((c).toNat : Int))] ?_
      refine Gx.split (decide (((c).toNat : Int) ≤ (90 : Int))) (fun h_g17 => ?_) (fun h_g17 => ?_)
      · rw [h_g17]
        refine Z.p [15, 16, 17, 18] [] [(2, .bool true), (20, .bool true), (19, undef), (18, undef)] ?_
        refine Z.e ?_
        rw [Gx.forget [(2, .bool ((((decide (((c).toNat : Int) ≥ (97 : Int))) && (decide (((c).toNat : Int) ≤ (122 : Int)))) || ((decide (((c).toNat : Int) ≥ (65 : Int))) && (decide (((c).toNat : Int) ≤ (90 : Int))))) || (((c).toNat : Int) == (95 : Int))))] (by rw [h_g5, h_g12, h_g17]; try kernel_rfl)]
        exact hK1 _ _ _ ⟨rfl, rfl⟩
      rw [h_g17]
      refine Z.p [15, 16, 17, 18] [] [(2, .bool (((c).toNat : Int) == (95 : Int))), (20, .bool (((c).toNat : Int) == (95 : Int))), (19, .bool (((c).toNat : Int) == (95 : Int))), (18, .int .u8 ((c).toNat : Int))] ?_
      refine Z.e ?_
      rw [Gx.forget [(2, .bool ((((decide (((c).toNat : Int) ≥ (97 : Int))) && (decide (((c).toNat : Int) ≤ (122 : Int)))) || ((decide (((c).toNat : Int) ≥ (65 : Int))) && (decide (((c).toNat : Int) ≤ (90 : Int))))) || (((c).toNat : Int) == (95 : Int))))] (by rw [h_g5, h_g12, h_g17]; try kernel_rfl)]
      exact hK1 _ _ _ ⟨rfl, rfl⟩
    rw [h_g12]
    refine Z.p [10, 11, 12, 13, 14, 15, 16, 17, 18] [] [(2, .bool (((c).toNat : Int) == (95 : Int))), (20, .bool (((c).toNat : Int) == (95 : Int))), (19, .bool (((c).toNat : Int) == (95 : Int))), (18, .int .u8 ((c).toNat : Int)), (17, .bool false), (16, .bool false), (15, .bool false), (14, undef), (13, undef)] ?_
    refine Z.e ?_
    rw [Gx.forget [(2, .bool ((((decide (((c).toNat : Int) ≥ (97 : Int))) && (decide (((c).toNat : Int) ≤ (122 : Int)))) || ((decide (((c).toNat : Int) ≥ (65 : Int))) && (decide (((c).toNat : Int) ≤ (90 : Int))))) || (((c).toNat : Int) == (95 : Int))))] (by rw [h_g5, h_g12]; try kernel_rfl)]
    exact hK1 _ _ _ ⟨rfl, rfl⟩
  obtain ⟨rfl, rfl⟩ := hI1
  refine wp_ret (Z.v (.bool ((((decide (((c).toNat : Int) ≥ (97 : Int))) && (decide (((c).toNat : Int) ≤ (122 : Int)))) || ((decide (((c).toNat : Int) ≥ (65 : Int))) && (decide (((c).toNat : Int) ≤ (90 : Int))))) || (((c).toNat : Int) == (95 : Int)))) ?_)
  exact Gx.ret_as (v' := .bool (letterB c)) (by rfl) (hK)
set_option maxHeartbeats 400000 in
set_option maxRecDepth 10000 in
theorem blank_c (c : UInt8) (w : World) (K : Ending → World → Prop)  (hK : K (.returned (.bool (blankB c))) w) :
    Calls Tryz.prog 110 #[.int .u8 ((c).toNat : Int)] w K := by
  refine Gx.enter 17 Tryz.func110 rfl rfl (Nat.le_of_ble_eq_true rfl) ?_
  refine Z.s [(2, .bool false)] ?_
  refine Gx.cut (d' := []) (n' := 17) (fun l' w' => l' = [(2, .bool ((((((c).toNat : Int) == (9 : Int)) || (((c).toNat : Int) == (10 : Int))) || (((c).toNat : Int) == (13 : Int))) || (((c).toNat : Int) == (32 : Int))))] ∧ w = w') (fun K1 hK1 => ?_) (fun bb1 ll1 w1 hI1 => ?_)
  · refine Z.g [0, 1, 2, 3, 4, 5, 6, 7, 8, 9, 10, 11, 12, 13, 14] ?_
    refine Z.p [0, 1, 2] [3, 4, 5, 6, 7, 8, 9, 10, 11, 12, 13, 14] [(5, .bool (((c).toNat : Int) == (9 : Int))), (4, .bool (((c).toNat : Int) == (9 : Int))), (3, .int .u8 ((c).toNat : Int))] ?_
    refine Gx.split (((c).toNat : Int) == (9 : Int)) (fun h_g5 => ?_) (fun h_g5 => ?_)
    · rw [h_g5]
      refine Z.p [3, 4, 5, 6, 7, 8, 9, 10, 11, 12, 13, 14] [] [(2, .bool true), (16, .bool true), (15, undef), (14, undef), (13, .bool true), (12, .bool true), (11, undef), (10, undef), (9, .bool true), (8, .bool true), (7, undef), (6, undef)] ?_
      refine Z.e ?_
      rw [Gx.forget [(2, .bool ((((((c).toNat : Int) == (9 : Int)) || (((c).toNat : Int) == (10 : Int))) || (((c).toNat : Int) == (13 : Int))) || (((c).toNat : Int) == (32 : Int))))] (by rw [h_g5]; try kernel_rfl)]
      exact hK1 _ _ _ ⟨rfl, rfl⟩
    rw [h_g5]
    refine Z.p [3, 4, 5, 6] [7, 8, 9, 10, 11, 12, 13, 14] [(9, .bool (((c).toNat : Int) == (10 : Int))), (8, .bool (((c).toNat : Int) == (10 : Int))), (7, .bool (((c).toNat : Int) == (10 : Int))), (6, .int .u8 ((c).toNat : Int))] ?_
    refine Gx.split (((c).toNat : Int) == (10 : Int)) (fun h_g9 => ?_) (fun h_g9 => ?_)
    · rw [h_g9]
      refine Z.p [7, 8, 9, 10, 11, 12, 13, 14] [] [(2, .bool true), (16, .bool true), (15, undef), (14, undef), (13, .bool true), (12, .bool true), (11, undef), (10, undef)] ?_
      refine Z.e ?_
      rw [Gx.forget [(2, .bool ((((((c).toNat : Int) == (9 : Int)) || (((c).toNat : Int) == (10 : Int))) || (((c).toNat : Int) == (13 : Int))) || (((c).toNat : Int) == (32 : Int))))] (by rw [h_g5, h_g9]; try kernel_rfl)]
      exact hK1 _ _ _ ⟨rfl, rfl⟩
    rw [h_g9]
    refine Z.p [7, 8, 9, 10] [11, 12, 13, 14] [(13, .bool (((c).toNat : Int) == (13 : Int))), (12, .bool (((c).toNat : Int) == (13 : Int))), (11, .bool (((c).toNat : Int) == (13 : Int))), (10, .int .u8 ((c).toNat : Int))] ?_
    refine Gx.split (((c).toNat : Int) == (13 : Int)) (fun h_g13 => ?_) (fun h_g13 => ?_)
    · rw [h_g13]
      refine Z.p [11, 12, 13, 14] [] [(2, .bool true), (16, .bool true), (15, undef), (14, undef)] ?_
      refine Z.e ?_
      rw [Gx.forget [(2, .bool ((((((c).toNat : Int) == (9 : Int)) || (((c).toNat : Int) == (10 : Int))) || (((c).toNat : Int) == (13 : Int))) || (((c).toNat : Int) == (32 : Int))))] (by rw [h_g5, h_g9, h_g13]; try kernel_rfl)]
      exact hK1 _ _ _ ⟨rfl, rfl⟩
    rw [h_g13]
    refine Z.p [11, 12, 13, 14] [] [(2, .bool (((c).toNat : Int) == (32 : Int))), (16, .bool (((c).toNat : Int) == (32 : Int))), (15, .bool (((c).toNat : Int) == (32 : Int))), (14, .int .u8 ((c).toNat : Int))] ?_
    refine Z.e ?_
    rw [Gx.forget [(2, .bool ((((((c).toNat : Int) == (9 : Int)) || (((c).toNat : Int) == (10 : Int))) || (((c).toNat : Int) == (13 : Int))) || (((c).toNat : Int) == (32 : Int))))] (by rw [h_g5, h_g9, h_g13]; try kernel_rfl)]
    exact hK1 _ _ _ ⟨rfl, rfl⟩
  obtain ⟨rfl, rfl⟩ := hI1
  refine wp_ret (Z.v (.bool ((((((c).toNat : Int) == (9 : Int)) || (((c).toNat : Int) == (10 : Int))) || (((c).toNat : Int) == (13 : Int))) || (((c).toNat : Int) == (32 : Int)))) ?_)
  exact Gx.ret_as (v' := .bool (blankB c)) (by rfl) (hK)
set_option maxHeartbeats 400000 in
set_option maxRecDepth 10000 in
theorem words_c  (w : World) (K : Ending → World → Prop)  (hK : ∀ w', Gx.Ext w w' → ∀ bk, w.heap.size ≤ bk → Gx.Has w' bk (.cells (Gx.strA wordsL) 9) → K (.returned (.slice (some ⟨bk, 0, none⟩) 28 28)) w') :
    Calls Tryz.prog 111 #[] w K := by
  refine Gx.enter 2 Tryz.func111 rfl rfl (Nat.le_of_ble_eq_true rfl) ?_
  refine Z.s [(0, .slice none 0 0)] ?_
  refine Z.r [0, 1] ?_
  refine Z.R (.cells #[.string (Z.B [111, 112]), .string (Z.B [111, 110, 99, 101]), .string (Z.B [109, 97, 110, 121]), .string (Z.B [100, 101, 102]), .string (Z.B [114, 101, 99]), .string (Z.B [109, 97, 105, 110]), .string (Z.B [108, 101, 116]), .string (Z.B [105, 110]), .string (Z.B [102, 110]), .string (Z.B [105, 102]), .string (Z.B [116, 104, 101, 110]), .string (Z.B [101, 108, 115, 101]), .string (Z.B [99, 97, 115, 101]), .string (Z.B [111, 102]), .string (Z.B [101, 110, 100]), .string (Z.B [100, 111]), .string (Z.B [102, 115, 116]), .string (Z.B [115, 110, 100]), .string (Z.B [104, 97, 110, 100, 108, 101]), .string (Z.B [115, 104, 97, 108, 108, 111, 119]), .string (Z.B [119, 105, 116, 104]), .string (Z.B [114, 101, 116, 117, 114, 110]), .string (Z.B [116, 114, 117, 101]), .string (Z.B [102, 97, 108, 115, 101]), .string (Z.B [105, 110, 116]), .string (Z.B [98, 111, 111, 108]), .string (Z.B [117, 110, 105, 116]), .string (Z.B [108, 105, 115, 116])] 9) 28 28 (fun k1 w1 l1 x1 b1 zw1 tb1 => ?_)
  refine Z.p [1] [] [(0, .slice (some ⟨k1, 0, none⟩) 28 28)] ?_
  refine Z.e (wp_ret (Z.v (.slice (some ⟨k1, 0, none⟩) 28 28) ?_))
  exact hK _ ((Gx.Ext.refl w).trans x1) _ (by omega) (show Gx.Has _ _ (.cells (Gx.strA wordsL) 9) from b1)
set_option maxHeartbeats 400000 in
set_option maxRecDepth 10000 in
theorem signs_c  (w : World) (K : Ending → World → Prop)  (hK : ∀ w', Gx.Ext w w' → ∀ bk, w.heap.size ≤ bk → Gx.Has w' bk (.cells (Gx.strA signsL) 9) → K (.returned (.slice (some ⟨bk, 0, none⟩) 20 20)) w') :
    Calls Tryz.prog 79 #[] w K := by
  refine Gx.enter 2 Tryz.func79 rfl rfl (Nat.le_of_ble_eq_true rfl) ?_
  refine Z.s [(0, .slice none 0 0)] ?_
  refine Z.r [0, 1] ?_
  refine Z.R (.cells #[.string (Z.B [58, 58]), .string (Z.B [61, 61]), .string (Z.B [61, 62]), .string (Z.B [45, 62]), .string (Z.B [40]), .string (Z.B [41]), .string (Z.B [91]), .string (Z.B [93]), .string (Z.B [123]), .string (Z.B [125]), .string (Z.B [44]), .string (Z.B [59]), .string (Z.B [58]), .string (Z.B [61]), .string (Z.B [45]), .string (Z.B [43]), .string (Z.B [42]), .string (Z.B [60]), .string (Z.B [124]), .string (Z.B [126])] 9) 20 20 (fun k1 w1 l1 x1 b1 zw1 tb1 => ?_)
  refine Z.p [1] [] [(0, .slice (some ⟨k1, 0, none⟩) 20 20)] ?_
  refine Z.e (wp_ret (Z.v (.slice (some ⟨k1, 0, none⟩) 20 20) ?_))
  exact hK _ ((Gx.Ext.refl w).trans x1) _ (by omega) (show Gx.Has _ _ (.cells (Gx.strA signsL) 9) from b1)
set_option maxHeartbeats 400000 in
set_option maxRecDepth 10000 in
theorem IsWord_c (s : ByteArray) (w : World) (K : Ending → World → Prop)  (hK : ∀ w', Gx.Ext w w' → K (.returned (.bool (wordB s))) w') :
    Calls Tryz.prog 78 #[.string s] w K := by
  refine Gx.enter 18 Tryz.func78 rfl rfl (Nat.le_of_ble_eq_true rfl) ?_
  refine Z.s [(2, .bool false)] ?_
  refine Z.r [0, 1] ?_
  refine Z.k (fun R hR => words_c  _ R  (fun w1 x1 k1 l1 b1 => hR _ _ ?_))
  have zw1 := x1.size
  have tb1 := b1.lt
  refine Z.p [1] [] [(3, .slice (some ⟨k1, 0, none⟩) 28 28)] ?_
  refine Z.e (wp_seq (Z.s [(4, .int .i64 0)] ?_))
  refine wp_block (Gx.loop (n' := 18) (d' := []) (fun mz l' w' => ∃ (k : Nat), l' = [(0, .string s), (3, .slice (some ⟨k1, 0, none⟩) 28 28), (4, Z.n k)] ∧ mz = 28 - k ∧ Gx.Ext w w' ∧ Gx.Has w' k1 (.cells (Gx.strA wordsL) 9) ∧ (k ≤ 28) ∧ (∀ j, j < k → ((Gx.gs wordsL j).toList == s.toList) = false)) _ _ [(0, .string s), (3, .slice (some ⟨k1, 0, none⟩) 28 28), (4, Z.n 0)] (Gx.forget [(0, .string s), (3, .slice (some ⟨k1, 0, none⟩) 28 28), (4, Z.n 0)] (by kernel_rfl)) ⟨0, rfl, rfl, ((Gx.Ext.refl w).trans x1), b1, (by omega), (by intro j hj; omega)⟩ (fun bb1 m1 ll1 w2 hI1 K1 hK1 => ?_))
  obtain ⟨k, rfl, rfl, x2, b2, hk, hn⟩ := hI1
  have zw2 := x2.size
  have tb2 := b2.lt
  refine wp_seq (Z.s [(9, .bool (decide (((k : Nat) : Int) < (28 : Int)))), (8, .int .i64 28), (7, .slice (some ⟨k1, 0, none⟩) 28 28), (6, Z.n k)] ?_)
  refine Z.c (decide (((k : Nat) : Int) < (28 : Int))) (fun h_c9 => ?_) (fun h_c9 => ?_)
  · skip
    refine wp_skip (Z.x (wp_seq (wp_block (Z.r [0, 1, 2, 3, 4, 5] ?_))))
    refine Z.p [0, 1] [2, 3, 4, 5] [(13, Z.n k), (12, .slice (some ⟨k1, 0, none⟩) 28 28)] ?_
    have p_c9 := h_c9; try simp [-List.getD_eq_getElem?_getD] at p_c9
    refine Gx.cons (Gx.op_indexAddr (bk := k1) rfl (by kernel_rfl) rfl 9 1 (by kernel_rfl) (by kernel_rfl) 0 28 28 (by kernel_rfl) .i64 k (by kernel_rfl) (by omega) ?_)
    refine Gx.cons (Gx.op_load rfl (by kernel_rfl) rfl (0 + k * 1) (.string (Gx.gs wordsL k)) (by kernel_rfl) b2 (Gx.loadB_strA (by kernel_rfl) (show k < 28 by omega)) ?_)
    refine Z.p [4, 5] [] [(17, .bool ((Gx.gs wordsL k).toList == s.toList)), (16, .string s)] ?_
    refine Z.e (Z.c ((Gx.gs wordsL k).toList == s.toList) (fun h_c17 => ?_) (fun h_c17 => ?_))
    · skip
      refine Z.s [(2, .bool true)] ?_
      refine wp_ret (Gx.block_ret (Gx.then_ret (Gx.then_ret (Gx.block_ret (Gx.then_ret (Z.v (.bool true) ?_))))))
      have p_c17 := h_c17; try simp [-List.getD_eq_getElem?_getD] at p_c17
      exact Gx.ret_as (v' := .bool (wordB s)) (by rw [wordB_at (by omega) h_c17]) (hK _ ((Gx.Ext.refl w).trans x2))
    refine wp_skip (Gx.block_normal (Z.x (Z.g [0, 1, 2] ?_)))
    refine Z.p [0] [1, 2] [(10, Z.n k)] ?_
    have p_c17 := h_c17; try simp [-List.getD_eq_getElem?_getD] at p_c17
    refine Gx.pure_eq [1] [2] [(11, .int .i64 (IntKind.i64.wrap (((k : Nat) : Int) + (1 : Int))))] [(11, .int .i64 ((k + 1 : Nat) : Int))] rfl (by kernel_rfl) (Gx.eqI (Gx.i64n (by omega) (by omega))) ?_
    refine Z.p [2] [] [(4, .int .i64 ((k + 1 : Nat) : Int))] ?_
    refine Gx.ops_nil (Z.x ?_)
    rw [Gx.forget [(0, .string s), (3, .slice (some ⟨k1, 0, none⟩) 28 28), (4, .int .i64 ((k + 1 : Nat) : Int))] (by kernel_rfl)]
    exact hK1 _ _ _ _ (by omega) ⟨k + 1, rfl, rfl, ((Gx.Ext.refl w).trans x2), b2, (by omega), (fun j hj => by rcases Nat.lt_or_ge j k with h | h; exact hn j h; (obtain rfl : j = k := by omega); exact h_c17)⟩
  refine wp_exit (Gx.then_exit (Gx.then_exit (Gx.block_exit (Z.x (Z.s [(2, .bool false)] ?_)))))
  refine wp_ret (Z.v (.bool false) ?_)
  have p_c9 := h_c9; try simp [-List.getD_eq_getElem?_getD] at p_c9
  exact Gx.ret_as (v' := .bool (wordB s)) (by rw [wordB_none (fun j hj => hn j (by omega))]) (hK _ ((Gx.Ext.refl w).trans x2))
set_option maxHeartbeats 400000 in
set_option maxRecDepth 10000 in
theorem pass_c (s : ByteArray) (i : Nat) (w : World) (K : Ending → World → Prop) (hs : s.size ≤ 3000) (hi : i ≤ s.size) (hK : ∀ w', Gx.Ext w w' → K (.returned (.int .i64 ((pass s i : Nat) : Int))) w') :
    Calls Tryz.prog 74 #[.string s, Z.n i] w K := by
  refine Gx.enter 33 Tryz.func74 rfl rfl (Nat.le_of_ble_eq_true rfl) ?_
  refine Z.s [(4, .int .i64 0)] ?_
  refine wp_seq (wp_block (Gx.loop (n' := 33) (d' := []) (fun mz l' w' => ∃ (k : Nat), l' = [(0, .string s), (1, Z.n k)] ∧ mz = s.size - k ∧ Gx.Ext w w' ∧ (k ≤ s.size) ∧ (pass s k = pass s i)) _ _ [(0, .string s), (1, Z.n i)] (Gx.forget [(0, .string s), (1, Z.n i)] (by kernel_rfl)) ⟨i, rfl, rfl, (Gx.Ext.refl w), hi, rfl⟩ (fun bb1 m1 ll1 w1 hI1 K1 hK1 => ?_)))
  obtain ⟨k, rfl, rfl, x1, hk, hp⟩ := hI1
  have zw1 := x1.size
  refine wp_seq (Z.s [(8, .bool (decide (((k : Nat) : Int) < ((s.size : Nat) : Int)))), (7, Z.n s.size), (6, .string s), (5, Z.n k)] ?_)
  refine Z.c (decide (((k : Nat) : Int) < ((s.size : Nat) : Int))) (fun h_c8 => ?_) (fun h_c8 => ?_)
  · skip
    refine wp_skip (Z.x (wp_block (wp_seq (Z.r [0, 1, 2, 3] ?_))))
    refine Z.p [0, 1] [2, 3] [(10, Z.n k), (9, .string s)] ?_
    have p_c8 := h_c8; try simp [-List.getD_eq_getElem?_getD] at p_c8
    refine Gx.cons (Gx.op_index_str rfl (by kernel_rfl) rfl (by kernel_rfl) s .i64 k (by kernel_rfl) (by kernel_rfl) (by omega) ?_)
    refine Z.k (fun R hR => blank_c (Gx.byteAt s k) _ R  (hR _ _ ?_))
    refine Z.e (Z.c (blankB (Gx.byteAt s k)) (fun h_c12 => ?_) (fun h_c12 => ?_))
    · skip
      refine Z.r [0, 1, 2] ?_
      refine Z.p [0] [1, 2] [(13, Z.n k)] ?_
      have p_c12 := h_c12; try simp [-List.getD_eq_getElem?_getD] at p_c12
      refine Gx.pure_eq [1] [2] [(14, .int .i64 (IntKind.i64.wrap (((k : Nat) : Int) + (1 : Int))))] [(14, .int .i64 ((k + 1 : Nat) : Int))] rfl (by kernel_rfl) (Gx.eqI (Gx.i64n (by omega) (by omega))) ?_
      refine Z.p [2] [] [(1, .int .i64 ((k + 1 : Nat) : Int))] ?_
      refine Z.e (wp_exit (Gx.then_exit (Gx.block_exit (Z.x ?_))))
      rw [Gx.forget [(0, .string s), (1, .int .i64 ((k + 1 : Nat) : Int))] (by kernel_rfl)]
      exact hK1 _ _ _ _ (by omega) ⟨k + 1, rfl, rfl, ((Gx.Ext.refl w).trans x1), (by omega), (by rw [← hp, pass_blank (s := s) (k := k) (by omega) h_c12])⟩
    refine wp_skip (Z.x (wp_seq (Z.r [0, 1, 2, 3] ?_)))
    refine Z.p [0, 1] [2, 3] [(16, Z.n k), (15, .string s)] ?_
    have p_c12 := h_c12; try simp [-List.getD_eq_getElem?_getD] at p_c12
    refine Gx.cons (Gx.op_index_str rfl (by kernel_rfl) rfl (by kernel_rfl) s .i64 k (by kernel_rfl) (by kernel_rfl) (by omega) ?_)
    refine Z.p [3] [] [(18, .bool (((Gx.byteAt s k).toNat : Int) != (35 : Int)))] ?_
    refine Z.e (Z.c (((Gx.byteAt s k).toNat : Int) != (35 : Int)) (fun h_c18 => ?_) (fun h_c18 => ?_))
    · skip
      refine Z.s [(4, Z.n k), (19, Z.n k)] ?_
      refine wp_ret (Gx.then_ret (Gx.block_ret (Gx.then_ret (Gx.block_ret (Gx.then_ret (Z.v (Z.n k) ?_))))))
      have p_c18 := h_c18; try simp [-List.getD_eq_getElem?_getD] at p_c18
      exact Gx.ret_as (v' := .int .i64 ((pass s i : Nat) : Int)) (by rw [← hp, pass_here (s := s) (k := k) (by omega) (by rw [h_c12]; simp) (by omega)]) (hK _ ((Gx.Ext.refl w).trans x1))
    refine wp_skip (Z.x (wp_block ?_))
    have p_c18 := h_c18; try simp [-List.getD_eq_getElem?_getD] at p_c18
    refine Gx.loop (n' := 33) (d' := []) (fun mz l' w' => ∃ (j : Nat), l' = [(0, .string s), (1, Z.n j)] ∧ mz = s.size - j ∧ Gx.Ext w w' ∧ (k ≤ j ∧ j ≤ s.size) ∧ (stop notNl s j = stop notNl s k)) _ _ [(0, .string s), (1, Z.n k)] (Gx.forget [(0, .string s), (1, Z.n k)] (by kernel_rfl)) ⟨k, rfl, rfl, ((Gx.Ext.refl w).trans x1), (by omega), rfl⟩ (fun bb2 m2 ll2 w2 hI2 K2 hK2 => ?_)
    obtain ⟨j, rfl, rfl, x2, hj, hst⟩ := hI2
    have zw2 := x2.size
    refine wp_seq (Gx.cut (d' := []) (n' := 33) (fun l' w' => l' = [(0, .string s), (1, Z.n j), (29, .bool ((decide (((j : Nat) : Int) < ((s.size : Nat) : Int))) && (((Gx.byteAt s j).toNat : Int) != (10 : Int))))] ∧ w2 = w') (fun K3 hK3 => ?_) (fun bb3 ll3 w3 hI3 => ?_))
    · refine Z.g [0, 1, 2, 3, 4, 5, 6, 7, 8, 9] ?_
      refine Z.p [0, 1, 2, 3, 4] [5, 6, 7, 8, 9] [(24, .bool (decide (((j : Nat) : Int) < ((s.size : Nat) : Int)))), (23, .bool (decide (((j : Nat) : Int) < ((s.size : Nat) : Int)))), (22, Z.n s.size), (21, .string s), (20, Z.n j)] ?_
      refine Gx.split (decide (((j : Nat) : Int) < ((s.size : Nat) : Int))) (fun h_g24 => ?_) (fun h_g24 => ?_)
      · rw [h_g24]
        refine Z.p [5, 6] [7, 8, 9] [(26, Z.n j), (25, .string s)] ?_
        have p_g24 := h_g24; try simp [-List.getD_eq_getElem?_getD] at p_g24
        refine Gx.cons (Gx.op_index_str rfl (by kernel_rfl) rfl (by kernel_rfl) s .i64 j (by kernel_rfl) (by kernel_rfl) (by omega) ?_)
        refine Z.p [8, 9] [] [(29, .bool (((Gx.byteAt s j).toNat : Int) != (10 : Int))), (28, .bool (((Gx.byteAt s j).toNat : Int) != (10 : Int)))] ?_
        refine Z.e ?_
        rw [Gx.forget [(0, .string s), (1, Z.n j), (29, .bool ((decide (((j : Nat) : Int) < ((s.size : Nat) : Int))) && (((Gx.byteAt s j).toNat : Int) != (10 : Int))))] (by rw [h_g24]; try kernel_rfl)]
        exact hK3 _ _ _ ⟨rfl, rfl⟩
      rw [h_g24]
      refine Z.p [5, 6, 7, 8, 9] [] [(29, .bool false), (28, undef), (27, undef), (26, undef), (25, undef)] ?_
      refine Z.e ?_
      rw [Gx.forget [(0, .string s), (1, Z.n j), (29, .bool ((decide (((j : Nat) : Int) < ((s.size : Nat) : Int))) && (((Gx.byteAt s j).toNat : Int) != (10 : Int))))] (by rw [h_g24]; try kernel_rfl)]
      exact hK3 _ _ _ ⟨rfl, rfl⟩
    obtain ⟨rfl, rfl⟩ := hI3
    refine Z.c ((decide (((j : Nat) : Int) < ((s.size : Nat) : Int))) && (((Gx.byteAt s j).toNat : Int) != (10 : Int))) (fun h_c29 => ?_) (fun h_c29 => ?_)
    · skip
      refine wp_skip (Z.x (wp_block (Z.g [0, 1, 2] ?_)))
      refine Z.p [0] [1, 2] [(30, Z.n j)] ?_
      have p_c29 := h_c29; try simp [-List.getD_eq_getElem?_getD] at p_c29
      refine Gx.pure_eq [1] [2] [(31, .int .i64 (IntKind.i64.wrap (((j : Nat) : Int) + (1 : Int))))] [(31, .int .i64 ((j + 1 : Nat) : Int))] rfl (by kernel_rfl) (Gx.eqI (Gx.i64n (by omega) (by omega))) ?_
      refine Z.p [2] [] [(1, .int .i64 ((j + 1 : Nat) : Int))] ?_
      refine Gx.ops_nil (Gx.block_normal (Z.x ?_))
      rw [Gx.forget [(0, .string s), (1, .int .i64 ((j + 1 : Nat) : Int))] (by kernel_rfl)]
      exact hK2 _ _ _ _ (by omega) ⟨j + 1, rfl, rfl, ((Gx.Ext.refl w).trans x2), (by omega), (by rw [← hst, stop_go (p := notNl) (s := s) (k := j) (by omega) (by unfold notNl; simp; omega)])⟩
    refine wp_exit (Gx.then_exit (Gx.then_exit (Gx.block_exit (Gx.block_normal (Z.x ?_)))))
    have p_c29 := h_c29; try simp [-List.getD_eq_getElem?_getD] at p_c29
    rw [Gx.forget [(0, .string s), (1, Z.n j)] (by kernel_rfl)]
    exact hK1 _ _ _ _ (by have h1 := le_stop notNl s (k + 1); rw [← stop_go (p := notNl) (s := s) (k := k) (by omega) (by unfold notNl; simp; omega), ← hst, stop_at (p := notNl) (s := s) (k := j) (by simpa [notNl] using h_c29)] at h1; omega) ⟨j, rfl, rfl, ((Gx.Ext.refl w).trans x2), (by omega), (by rw [← hp, pass_remark (s := s) (k := k) (by omega) (by omega), ← stop_go (p := notNl) (s := s) (k := k) (by omega) (by unfold notNl; simp; omega), ← hst, stop_at (p := notNl) (s := s) (k := j) (by simpa [notNl] using h_c29)])⟩
  refine wp_exit (Gx.then_exit (Gx.then_exit (Gx.block_exit (Z.x (Z.s [(4, Z.n k), (32, Z.n k)] ?_)))))
  refine wp_ret (Z.v (Z.n k) ?_)
  have p_c8 := h_c8; try simp [-List.getD_eq_getElem?_getD] at p_c8
  exact Gx.ret_as (v' := .int .i64 ((pass s i : Nat) : Int)) (by rw [← hp, pass_end (s := s) (k := k) (by omega)]) (hK _ ((Gx.Ext.refl w).trans x1))
set_option maxHeartbeats 400000 in
set_option maxRecDepth 10000 in
theorem number_c (s : ByteArray) (w : World) (K : Ending → World → Prop) (hs : s.size ≤ 3000) (hd : ∀ m, m < s.size → digitB (Gx.byteAt s m) = true) (hK : ∀ w', Gx.Ext w w' → K (.returned (.tuple #[.int .i64 (((bif numOk s 0 s.size then dval s 0 s.size else 0) : Nat) : Int), .bool (numOk s 0 s.size)])) w') :
    Calls Tryz.prog 76 #[.string s] w K := by
  refine Gx.enter 36 Tryz.func76 rfl rfl (Nat.le_of_ble_eq_true rfl) ?_
  refine Z.s [(3, .bool false), (2, .int .i64 0)] ?_
  refine wp_seq (Gx.cut (d' := []) (n' := 36) (fun l' w' => l' = [(0, .string s), (14, .bool ((decide (((s.size : Nat) : Int) > (1 : Int))) && (((Gx.byteAt s 0).toNat : Int) == (48 : Int))))] ∧ w = w') (fun K1 hK1 => ?_) (fun bb1 ll1 w1 hI1 => ?_))
  · refine Z.g [0, 1, 2, 3, 4, 5, 6, 7] ?_
    refine Z.p [0, 1, 2, 3] [4, 5, 6, 7] [(10, .bool (decide (((s.size : Nat) : Int) > (1 : Int)))), (9, .bool (decide (((s.size : Nat) : Int) > (1 : Int)))), (8, Z.n s.size), (7, .string s)] ?_
    refine Gx.split (decide (((s.size : Nat) : Int) > (1 : Int))) (fun h_g10 => ?_) (fun h_g10 => ?_)
    · rw [h_g10]
      refine Z.p [4] [5, 6, 7] [(11, .string s)] ?_
      have p_g10 := h_g10; try simp [-List.getD_eq_getElem?_getD] at p_g10
      refine Gx.cons (Gx.op_index_str rfl (by kernel_rfl) rfl (by kernel_rfl) s .i64 0 (by kernel_rfl) (by kernel_rfl) (by omega) ?_)
      refine Z.p [6, 7] [] [(14, .bool (((Gx.byteAt s 0).toNat : Int) == (48 : Int))), (13, .bool (((Gx.byteAt s 0).toNat : Int) == (48 : Int)))] ?_
      refine Z.e ?_
      rw [Gx.forget [(0, .string s), (14, .bool ((decide (((s.size : Nat) : Int) > (1 : Int))) && (((Gx.byteAt s 0).toNat : Int) == (48 : Int))))] (by rw [h_g10]; try kernel_rfl)]
      exact hK1 _ _ _ ⟨rfl, rfl⟩
    rw [h_g10]
    refine Z.p [4, 5, 6, 7] [] [(14, .bool false), (13, undef), (12, undef), (11, undef)] ?_
    refine Z.e ?_
    rw [Gx.forget [(0, .string s), (14, .bool ((decide (((s.size : Nat) : Int) > (1 : Int))) && (((Gx.byteAt s 0).toNat : Int) == (48 : Int))))] (by rw [h_g10]; try kernel_rfl)]
    exact hK1 _ _ _ ⟨rfl, rfl⟩
  obtain ⟨rfl, rfl⟩ := hI1
  refine Z.c ((decide (((s.size : Nat) : Int) > (1 : Int))) && (((Gx.byteAt s 0).toNat : Int) == (48 : Int))) (fun h_c14 => ?_) (fun h_c14 => ?_)
  · skip
    refine Z.s [(3, .bool false), (2, .int .i64 0)] ?_
    refine wp_ret (Gx.then_ret (Gx.ret (Gx.res2 (v := .int .i64 0) (u := .bool false) rfl (by kernel_rfl) (by kernel_rfl)) ?_))
    have p_c14 := h_c14; try simp [-List.getD_eq_getElem?_getD] at p_c14
    exact Gx.ret_as (v' := .tuple #[.int .i64 (((bif numOk s 0 s.size then dval s 0 s.size else 0) : Nat) : Int), .bool (numOk s 0 s.size)]) (by rw [numOk_zero (s := s) (j := 0) (e := s.size) (by omega) (by omega)]; rfl) (hK _ (Gx.Ext.refl w))
  refine wp_skip (Z.x (Z.s [(4, .int .i64 0)] ?_))
  refine wp_seq (Z.s [(5, .int .i64 0)] ?_)
  refine wp_block ?_
  have p_c14 := h_c14; try simp [-List.getD_eq_getElem?_getD] at p_c14
  refine Gx.loop (n' := 36) (d' := []) (fun mz l' w' => ∃ (k : Nat) (v : Nat), l' = [(0, .string s), (4, Z.n v), (5, Z.n k)] ∧ mz = s.size - k ∧ Gx.Ext w w' ∧ (k ≤ s.size) ∧ (v = dval s 0 k) ∧ (v ≤ 9223372036854775807)) _ _ [(0, .string s), (4, Z.n 0), (5, Z.n 0)] (Gx.forget [(0, .string s), (4, Z.n 0), (5, Z.n 0)] (by kernel_rfl)) ⟨0, 0, rfl, rfl, (Gx.Ext.refl w), (by omega), rfl, (by omega)⟩ (fun bb2 m1 ll2 w2 hI2 K2 hK2 => ?_)
  obtain ⟨k, v, rfl, rfl, x1, hk, hv, hm⟩ := hI2
  have zw2 := x1.size
  refine wp_seq (Z.s [(18, .bool (decide (((k : Nat) : Int) < ((s.size : Nat) : Int)))), (17, Z.n s.size), (16, .string s), (15, Z.n k)] ?_)
  refine Z.c (decide (((k : Nat) : Int) < ((s.size : Nat) : Int))) (fun h_c18 => ?_) (fun h_c18 => ?_)
  · skip
    refine wp_skip (Z.x (wp_seq (wp_block ?_)))
    have p_c18 := h_c18; try simp [-List.getD_eq_getElem?_getD] at p_c18
    have hd' := (digit_iff _).1 (hd k (by omega))
    refine Z.r [0, 1, 2, 3, 4, 5] ?_
    refine Z.p [0, 1] [2, 3, 4, 5] [(22, Z.n k), (21, .string s)] ?_
    refine Gx.cons (Gx.op_index_str rfl (by kernel_rfl) rfl (by kernel_rfl) s .i64 k (by kernel_rfl) (by kernel_rfl) (by omega) ?_)
    refine Gx.pure_eq [3] [4, 5] [(24, .int .u8 (IntKind.u8.wrap (((Gx.byteAt s k).toNat : Int) - (48 : Int))))] [(24, .int .u8 (((Gx.byteAt s k).toNat - 48 : Nat) : Int))] rfl (by kernel_rfl) (Gx.eqI ((by rw [IntWalk.u8_in _ (by omega)]; omega))) ?_
    refine Gx.pure_eq [4] [5] [(25, .int .i64 (IntKind.i64.wrap (((Gx.byteAt s k).toNat - 48 : Nat) : Int)))] [(25, .int .i64 (((Gx.byteAt s k).toNat - 48 : Nat) : Int))] rfl (by kernel_rfl) (Gx.eqI (IntWalk.i64_in _ (by omega))) ?_
    refine Z.p [5] [] [(6, .int .i64 (((Gx.byteAt s k).toNat - 48 : Nat) : Int))] ?_
    refine Z.e (wp_seq (Z.r [0, 1, 2, 3, 4] ?_))
    refine Z.p [0, 1] [2, 3, 4] [(27, .int .i64 (((Gx.byteAt s k).toNat - 48 : Nat) : Int)), (26, Z.n v)] ?_
    refine Gx.pure_eq [2] [3, 4] [(28, .int .i64 (IntKind.i64.wrap ((9223372036854775807 : Int) - (((Gx.byteAt s k).toNat - 48 : Nat) : Int))))] [(28, .int .i64 ((9223372036854775807 : Int) - (((Gx.byteAt s k).toNat - 48 : Nat) : Int)))] rfl (by kernel_rfl) (Gx.eqI (IntWalk.i64_in _ (by omega))) ?_
    refine Gx.pure_eq [3] [4] [(29, .int .i64 (IntKind.i64.wrap (Int.tdiv ((9223372036854775807 : Int) - (((Gx.byteAt s k).toNat - 48 : Nat) : Int)) (10 : Int))))] [(29, .int .i64 (((9223372036854775807 : Int) - (((Gx.byteAt s k).toNat - 48 : Nat) : Int)) / (10 : Int)))] rfl (by kernel_rfl) (Gx.eqI (IntWalk.i64_quo _ _ (by omega))) ?_
    refine Z.p [4] [] [(30, .bool (decide (((v : Nat) : Int) > (((9223372036854775807 : Int) - (((Gx.byteAt s k).toNat - 48 : Nat) : Int)) / (10 : Int)))))] ?_
    refine Z.e (Z.c (decide (((v : Nat) : Int) > (((9223372036854775807 : Int) - (((Gx.byteAt s k).toNat - 48 : Nat) : Int)) / (10 : Int)))) (fun h_c30 => ?_) (fun h_c30 => ?_))
    · skip
      refine Z.s [(3, .bool false), (2, .int .i64 0)] ?_
      refine wp_ret (Gx.then_ret (Gx.block_ret (Gx.then_ret (Gx.then_ret (Gx.block_ret (Gx.then_ret (Gx.ret (Gx.res2 (v := .int .i64 0) (u := .bool false) rfl (by kernel_rfl) (by kernel_rfl)) ?_)))))))
      have p_c30 := h_c30; try simp [-List.getD_eq_getElem?_getD] at p_c30
      exact Gx.ret_as (v' := .tuple #[.int .i64 (((bif numOk s 0 s.size then dval s 0 s.size else 0) : Nat) : Int), .bool (numOk s 0 s.size)]) (by rw [numOk_over (s := s) (j := 0) (e := s.size) (k := k) (d := (Gx.byteAt s k).toNat - 48) (by omega) (by rw [Nat.zero_add]) (by rw [← hv]; unfold maxInt; omega) (by omega)]; rfl) (hK _ ((Gx.Ext.refl w).trans x1))
    refine wp_skip (Z.x (Z.g [0, 1, 2, 3, 4] ?_))
    refine Z.p [0] [1, 2, 3, 4] [(31, Z.n v)] ?_
    have p_c30 := h_c30; try simp [-List.getD_eq_getElem?_getD] at p_c30
    refine Gx.pure_eq [1] [2, 3, 4] [(32, .int .i64 (IntKind.i64.wrap ((10 : Int) * ((v : Nat) : Int))))] [(32, .int .i64 ((10 * v : Nat) : Int))] rfl (by kernel_rfl) (Gx.eqI (Gx.i64n (by omega) (by omega))) ?_
    refine Z.p [2] [3, 4] [(33, .int .i64 (((Gx.byteAt s k).toNat - 48 : Nat) : Int))] ?_
    refine Gx.pure_eq [3] [4] [(34, .int .i64 (IntKind.i64.wrap (((10 * v : Nat) : Int) + (((Gx.byteAt s k).toNat - 48 : Nat) : Int))))] [(34, .int .i64 (((10 * v) + ((Gx.byteAt s k).toNat - 48) : Nat) : Int))] rfl (by kernel_rfl) (Gx.eqI (Gx.i64n (by omega) (by omega))) ?_
    refine Z.p [4] [] [(4, .int .i64 (((10 * v) + ((Gx.byteAt s k).toNat - 48) : Nat) : Int))] ?_
    refine Gx.ops_nil (Gx.block_normal (Z.x (Z.g [0, 1, 2] ?_)))
    refine Z.p [0] [1, 2] [(19, Z.n k)] ?_
    refine Gx.pure_eq [1] [2] [(20, .int .i64 (IntKind.i64.wrap (((k : Nat) : Int) + (1 : Int))))] [(20, .int .i64 ((k + 1 : Nat) : Int))] rfl (by kernel_rfl) (Gx.eqI (Gx.i64n (by omega) (by omega))) ?_
    refine Z.p [2] [] [(5, .int .i64 ((k + 1 : Nat) : Int))] ?_
    refine Gx.ops_nil (Z.x ?_)
    rw [Gx.forget [(0, .string s), (4, .int .i64 ((10 * v + ((Gx.byteAt s k).toNat - 48) : Nat) : Int)), (5, .int .i64 ((k + 1 : Nat) : Int))] (by kernel_rfl)]
    exact hK2 _ _ _ _ (by omega) ⟨k + 1, 10 * v + ((Gx.byteAt s k).toNat - 48), rfl, rfl, ((Gx.Ext.refl w).trans x1), (by omega), (by simp only [dval, Nat.zero_add]; omega), (by omega)⟩
  refine wp_exit (Gx.then_exit (Gx.then_exit (Gx.block_exit (Z.x (Z.s [(3, .bool true), (2, Z.n v), (35, Z.n v)] ?_)))))
  refine wp_ret (Gx.ret (Gx.res2 (v := Z.n v) (u := .bool true) rfl (by kernel_rfl) (by kernel_rfl)) ?_)
  have p_c18 := h_c18; try simp [-List.getD_eq_getElem?_getD] at p_c18
  exact Gx.ret_as (v' := .tuple #[.int .i64 (((bif numOk s 0 s.size then dval s 0 s.size else 0) : Nat) : Int), .bool (numOk s 0 s.size)]) (by have e : k = s.size := (by omega); subst e; rw [numOk_yes (s := s) (j := 0) (e := s.size) (by omega) (by show dval s 0 s.size ≤ maxInt; unfold maxInt; omega), hv]; rfl) (hK _ ((Gx.Ext.refl w).trans x1))
set_option maxHeartbeats 400000 in
set_option maxRecDepth 10000 in
theorem rNext_c (s : ByteArray) (i : Nat) (w : World) (K : Ending → World → Prop) (hs : s.size ≤ 3000) (hi : i ≤ s.size) (hK : ∀ w', Gx.Ext w w' → K (.returned (Nx.V (next s i))) w') :
    Calls Tryz.prog 43 #[.string s, Z.n i] w K := by
  refine Gx.enter 144 Tryz.func43 rfl rfl (Nat.le_of_ble_eq_true rfl) ?_
  have hi1 := le_pass s i
  have hi2 := pass_le s i hi
  refine Z.r [0, 1, 2] ?_
  refine Z.N (.cells #[.int .i64 0, .int .i64 0, .string Z.E, .int .i64 0] 89) (fun k1 w1 l1 x1 b1 zw1 tb1 => ?_)
  refine Z.p [1] [2] [(5, .int .i64 0)] ?_
  refine Z.N (.cells #[.int .i64 0, .int .i64 0] 35) (fun k2 w2 l2 x2 b2 zw2 tb2 => ?_)
  refine Z.e (Z.r [0, 1, 2, 3] ?_)
  refine Z.p [0, 1] [2, 3] [(14, Z.n i), (13, .string s)] ?_
  refine Z.k (fun R hR => pass_c s i _ R hs (by omega) (fun w3 x3  => hR _ _ ?_))
  have zw3 := x3.size
  refine Z.p [3] [] [(1, .int .i64 ((pass s i : Nat) : Int))] ?_
  refine Z.e (wp_seq (Z.s [(19, .bool (decide (((pass s i : Nat) : Int) ≥ ((s.size : Nat) : Int)))), (18, Z.n s.size), (17, .string s), (16, .int .i64 ((pass s i : Nat) : Int))] ?_))
  refine Z.c (decide (((pass s i : Nat) : Int) ≥ ((s.size : Nat) : Int))) (fun h_c19 => ?_) (fun h_c19 => ?_)
  · skip
    refine Z.r [0, 1, 2, 3, 4, 5, 6, 7, 8] ?_
    refine Z.p [0, 1, 2, 3, 4, 5] [6, 7, 8] [(25, .agg #[.int .i64 0, .int .i64 0]), (24, Z.n s.size), (23, .string s), (22, .agg #[.int .i64 0, Z.n s.size, .string Z.E, .int .i64 0]), (21, Z.n s.size), (20, .string s)] ?_
    refine Z.Sa #[.int .i64 0, Z.n s.size, .string Z.E, .int .i64 0] ((b1.ext x2).ext x3) (fun w4 u1 b3 zw4 => ?_)
    refine Z.p [7] [8] [(5, Z.n s.size)] ?_
    have p_c19 := h_c19; try simp [-List.getD_eq_getElem?_getD] at p_c19
    refine Z.Sa #[.int .i64 0, .int .i64 0] ((b2.ext x3).upd1 u1) (fun w5 u2 b4 zw5 => ?_)
    refine Z.e (wp_ret (Gx.then_ret (Gx.ret (Gx.res_ctc (u := .agg #[.int .i64 0, Z.n s.size, .string Z.E, .int .i64 0]) (v := Z.n s.size) (x := .agg #[.int .i64 0, .int .i64 0]) rfl (by kernel_rfl) (by kernel_rfl) (b3.upd1 u2) (by kernel_rfl) (by kernel_rfl) b4 (by kernel_rfl)) ?_)))
    exact Gx.ret_as (v' := Nx.V (next s i)) (by unfold next; rw [if_neg (show ¬ pass s i < s.size by omega)]; rfl) (hK _ ((((((Gx.Ext.refl w).trans x1).trans x2).trans x3).upd1 u1).upd1 u2))
  refine wp_skip (Z.x (Z.s [(7, .int .i64 ((pass s i : Nat) : Int)), (26, .int .i64 ((pass s i : Nat) : Int))] ?_))
  refine wp_seq (Z.r [0, 1, 2, 3] ?_)
  refine Z.p [0, 1] [2, 3] [(28, .int .i64 ((pass s i : Nat) : Int)), (27, .string s)] ?_
  have p_c19 := h_c19; try simp [-List.getD_eq_getElem?_getD] at p_c19
  refine Gx.cons (Gx.op_index_str rfl (by kernel_rfl) rfl (by kernel_rfl) s .i64 (pass s i) (by kernel_rfl) (by kernel_rfl) (by omega) ?_)
  refine Z.k (fun R hR => digit_c (Gx.byteAt s (pass s i)) _ R  (hR _ _ ?_))
  refine Z.e (Z.c (digitB (Gx.byteAt s (pass s i))) (fun h_c30 => ?_) (fun h_c30 => ?_))
  · skip
    refine Gx.cut (d' := []) (n' := 144) (fun l' w' => l' = [(0, .string s), (1, .int .i64 ((pass s i : Nat) : Int)), (4, Z.P k1 0), (6, Z.P k2 0), (7, .int .i64 ((stop digitB s (pass s i) : Nat) : Int))] ∧ Gx.Ext w w' ∧ Gx.Has w' k1 (.cells #[.int .i64 0, .int .i64 0, .string Z.E, .int .i64 0] 89) ∧ Gx.Has w' k2 (.cells #[.int .i64 0, .int .i64 0] 35)) (fun K1 hK1 => ?_) (fun bb1 ll1 w6 hI1 => ?_)
    · skip
      refine wp_block ?_
      have p_c30 := h_c30; try simp [-List.getD_eq_getElem?_getD] at p_c30
      refine Gx.loop (n' := 144) (d' := []) (fun mz l' w' => ∃ (e : Nat), l' = [(0, .string s), (1, .int .i64 ((pass s i : Nat) : Int)), (4, Z.P k1 0), (6, Z.P k2 0), (7, Z.n e)] ∧ mz = s.size - e ∧ Gx.Ext w w' ∧ Gx.Has w' k1 (.cells #[.int .i64 0, .int .i64 0, .string Z.E, .int .i64 0] 89) ∧ Gx.Has w' k2 (.cells #[.int .i64 0, .int .i64 0] 35) ∧ (pass s i ≤ e ∧ e ≤ s.size) ∧ (stop digitB s e = stop digitB s (pass s i))) _ _ [(0, .string s), (1, .int .i64 ((pass s i : Nat) : Int)), (4, Z.P k1 0), (6, Z.P k2 0), (7, .int .i64 ((pass s i : Nat) : Int))] (Gx.forget [(0, .string s), (1, .int .i64 ((pass s i : Nat) : Int)), (4, Z.P k1 0), (6, Z.P k2 0), (7, .int .i64 ((pass s i : Nat) : Int))] (by kernel_rfl)) ⟨pass s i, rfl, rfl, ((((Gx.Ext.refl w).trans x1).trans x2).trans x3), ((b1.ext x2).ext x3), (b2.ext x3), (by omega), rfl⟩ (fun bb2 m1 ll2 w7 hI2 K2 hK2 => ?_)
      obtain ⟨e, rfl, rfl, x5, b5, b6, he, hst⟩ := hI2
      have zw7 := x5.size
      have tb5 := b5.lt
      have tb6 := b6.lt
      refine wp_seq (Gx.cut (d' := []) (n' := 144) (fun l' w' => l' = [(0, .string s), (1, .int .i64 ((pass s i : Nat) : Int)), (4, Z.P k1 0), (6, Z.P k2 0), (7, Z.n e), (40, .bool ((decide (((e : Nat) : Int) < ((s.size : Nat) : Int))) && (digitB (Gx.byteAt s e))))] ∧ w7 = w') (fun K3 hK3 => ?_) (fun bb3 ll3 w8 hI3 => ?_))
      · refine Z.g [0, 1, 2, 3, 4, 5, 6, 7, 8, 9] ?_
        refine Z.p [0, 1, 2, 3, 4] [5, 6, 7, 8, 9] [(35, .bool (decide (((e : Nat) : Int) < ((s.size : Nat) : Int)))), (34, .bool (decide (((e : Nat) : Int) < ((s.size : Nat) : Int)))), (33, Z.n s.size), (32, .string s), (31, Z.n e)] ?_
        refine Gx.split (decide (((e : Nat) : Int) < ((s.size : Nat) : Int))) (fun h_g35 => ?_) (fun h_g35 => ?_)
        · rw [h_g35]
          refine Z.p [5, 6] [7, 8, 9] [(37, Z.n e), (36, .string s)] ?_
          have p_g35 := h_g35; try simp [-List.getD_eq_getElem?_getD] at p_g35
          refine Gx.cons (Gx.op_index_str rfl (by kernel_rfl) rfl (by kernel_rfl) s .i64 e (by kernel_rfl) (by kernel_rfl) (by omega) ?_)
          refine Z.k (fun R hR => digit_c (Gx.byteAt s e) _ R  (hR _ _ ?_))
          refine Z.p [9] [] [(40, .bool (digitB (Gx.byteAt s e)))] ?_
          refine Z.e ?_
          rw [Gx.forget [(0, .string s), (1, .int .i64 ((pass s i : Nat) : Int)), (4, Z.P k1 0), (6, Z.P k2 0), (7, Z.n e), (40, .bool ((decide (((e : Nat) : Int) < ((s.size : Nat) : Int))) && (digitB (Gx.byteAt s e))))] (by rw [h_g35]; try kernel_rfl)]
          exact hK3 _ _ _ ⟨rfl, rfl⟩
        rw [h_g35]
        refine Z.p [5, 6, 7, 8, 9] [] [(40, .bool false), (39, undef), (38, undef), (37, undef), (36, undef)] ?_
        refine Z.e ?_
        rw [Gx.forget [(0, .string s), (1, .int .i64 ((pass s i : Nat) : Int)), (4, Z.P k1 0), (6, Z.P k2 0), (7, Z.n e), (40, .bool ((decide (((e : Nat) : Int) < ((s.size : Nat) : Int))) && (digitB (Gx.byteAt s e))))] (by rw [h_g35]; try kernel_rfl)]
        exact hK3 _ _ _ ⟨rfl, rfl⟩
      obtain ⟨rfl, rfl⟩ := hI3
      refine Z.c ((decide (((e : Nat) : Int) < ((s.size : Nat) : Int))) && (digitB (Gx.byteAt s e))) (fun h_c40 => ?_) (fun h_c40 => ?_)
      · skip
        refine wp_skip (Z.x (wp_block (Z.g [0, 1, 2] ?_)))
        refine Z.p [0] [1, 2] [(41, Z.n e)] ?_
        have p_c40 := h_c40; try simp [-List.getD_eq_getElem?_getD] at p_c40
        refine Gx.pure_eq [1] [2] [(42, .int .i64 (IntKind.i64.wrap (((e : Nat) : Int) + (1 : Int))))] [(42, .int .i64 ((e + 1 : Nat) : Int))] rfl (by kernel_rfl) (Gx.eqI (Gx.i64n (by omega) (by omega))) ?_
        refine Z.p [2] [] [(7, .int .i64 ((e + 1 : Nat) : Int))] ?_
        refine Gx.ops_nil (Gx.block_normal (Z.x ?_))
        rw [Gx.forget [(0, .string s), (1, .int .i64 ((pass s i : Nat) : Int)), (4, Z.P k1 0), (6, Z.P k2 0), (7, .int .i64 ((e + 1 : Nat) : Int))] (by kernel_rfl)]
        exact hK2 _ _ _ _ (by omega) ⟨e + 1, rfl, rfl, ((Gx.Ext.refl w).trans x5), b5, b6, (by omega), (by rw [← hst, stop_go (p := digitB) (s := s) (k := e) (by omega) (by simpa using p_c40.2)])⟩
      refine wp_exit (Gx.then_exit (Gx.then_exit (Gx.block_exit (Z.x ?_))))
      have p_c40 := h_c40; try simp [-List.getD_eq_getElem?_getD] at p_c40
      rw [Gx.forget [(0, .string s), (1, .int .i64 ((pass s i : Nat) : Int)), (4, Z.P k1 0), (6, Z.P k2 0), (7, .int .i64 ((stop digitB s (pass s i) : Nat) : Int))] (by rw [show stop digitB s (pass s i) = e from hst.symm.trans (stop_at (by simpa using h_c40))]; kernel_rfl)]
      exact hK1 _ _ _ ⟨rfl, ((Gx.Ext.refl w).trans x5), b5, b6⟩
    obtain ⟨rfl, x4, b7, b8⟩ := hI1
    have zw6 := x4.size
    have tb7 := b7.lt
    have tb8 := b8.lt
    have hc1 := le_stop digitB s (pass s i)
    have hc2 := stop_le digitB s (pass s i) hi2
    refine Z.r [0, 1, 2, 3, 4, 5, 6, 7, 8, 9] ?_
    refine Z.p [0, 1, 2] [3, 4, 5, 6, 7, 8, 9] [(46, .int .i64 ((stop digitB s (pass s i) : Nat) : Int)), (45, .int .i64 ((pass s i : Nat) : Int)), (44, .string s)] ?_
    have p_c30 := h_c30; try simp [-List.getD_eq_getElem?_getD] at p_c30
    refine Gx.cons (Gx.op_slice_str rfl (by kernel_rfl) rfl (by kernel_rfl) s (pass s i) (stop digitB s (pass s i)) (by kernel_rfl) (.inr ⟨.i64, (by kernel_rfl)⟩) (.inr ⟨.i64, (by kernel_rfl)⟩) (by omega) (by omega) ?_)
    refine Z.k (fun R hR => number_c (s.extract (pass s i) (stop digitB s (pass s i))) _ R (by rw [size_ext (stop_le digitB s (pass s i) hi2)]; omega) (digits_run s (pass s i) hi2) (fun w9 x6  => hR _ _ ?_))
    have zw9 := x6.size
    refine Z.p [5, 6, 7, 8, 9] [] [(9, .bool (numOk (s.extract (pass s i) (stop digitB s (pass s i))) 0 (s.extract (pass s i) (stop digitB s (pass s i))).size)), (8, .int .i64 ((bif numOk (s.extract (pass s i) (stop digitB s (pass s i))) 0 (s.extract (pass s i) (stop digitB s (pass s i))).size then dval (s.extract (pass s i) (stop digitB s (pass s i))) 0 (s.extract (pass s i) (stop digitB s (pass s i))).size else 0 : Nat) : Int)), (50, .bool (numOk (s.extract (pass s i) (stop digitB s (pass s i))) 0 (s.extract (pass s i) (stop digitB s (pass s i))).size)), (49, .int .i64 ((bif numOk (s.extract (pass s i) (stop digitB s (pass s i))) 0 (s.extract (pass s i) (stop digitB s (pass s i))).size then dval (s.extract (pass s i) (stop digitB s (pass s i))) 0 (s.extract (pass s i) (stop digitB s (pass s i))).size else 0 : Nat) : Int)), (43, .tuple #[.int .i64 ((bif numOk (s.extract (pass s i) (stop digitB s (pass s i))) 0 (s.extract (pass s i) (stop digitB s (pass s i))).size then dval (s.extract (pass s i) (stop digitB s (pass s i))) 0 (s.extract (pass s i) (stop digitB s (pass s i))).size else 0 : Nat) : Int), .bool (numOk (s.extract (pass s i) (stop digitB s (pass s i))) 0 (s.extract (pass s i) (stop digitB s (pass s i))).size)])] ?_
    refine Z.e (wp_seq (Z.s [(52, .bool (!(numOk (s.extract (pass s i) (stop digitB s (pass s i))) 0 (s.extract (pass s i) (stop digitB s (pass s i))).size))), (51, .bool (numOk (s.extract (pass s i) (stop digitB s (pass s i))) 0 (s.extract (pass s i) (stop digitB s (pass s i))).size))] ?_))
    refine Z.c (!(numOk (s.extract (pass s i) (stop digitB s (pass s i))) 0 (s.extract (pass s i) (stop digitB s (pass s i))).size)) (fun h_c52 => ?_) (fun h_c52 => ?_)
    · skip
      refine Z.r [0, 1, 2, 3, 4, 5] ?_
      refine Z.p [0, 1, 2] [3, 4, 5] [(55, .agg #[.int .i64 3, .int .i64 ((pass s i : Nat) : Int)]), (54, .int .i64 ((pass s i : Nat) : Int)), (53, .agg #[.int .i64 0, .int .i64 0, .string Z.E, .int .i64 0])] ?_
      refine Z.Sa #[.int .i64 0, .int .i64 0, .string Z.E, .int .i64 0] (b7.ext x6) (fun w10 u3 b9 zw10 => ?_)
      refine Z.p [4] [5] [(5, .int .i64 0)] ?_
      have p_c52 := h_c52; try simp [-List.getD_eq_getElem?_getD] at p_c52
      refine Z.Sa #[.int .i64 3, .int .i64 ((pass s i : Nat) : Int)] ((b8.ext x6).upd1 u3) (fun w11 u4 b10 zw11 => ?_)
      refine Z.e (wp_ret (Gx.then_ret (Gx.then_ret (Gx.ret (Gx.res_ctc (u := .agg #[.int .i64 0, .int .i64 0, .string Z.E, .int .i64 0]) (v := .int .i64 0) (x := .agg #[.int .i64 3, .int .i64 ((pass s i : Nat) : Int)]) rfl (by kernel_rfl) (by kernel_rfl) (b9.upd1 u4) (by kernel_rfl) (by kernel_rfl) b10 (by kernel_rfl)) ?_))))
      exact Gx.ret_as (v' := Nx.V (next s i)) (by unfold next; rw [if_pos (show pass s i < s.size by omega)]; unfold tokAt; rw [if_pos h_c30]; unfold numAt; rw [if_neg (by rw [← numOk_extract (le_stop _ _ _) (stop_le digitB s (pass s i) hi2)]; simpa using h_c52)]; rfl) (hK _ (((((Gx.Ext.refl w).trans x4).trans x6).upd1 u3).upd1 u4))
    refine wp_skip (Z.x (Z.r [0, 1, 2, 3, 4, 5, 6, 7] ?_))
    refine Z.p [0, 1, 2, 3, 4] [5, 6, 7] [(60, .agg #[.int .i64 0, .int .i64 0]), (59, .int .i64 ((stop digitB s (pass s i) : Nat) : Int)), (58, .agg #[.int .i64 1, .int .i64 ((pass s i : Nat) : Int), .string Z.E, .int .i64 ((bif numOk (s.extract (pass s i) (stop digitB s (pass s i))) 0 (s.extract (pass s i) (stop digitB s (pass s i))).size then dval (s.extract (pass s i) (stop digitB s (pass s i))) 0 (s.extract (pass s i) (stop digitB s (pass s i))).size else 0 : Nat) : Int)]), (57, .int .i64 ((bif numOk (s.extract (pass s i) (stop digitB s (pass s i))) 0 (s.extract (pass s i) (stop digitB s (pass s i))).size then dval (s.extract (pass s i) (stop digitB s (pass s i))) 0 (s.extract (pass s i) (stop digitB s (pass s i))).size else 0 : Nat) : Int)), (56, .int .i64 ((pass s i : Nat) : Int))] ?_
    refine Z.Sa #[.int .i64 1, .int .i64 ((pass s i : Nat) : Int), .string Z.E, .int .i64 ((bif numOk (s.extract (pass s i) (stop digitB s (pass s i))) 0 (s.extract (pass s i) (stop digitB s (pass s i))).size then dval (s.extract (pass s i) (stop digitB s (pass s i))) 0 (s.extract (pass s i) (stop digitB s (pass s i))).size else 0 : Nat) : Int)] (b7.ext x6) (fun w12 u5 b11 zw12 => ?_)
    refine Z.p [6] [7] [(5, .int .i64 ((stop digitB s (pass s i) : Nat) : Int))] ?_
    have p_c52 := h_c52; try simp [-List.getD_eq_getElem?_getD] at p_c52
    refine Z.Sa #[.int .i64 0, .int .i64 0] ((b8.ext x6).upd1 u5) (fun w13 u6 b12 zw13 => ?_)
    refine Z.e (wp_ret (Gx.then_ret (Gx.ret (Gx.res_ctc (u := .agg #[.int .i64 1, .int .i64 ((pass s i : Nat) : Int), .string Z.E, .int .i64 ((bif numOk (s.extract (pass s i) (stop digitB s (pass s i))) 0 (s.extract (pass s i) (stop digitB s (pass s i))).size then dval (s.extract (pass s i) (stop digitB s (pass s i))) 0 (s.extract (pass s i) (stop digitB s (pass s i))).size else 0 : Nat) : Int)]) (v := .int .i64 ((stop digitB s (pass s i) : Nat) : Int)) (x := .agg #[.int .i64 0, .int .i64 0]) rfl (by kernel_rfl) (by kernel_rfl) (b11.upd1 u6) (by kernel_rfl) (by kernel_rfl) b12 (by kernel_rfl)) ?_)))
    exact Gx.ret_as (v' := Nx.V (next s i)) (by unfold next; rw [if_pos (show pass s i < s.size by omega)]; unfold tokAt; rw [if_pos h_c30]; unfold numAt; rw [if_pos (by rw [← numOk_extract (le_stop _ _ _) (stop_le digitB s (pass s i) hi2)]; simpa using h_c52)]; rw [numV_extract (le_stop _ _ _) (stop_le digitB s (pass s i) hi2) (by simpa using h_c52)]; rfl) (hK _ (((((Gx.Ext.refl w).trans x4).trans x6).upd1 u5).upd1 u6))
  refine wp_skip (Z.x (wp_seq (Z.r [0, 1, 2, 3] ?_)))
  refine Z.p [0, 1] [2, 3] [(62, .int .i64 ((pass s i : Nat) : Int)), (61, .string s)] ?_
  have p_c30 := h_c30; try simp [-List.getD_eq_getElem?_getD] at p_c30
  refine Gx.cons (Gx.op_index_str rfl (by kernel_rfl) rfl (by kernel_rfl) s .i64 (pass s i) (by kernel_rfl) (by kernel_rfl) (by omega) ?_)
  refine Z.k (fun R hR => letter_c (Gx.byteAt s (pass s i)) _ R  (hR _ _ ?_))
  refine Z.e (Z.c (letterB (Gx.byteAt s (pass s i))) (fun h_c64 => ?_) (fun h_c64 => ?_))
  · skip
    refine Gx.cut (d' := []) (n' := 144) (fun l' w' => l' = [(0, .string s), (1, .int .i64 ((pass s i : Nat) : Int)), (4, Z.P k1 0), (6, Z.P k2 0), (7, .int .i64 ((stop (fun c => letterB c || digitB c) s (pass s i) : Nat) : Int))] ∧ Gx.Ext w w' ∧ Gx.Has w' k1 (.cells #[.int .i64 0, .int .i64 0, .string Z.E, .int .i64 0] 89) ∧ Gx.Has w' k2 (.cells #[.int .i64 0, .int .i64 0] 35)) (fun K4 hK4 => ?_) (fun bb4 ll4 w14 hI4 => ?_)
    · skip
      refine wp_block ?_
      have p_c64 := h_c64; try simp [-List.getD_eq_getElem?_getD] at p_c64
      refine Gx.loop (n' := 144) (d' := []) (fun mz l' w' => ∃ (e : Nat), l' = [(0, .string s), (1, .int .i64 ((pass s i : Nat) : Int)), (4, Z.P k1 0), (6, Z.P k2 0), (7, Z.n e)] ∧ mz = s.size - e ∧ Gx.Ext w w' ∧ Gx.Has w' k1 (.cells #[.int .i64 0, .int .i64 0, .string Z.E, .int .i64 0] 89) ∧ Gx.Has w' k2 (.cells #[.int .i64 0, .int .i64 0] 35) ∧ (pass s i ≤ e ∧ e ≤ s.size) ∧ (stop (fun c => letterB c || digitB c) s e = stop (fun c => letterB c || digitB c) s (pass s i))) _ _ [(0, .string s), (1, .int .i64 ((pass s i : Nat) : Int)), (4, Z.P k1 0), (6, Z.P k2 0), (7, .int .i64 ((pass s i : Nat) : Int))] (Gx.forget [(0, .string s), (1, .int .i64 ((pass s i : Nat) : Int)), (4, Z.P k1 0), (6, Z.P k2 0), (7, .int .i64 ((pass s i : Nat) : Int))] (by kernel_rfl)) ⟨pass s i, rfl, rfl, ((((Gx.Ext.refl w).trans x1).trans x2).trans x3), ((b1.ext x2).ext x3), (b2.ext x3), (by omega), rfl⟩ (fun bb5 m2 ll5 w15 hI5 K5 hK5 => ?_)
      obtain ⟨e, rfl, rfl, x8, b13, b14, he, hst⟩ := hI5
      have zw15 := x8.size
      have tb13 := b13.lt
      have tb14 := b14.lt
      refine wp_seq (Gx.cut (d' := []) (n' := 144) (fun l' w' => l' = [(0, .string s), (1, .int .i64 ((pass s i : Nat) : Int)), (4, Z.P k1 0), (6, Z.P k2 0), (7, Z.n e), (80, .bool ((decide (((e : Nat) : Int) < ((s.size : Nat) : Int))) && ((letterB (Gx.byteAt s e)) || (digitB (Gx.byteAt s e)))))] ∧ w15 = w') (fun K6 hK6 => ?_) (fun bb6 ll6 w16 hI6 => ?_))
      · refine Z.g [0, 1, 2, 3, 4, 5, 6, 7, 8, 9, 10, 11, 12, 13, 14, 15] ?_
        refine Z.p [0, 1, 2, 3, 4] [5, 6, 7, 8, 9, 10, 11, 12, 13, 14, 15] [(69, .bool (decide (((e : Nat) : Int) < ((s.size : Nat) : Int)))), (68, .bool (decide (((e : Nat) : Int) < ((s.size : Nat) : Int)))), (67, Z.n s.size), (66, .string s), (65, Z.n e)] ?_
        refine Gx.split (decide (((e : Nat) : Int) < ((s.size : Nat) : Int))) (fun h_g69 => ?_) (fun h_g69 => ?_)
        · rw [h_g69]
          refine Z.p [5, 6] [7, 8, 9, 10, 11, 12, 13, 14, 15] [(71, Z.n e), (70, .string s)] ?_
          have p_g69 := h_g69; try simp [-List.getD_eq_getElem?_getD] at p_g69
          refine Gx.cons (Gx.op_index_str rfl (by kernel_rfl) rfl (by kernel_rfl) s .i64 e (by kernel_rfl) (by kernel_rfl) (by omega) ?_)
          refine Z.k (fun R hR => letter_c (Gx.byteAt s e) _ R  (hR _ _ ?_))
          refine Z.p [9] [10, 11, 12, 13, 14, 15] [(74, .bool (letterB (Gx.byteAt s e)))] ?_
          refine Gx.split (letterB (Gx.byteAt s e)) (fun h_g74 => ?_) (fun h_g74 => ?_)
          · rw [h_g74]
            refine Z.p [10, 11, 12, 13, 14, 15] [] [(80, .bool true), (79, .bool true), (78, undef), (77, undef), (76, undef), (75, undef)] ?_
            refine Z.e ?_
            rw [Gx.forget [(0, .string s), (1, .int .i64 ((pass s i : Nat) : Int)), (4, Z.P k1 0), (6, Z.P k2 0), (7, Z.n e), (80, .bool ((decide (((e : Nat) : Int) < ((s.size : Nat) : Int))) && ((letterB (Gx.byteAt s e)) || (digitB (Gx.byteAt s e)))))] (by rw [h_g69, h_g74]; try kernel_rfl)]
            exact hK6 _ _ _ ⟨rfl, rfl⟩
          rw [h_g74]
          refine Z.p [10, 11] [12, 13, 14, 15] [(76, Z.n e), (75, .string s)] ?_
          have p_g74 := h_g74; try simp [-List.getD_eq_getElem?_getD] at p_g74
          refine Gx.cons (Gx.op_index_str rfl (by kernel_rfl) rfl (by kernel_rfl) s .i64 e (by kernel_rfl) (by kernel_rfl) (by omega) ?_)
          refine Z.k (fun R hR => digit_c (Gx.byteAt s e) _ R  (hR _ _ ?_))
          refine Z.p [14, 15] [] [(80, .bool (digitB (Gx.byteAt s e))), (79, .bool (digitB (Gx.byteAt s e)))] ?_
          refine Z.e ?_
          rw [Gx.forget [(0, .string s), (1, .int .i64 ((pass s i : Nat) : Int)), (4, Z.P k1 0), (6, Z.P k2 0), (7, Z.n e), (80, .bool ((decide (((e : Nat) : Int) < ((s.size : Nat) : Int))) && ((letterB (Gx.byteAt s e)) || (digitB (Gx.byteAt s e)))))] (by rw [h_g69, h_g74]; try kernel_rfl)]
          exact hK6 _ _ _ ⟨rfl, rfl⟩
        rw [h_g69]
        refine Z.p [5, 6, 7, 8, 9, 10, 11, 12, 13, 14, 15] [] [(80, .bool false), (79, undef), (78, undef), (77, undef), (76, undef), (75, undef), (74, undef), (73, undef), (72, undef), (71, undef), (70, undef)] ?_
        refine Z.e ?_
        rw [Gx.forget [(0, .string s), (1, .int .i64 ((pass s i : Nat) : Int)), (4, Z.P k1 0), (6, Z.P k2 0), (7, Z.n e), (80, .bool ((decide (((e : Nat) : Int) < ((s.size : Nat) : Int))) && ((letterB (Gx.byteAt s e)) || (digitB (Gx.byteAt s e)))))] (by rw [h_g69]; try kernel_rfl)]
        exact hK6 _ _ _ ⟨rfl, rfl⟩
      obtain ⟨rfl, rfl⟩ := hI6
      refine Z.c ((decide (((e : Nat) : Int) < ((s.size : Nat) : Int))) && ((letterB (Gx.byteAt s e)) || (digitB (Gx.byteAt s e)))) (fun h_c80 => ?_) (fun h_c80 => ?_)
      · skip
        refine wp_skip (Z.x (wp_block (Z.g [0, 1, 2] ?_)))
        refine Z.p [0] [1, 2] [(81, Z.n e)] ?_
        have p_c80 := h_c80; try simp [-List.getD_eq_getElem?_getD] at p_c80
        refine Gx.pure_eq [1] [2] [(82, .int .i64 (IntKind.i64.wrap (((e : Nat) : Int) + (1 : Int))))] [(82, .int .i64 ((e + 1 : Nat) : Int))] rfl (by kernel_rfl) (Gx.eqI (Gx.i64n (by omega) (by omega))) ?_
        refine Z.p [2] [] [(7, .int .i64 ((e + 1 : Nat) : Int))] ?_
        refine Gx.ops_nil (Gx.block_normal (Z.x ?_))
        rw [Gx.forget [(0, .string s), (1, .int .i64 ((pass s i : Nat) : Int)), (4, Z.P k1 0), (6, Z.P k2 0), (7, .int .i64 ((e + 1 : Nat) : Int))] (by kernel_rfl)]
        exact hK5 _ _ _ _ (by omega) ⟨e + 1, rfl, rfl, ((Gx.Ext.refl w).trans x8), b13, b14, (by omega), (by rw [← hst, stop_go (p := (fun c => letterB c || digitB c)) (s := s) (k := e) (by omega) (by simpa using p_c80.2)])⟩
      refine wp_exit (Gx.then_exit (Gx.then_exit (Gx.block_exit (Z.x ?_))))
      have p_c80 := h_c80; try simp [-List.getD_eq_getElem?_getD] at p_c80
      rw [Gx.forget [(0, .string s), (1, .int .i64 ((pass s i : Nat) : Int)), (4, Z.P k1 0), (6, Z.P k2 0), (7, .int .i64 ((stop (fun c => letterB c || digitB c) s (pass s i) : Nat) : Int))] (by rw [show stop (fun c => letterB c || digitB c) s (pass s i) = e from hst.symm.trans (stop_at (by simpa using h_c80))]; kernel_rfl)]
      exact hK4 _ _ _ ⟨rfl, ((Gx.Ext.refl w).trans x8), b13, b14⟩
    obtain ⟨rfl, x7, b15, b16⟩ := hI4
    have zw14 := x7.size
    have tb15 := b15.lt
    have tb16 := b16.lt
    refine wp_seq ?_
    have hc1 := le_stop (fun c => letterB c || digitB c) s (pass s i)
    have hc2 := stop_le (fun c => letterB c || digitB c) s (pass s i) hi2
    refine Z.r [0, 1, 2, 3] ?_
    refine Z.p [0, 1] [2, 3] [(84, .int .i64 ((pass s i : Nat) : Int)), (83, .int .i64 ((stop (fun c => letterB c || digitB c) s (pass s i) : Nat) : Int))] ?_
    have p_c64 := h_c64; try simp [-List.getD_eq_getElem?_getD] at p_c64
    refine Gx.pure_eq [2] [3] [(85, .int .i64 (IntKind.i64.wrap (((stop (fun c => letterB c || digitB c) s (pass s i) : Nat) : Int) - ((pass s i : Nat) : Int))))] [(85, .int .i64 (((stop (fun c => letterB c || digitB c) s (pass s i) : Nat) : Int) - ((pass s i : Nat) : Int)))] rfl (by kernel_rfl) (Gx.eqI (IntWalk.i64_in _ (by omega))) ?_
    refine Z.p [3] [] [(86, .bool (decide ((((stop (fun c => letterB c || digitB c) s (pass s i) : Nat) : Int) - ((pass s i : Nat) : Int)) > (20 : Int))))] ?_
    refine Z.e (Z.c (decide ((((stop (fun c => letterB c || digitB c) s (pass s i) : Nat) : Int) - ((pass s i : Nat) : Int)) > (20 : Int))) (fun h_c86 => ?_) (fun h_c86 => ?_))
    · skip
      refine Z.r [0, 1, 2, 3, 4, 5] ?_
      refine Z.p [0, 1, 2] [3, 4, 5] [(89, .agg #[.int .i64 3, .int .i64 ((pass s i : Nat) : Int)]), (88, .int .i64 ((pass s i : Nat) : Int)), (87, .agg #[.int .i64 0, .int .i64 0, .string Z.E, .int .i64 0])] ?_
      refine Z.Sa #[.int .i64 0, .int .i64 0, .string Z.E, .int .i64 0] b15 (fun w17 u7 b17 zw17 => ?_)
      refine Z.p [4] [5] [(5, .int .i64 0)] ?_
      have p_c86 := h_c86; try simp [-List.getD_eq_getElem?_getD] at p_c86
      refine Z.Sa #[.int .i64 3, .int .i64 ((pass s i : Nat) : Int)] (b16.upd1 u7) (fun w18 u8 b18 zw18 => ?_)
      refine Z.e (wp_ret (Gx.then_ret (Gx.then_ret (Gx.ret (Gx.res_ctc (u := .agg #[.int .i64 0, .int .i64 0, .string Z.E, .int .i64 0]) (v := .int .i64 0) (x := .agg #[.int .i64 3, .int .i64 ((pass s i : Nat) : Int)]) rfl (by kernel_rfl) (by kernel_rfl) (b17.upd1 u8) (by kernel_rfl) (by kernel_rfl) b18 (by kernel_rfl)) ?_))))
      exact Gx.ret_as (v' := Nx.V (next s i)) (by unfold next; rw [if_pos (show pass s i < s.size by omega)]; unfold tokAt; rw [if_neg (by rw [h_c30]; simp)]; rw [if_pos h_c64]; unfold nameAt; rw [if_pos (by omega)]; rfl) (hK _ ((((Gx.Ext.refl w).trans x7).upd1 u7).upd1 u8))
    refine wp_skip (Z.x (Z.s [(10, .int .i64 2)] ?_))
    refine wp_seq (Z.r [0, 1, 2, 3, 4] ?_)
    refine Z.p [0, 1, 2] [3, 4] [(92, .int .i64 ((stop (fun c => letterB c || digitB c) s (pass s i) : Nat) : Int)), (91, .int .i64 ((pass s i : Nat) : Int)), (90, .string s)] ?_
    have p_c86 := h_c86; try simp [-List.getD_eq_getElem?_getD] at p_c86
    refine Gx.cons (Gx.op_slice_str rfl (by kernel_rfl) rfl (by kernel_rfl) s (pass s i) (stop (fun c => letterB c || digitB c) s (pass s i)) (by kernel_rfl) (.inr ⟨.i64, (by kernel_rfl)⟩) (.inr ⟨.i64, (by kernel_rfl)⟩) (by omega) (by omega) ?_)
    refine Z.k (fun R hR => IsWord_c (s.extract (pass s i) (stop (fun c => letterB c || digitB c) s (pass s i))) _ R  (fun w19 x9  => hR _ _ ?_))
    have zw19 := x9.size
    refine Z.e (Z.c (wordB (s.extract (pass s i) (stop (fun c => letterB c || digitB c) s (pass s i)))) (fun h_c94 => ?_) (fun h_c94 => ?_))
    · skip
      refine Z.u [(10, .int .i64 3)] ?_
      refine Z.x (Z.r [0, 1, 2, 3, 4, 5, 6, 7, 8, 9, 10, 11] ?_)
      refine Z.p [0, 1, 2, 3, 4] [5, 6, 7, 8, 9, 10, 11] [(99, .int .i64 ((stop (fun c => letterB c || digitB c) s (pass s i) : Nat) : Int)), (98, .int .i64 ((pass s i : Nat) : Int)), (97, .string s), (96, .int .i64 ((pass s i : Nat) : Int)), (95, .int .i64 3)] ?_
      have p_c94 := h_c94; try simp [-List.getD_eq_getElem?_getD] at p_c94
      refine Gx.cons (Gx.op_slice_str rfl (by kernel_rfl) rfl (by kernel_rfl) s (pass s i) (stop (fun c => letterB c || digitB c) s (pass s i)) (by kernel_rfl) (.inr ⟨.i64, (by kernel_rfl)⟩) (.inr ⟨.i64, (by kernel_rfl)⟩) (by omega) (by omega) ?_)
      refine Z.p [6, 7, 8] [9, 10, 11] [(103, .agg #[.int .i64 0, .int .i64 0]), (102, .int .i64 ((stop (fun c => letterB c || digitB c) s (pass s i) : Nat) : Int)), (101, .agg #[.int .i64 3, .int .i64 ((pass s i : Nat) : Int), .string (s.extract (pass s i) (stop (fun c => letterB c || digitB c) s (pass s i))), .int .i64 0])] ?_
      refine Z.Sa #[.int .i64 3, .int .i64 ((pass s i : Nat) : Int), .string (s.extract (pass s i) (stop (fun c => letterB c || digitB c) s (pass s i))), .int .i64 0] (b15.ext x9) (fun w20 u9 b19 zw20 => ?_)
      refine Z.p [10] [11] [(5, .int .i64 ((stop (fun c => letterB c || digitB c) s (pass s i) : Nat) : Int))] ?_
      refine Z.Sa #[.int .i64 0, .int .i64 0] ((b16.ext x9).upd1 u9) (fun w21 u10 b20 zw21 => ?_)
      refine Z.e (wp_ret (Gx.then_ret (Gx.ret (Gx.res_ctc (u := .agg #[.int .i64 3, .int .i64 ((pass s i : Nat) : Int), .string (s.extract (pass s i) (stop (fun c => letterB c || digitB c) s (pass s i))), .int .i64 0]) (v := .int .i64 ((stop (fun c => letterB c || digitB c) s (pass s i) : Nat) : Int)) (x := .agg #[.int .i64 0, .int .i64 0]) rfl (by kernel_rfl) (by kernel_rfl) (b19.upd1 u10) (by kernel_rfl) (by kernel_rfl) b20 (by kernel_rfl)) ?_)))
      exact Gx.ret_as (v' := Nx.V (next s i)) (by unfold next; rw [if_pos (show pass s i < s.size by omega)]; unfold tokAt; rw [if_neg (by rw [h_c30]; simp)]; rw [if_pos h_c64]; unfold nameAt; rw [if_neg (by omega)]; rw [if_pos h_c94]; rfl) (hK _ (((((Gx.Ext.refl w).trans x7).trans x9).upd1 u9).upd1 u10))
    refine wp_skip (Z.x (Z.r [0, 1, 2, 3, 4, 5, 6, 7, 8, 9, 10, 11] ?_))
    refine Z.p [0, 1, 2, 3, 4] [5, 6, 7, 8, 9, 10, 11] [(99, .int .i64 ((stop (fun c => letterB c || digitB c) s (pass s i) : Nat) : Int)), (98, .int .i64 ((pass s i : Nat) : Int)), (97, .string s), (96, .int .i64 ((pass s i : Nat) : Int)), (95, .int .i64 2)] ?_
    have p_c94 := h_c94; try simp [-List.getD_eq_getElem?_getD] at p_c94
    refine Gx.cons (Gx.op_slice_str rfl (by kernel_rfl) rfl (by kernel_rfl) s (pass s i) (stop (fun c => letterB c || digitB c) s (pass s i)) (by kernel_rfl) (.inr ⟨.i64, (by kernel_rfl)⟩) (.inr ⟨.i64, (by kernel_rfl)⟩) (by omega) (by omega) ?_)
    refine Z.p [6, 7, 8] [9, 10, 11] [(103, .agg #[.int .i64 0, .int .i64 0]), (102, .int .i64 ((stop (fun c => letterB c || digitB c) s (pass s i) : Nat) : Int)), (101, .agg #[.int .i64 2, .int .i64 ((pass s i : Nat) : Int), .string (s.extract (pass s i) (stop (fun c => letterB c || digitB c) s (pass s i))), .int .i64 0])] ?_
    refine Z.Sa #[.int .i64 2, .int .i64 ((pass s i : Nat) : Int), .string (s.extract (pass s i) (stop (fun c => letterB c || digitB c) s (pass s i))), .int .i64 0] (b15.ext x9) (fun w22 u11 b21 zw22 => ?_)
    refine Z.p [10] [11] [(5, .int .i64 ((stop (fun c => letterB c || digitB c) s (pass s i) : Nat) : Int))] ?_
    refine Z.Sa #[.int .i64 0, .int .i64 0] ((b16.ext x9).upd1 u11) (fun w23 u12 b22 zw23 => ?_)
    refine Z.e (wp_ret (Gx.then_ret (Gx.ret (Gx.res_ctc (u := .agg #[.int .i64 2, .int .i64 ((pass s i : Nat) : Int), .string (s.extract (pass s i) (stop (fun c => letterB c || digitB c) s (pass s i))), .int .i64 0]) (v := .int .i64 ((stop (fun c => letterB c || digitB c) s (pass s i) : Nat) : Int)) (x := .agg #[.int .i64 0, .int .i64 0]) rfl (by kernel_rfl) (by kernel_rfl) (b21.upd1 u12) (by kernel_rfl) (by kernel_rfl) b22 (by kernel_rfl)) ?_)))
    exact Gx.ret_as (v' := Nx.V (next s i)) (by unfold next; rw [if_pos (show pass s i < s.size by omega)]; unfold tokAt; rw [if_neg (by rw [h_c30]; simp)]; rw [if_pos h_c64]; unfold nameAt; rw [if_neg (by omega)]; rw [if_neg (by rw [h_c94]; simp)]; rfl) (hK _ (((((Gx.Ext.refl w).trans x7).trans x9).upd1 u11).upd1 u12))
  refine wp_skip (Z.x (Z.r [0, 1] ?_))
  refine Z.k (fun R hR => signs_c  _ R  (fun w24 x10 k3 l3 b23 => hR _ _ ?_))
  have zw24 := x10.size
  have tb23 := b23.lt
  refine Z.p [1] [] [(11, .slice (some ⟨k3, 0, none⟩) 20 20)] ?_
  refine Z.e (wp_seq (Z.s [(12, .int .i64 0)] ?_))
  refine wp_block ?_
  have p_c64 := h_c64; try simp [-List.getD_eq_getElem?_getD] at p_c64
  refine Gx.loop (n' := 144) (d' := []) (fun mz l' w' => ∃ (q : Nat), l' = [(0, .string s), (1, .int .i64 ((pass s i : Nat) : Int)), (4, Z.P k1 0), (6, Z.P k2 0), (11, .slice (some ⟨k3, 0, none⟩) 20 20), (12, Z.n q)] ∧ mz = 20 - q ∧ Gx.Ext w w' ∧ Gx.Has w' k1 (.cells #[.int .i64 0, .int .i64 0, .string Z.E, .int .i64 0] 89) ∧ Gx.Has w' k2 (.cells #[.int .i64 0, .int .i64 0] 35) ∧ Gx.Has w' k3 (.cells (Gx.strA signsL) 9) ∧ (q ≤ 20) ∧ (∀ r, r < q → signAt s (pass s i) r = false)) _ _ [(0, .string s), (1, .int .i64 ((pass s i : Nat) : Int)), (4, Z.P k1 0), (6, Z.P k2 0), (11, .slice (some ⟨k3, 0, none⟩) 20 20), (12, Z.n 0)] (Gx.forget [(0, .string s), (1, .int .i64 ((pass s i : Nat) : Int)), (4, Z.P k1 0), (6, Z.P k2 0), (11, .slice (some ⟨k3, 0, none⟩) 20 20), (12, Z.n 0)] (by kernel_rfl)) ⟨0, rfl, rfl, (((((Gx.Ext.refl w).trans x1).trans x2).trans x3).trans x10), (((b1.ext x2).ext x3).ext x10), ((b2.ext x3).ext x10), b23, (by omega), (by intro r hr; omega)⟩ (fun bb7 m3 ll7 w25 hI7 K7 hK7 => ?_)
  obtain ⟨q, rfl, rfl, x11, b24, b25, b26, hq, hn⟩ := hI7
  have zw25 := x11.size
  have tb24 := b24.lt
  have tb25 := b25.lt
  have tb26 := b26.lt
  refine wp_seq (Z.s [(108, .bool (decide (((q : Nat) : Int) < (20 : Int)))), (107, .int .i64 20), (106, .slice (some ⟨k3, 0, none⟩) 20 20), (105, Z.n q)] ?_)
  refine Z.c (decide (((q : Nat) : Int) < (20 : Int))) (fun h_c108 => ?_) (fun h_c108 => ?_)
  · skip
    refine wp_skip (Z.x (wp_seq (wp_block ?_)))
    have p_c108 := h_c108; try simp [-List.getD_eq_getElem?_getD] at p_c108
    have hsz : (Gx.gs signsL q).size ≤ 2 := by rw [signs_len q (by omega)]; split <;> omega
    refine Z.r [0, 1, 2, 3, 4, 5, 6, 7] ?_
    refine Z.p [0, 1, 2] [3, 4, 5, 6, 7] [(113, Z.n q), (112, .slice (some ⟨k3, 0, none⟩) 20 20), (111, .int .i64 ((pass s i : Nat) : Int))] ?_
    refine Gx.cons (Gx.op_indexAddr (bk := k3) rfl (by kernel_rfl) rfl 9 1 (by kernel_rfl) (by kernel_rfl) 0 20 20 (by kernel_rfl) .i64 q (by kernel_rfl) (by omega) ?_)
    refine Gx.cons (Gx.op_load rfl (by kernel_rfl) rfl (0 + q * 1) (.string (Gx.gs signsL q)) (by kernel_rfl) b26 (Gx.loadB_strA (by kernel_rfl) (show q < 20 by omega)) ?_)
    refine Z.p [5] [6, 7] [(116, .int .i64 (((Gx.gs signsL q).size : Nat) : Int))] ?_
    refine Gx.pure_eq [6] [7] [(117, .int .i64 (IntKind.i64.wrap (((pass s i : Nat) : Int) + (((Gx.gs signsL q).size : Nat) : Int))))] [(117, .int .i64 (((pass s i) + ((Gx.gs signsL q).size) : Nat) : Int))] rfl (by kernel_rfl) (Gx.eqI (Gx.i64n (by omega) (by omega))) ?_
    refine Z.p [7] [] [(7, .int .i64 (((pass s i) + ((Gx.gs signsL q).size) : Nat) : Int))] ?_
    refine Z.e (wp_seq (Gx.splitC (decide ((((pass s i) + ((Gx.gs signsL q).size) : Nat) : Int) ≤ ((s.size : Nat) : Int))) (fun h_d1 => ?_) (fun h_d1 => ?_)))
    · skip
      refine Z.D (fun w' => Gx.Has w' k3 (.cells (Gx.strA signsL) 9)) (fun w26 x12 zw26 => ?_)
      refine Z.h (b26.ext x12) (fun hS1 => ?_)
      refine Z.t 0 (.int .i64 (((pass s i) + ((Gx.gs signsL q).size) : Nat) : Int)) hS1 ?_
      refine Z.t 1 (.string s) hS1 ?_
      refine Z.t 2 (Z.n s.size) hS1 ?_
      refine Gx.any_take_as 3 (.bool (decide ((((pass s i) + ((Gx.gs signsL q).size) : Nat) : Int) ≤ ((s.size : Nat) : Int)))) (.bool true) (by rw [h_d1]) rfl (by kernel_rfl) (by kernel_rfl) (by kernel_rfl) (fun _ _ _ h => h) (b26.ext x12) (by kernel_rfl) (fun _ _ => (by kernel_rfl)) ?_
      refine Z.h (b26.ext x12) (fun hS2 => ?_)
      refine Z.t 4 (.bool true) hS2 ?_
      refine Z.t 5 (.string s) hS2 ?_
      refine Z.t 6 (.int .i64 ((pass s i : Nat) : Int)) hS2 ?_
      refine Z.t 7 (.int .i64 (((pass s i) + ((Gx.gs signsL q).size) : Nat) : Int)) hS2 ?_
      have p_d1 := h_d1; try simp [-List.getD_eq_getElem?_getD] at p_d1
      refine Gx.any_take 8 (.string (s.extract (pass s i) ((pass s i) + ((Gx.gs signsL q).size)))) rfl (by kernel_rfl) (by kernel_rfl) (by kernel_rfl) (fun _ _ _ h => h) (b26.ext x12) (by kernel_rfl) (fun _ _ => Gx.run_slice_str' rfl (by kernel_rfl) s (pass s i) ((pass s i) + ((Gx.gs signsL q).size)) (by kernel_rfl) (.inr ⟨.i64, (by kernel_rfl)⟩) (.inr ⟨.i64, (by kernel_rfl)⟩) (by omega) (by omega)) ?_
      refine Z.h (b26.ext x12) (fun hS3 => ?_)
      refine Z.t 9 (.slice (some ⟨k3, 0, none⟩) 20 20) hS3 ?_
      refine Z.t 10 (Z.n q) hS3 ?_
      refine Gx.any_take 11 (.pointer (some ⟨k3, 0 + q * 1, none⟩)) rfl (by kernel_rfl) (by kernel_rfl) (by kernel_rfl) (fun _ _ _ h => h) (b26.ext x12) (by kernel_rfl) (fun _ _ => Gx.run_indexAddr rfl 9 1 (by kernel_rfl) (by kernel_rfl) 0 20 20 (by kernel_rfl) .i64 q (by kernel_rfl) (by omega)) ?_
      refine Gx.any_take 12 (.string (Gx.gs signsL q)) rfl (by kernel_rfl) (by kernel_rfl) (by kernel_rfl) (fun _ _ _ h => h) (b26.ext x12) (by kernel_rfl) (fun _ hs => Gx.run_load rfl (0 + q * 1) (.string (Gx.gs signsL q)) (by kernel_rfl) hs (Gx.loadB_strA (by kernel_rfl) (show q < 20 by omega))) ?_
      refine Z.h (b26.ext x12) (fun hS4 => ?_)
      refine Z.t 13 (.bool ((s.extract (pass s i) ((pass s i) + ((Gx.gs signsL q).size))).toList == (Gx.gs signsL q).toList)) hS4 ?_
      refine Z.t 14 (.bool ((s.extract (pass s i) ((pass s i) + ((Gx.gs signsL q).size))).toList == (Gx.gs signsL q).toList)) hS4 ?_
      refine Z.q ?_
      refine Z.x (Z.c ((s.extract (pass s i) ((pass s i) + ((Gx.gs signsL q).size))).toList == (Gx.gs signsL q).toList) (fun h_c132 => ?_) (fun h_c132 => ?_))
      · skip
        refine Z.r [0, 1, 2, 3, 4, 5, 6, 7, 8, 9, 10] ?_
        refine Z.p [0, 1, 2] [3, 4, 5, 6, 7, 8, 9, 10] [(135, Z.n q), (134, .slice (some ⟨k3, 0, none⟩) 20 20), (133, .int .i64 ((pass s i : Nat) : Int))] ?_
        have p_c132 := h_c132; try simp [-List.getD_eq_getElem?_getD] at p_c132
        refine Gx.cons (Gx.op_indexAddr (bk := k3) rfl (by kernel_rfl) rfl 9 1 (by kernel_rfl) (by kernel_rfl) 0 20 20 (by kernel_rfl) .i64 q (by kernel_rfl) (by omega) ?_)
        refine Gx.cons (Gx.op_load rfl (by kernel_rfl) rfl (0 + q * 1) (.string (Gx.gs signsL q)) (by kernel_rfl) (b26.ext x12) (Gx.loadB_strA (by kernel_rfl) (show q < 20 by omega)) ?_)
        refine Z.p [5, 6, 7] [8, 9, 10] [(140, .agg #[.int .i64 0, .int .i64 0]), (139, .int .i64 (((pass s i) + ((Gx.gs signsL q).size) : Nat) : Int)), (138, .agg #[.int .i64 4, .int .i64 ((pass s i : Nat) : Int), .string (Gx.gs signsL q), .int .i64 0])] ?_
        refine Z.Sa #[.int .i64 4, .int .i64 ((pass s i : Nat) : Int), .string (Gx.gs signsL q), .int .i64 0] (b24.ext x12) (fun w27 u13 b27 zw27 => ?_)
        refine Z.p [9] [10] [(5, .int .i64 (((pass s i) + ((Gx.gs signsL q).size) : Nat) : Int))] ?_
        refine Z.Sa #[.int .i64 0, .int .i64 0] ((b25.ext x12).upd1 u13) (fun w28 u14 b28 zw28 => ?_)
        refine Z.e (wp_ret (Gx.block_ret (Gx.then_ret (Gx.then_ret (Gx.block_ret (Gx.then_ret (Gx.ret (Gx.res_ctc (u := .agg #[.int .i64 4, .int .i64 ((pass s i : Nat) : Int), .string (Gx.gs signsL q), .int .i64 0]) (v := .int .i64 (((pass s i) + ((Gx.gs signsL q).size) : Nat) : Int)) (x := .agg #[.int .i64 0, .int .i64 0]) rfl (by kernel_rfl) (by kernel_rfl) (b27.upd1 u14) (by kernel_rfl) (by kernel_rfl) b28 (by kernel_rfl)) ?_)))))))
        exact Gx.ret_as (v' := Nx.V (next s i)) (by have hy := sign_yes (s := s) (j := pass s i) (q := q) (by omega) hn (by unfold signAt; rw [h_d1, h_c132]; rfl); unfold next; rw [if_pos (show pass s i < s.size by omega)]; unfold tokAt; rw [if_neg (by rw [h_c30]; simp)]; rw [if_neg (by rw [h_c64]; simp)]; rw [if_pos hy.1, hy.2.1, hy.2.2]; rfl) (hK _ (((((Gx.Ext.refl w).trans x11).trans x12).upd1 u13).upd1 u14))
      refine wp_skip (Gx.block_normal (Z.x (Z.g [0, 1, 2] ?_)))
      refine Z.p [0] [1, 2] [(109, Z.n q)] ?_
      have p_c132 := h_c132; try simp [-List.getD_eq_getElem?_getD] at p_c132
      refine Gx.pure_eq [1] [2] [(110, .int .i64 (IntKind.i64.wrap (((q : Nat) : Int) + (1 : Int))))] [(110, .int .i64 ((q + 1 : Nat) : Int))] rfl (by kernel_rfl) (Gx.eqI (Gx.i64n (by omega) (by omega))) ?_
      refine Z.p [2] [] [(12, .int .i64 ((q + 1 : Nat) : Int))] ?_
      refine Gx.ops_nil (Z.x ?_)
      rw [Gx.forget [(0, .string s), (1, .int .i64 ((pass s i : Nat) : Int)), (4, Z.P k1 0), (6, Z.P k2 0), (11, .slice (some ⟨k3, 0, none⟩) 20 20), (12, .int .i64 ((q + 1 : Nat) : Int))] (by kernel_rfl)]
      exact hK7 _ _ _ _ (by omega) ⟨q + 1, rfl, rfl, (((Gx.Ext.refl w).trans x11).trans x12), (b24.ext x12), (b25.ext x12), (b26.ext x12), (by omega), (fun r hr => by rcases Nat.lt_or_ge r q with h | h; exact hn r h; (have e : r = q := by omega); subst e; unfold signAt; rw [h_d1, h_c132]; rfl)⟩
    refine Z.D (fun w' => True) (fun w29 x13 zw29 => ?_)
    refine Z.h trivial (fun hS5 => ?_)
    refine Z.t 0 (.int .i64 (((pass s i) + ((Gx.gs signsL q).size) : Nat) : Int)) hS5 ?_
    refine Z.t 1 (.string s) hS5 ?_
    refine Z.t 2 (Z.n s.size) hS5 ?_
    refine Gx.any_take_as 3 (.bool (decide ((((pass s i) + ((Gx.gs signsL q).size) : Nat) : Int) ≤ ((s.size : Nat) : Int)))) (.bool false) (by rw [h_d1]) rfl (by kernel_rfl) (by kernel_rfl) (by kernel_rfl) (fun _ _ _ h => h) trivial (by kernel_rfl) (fun _ _ => (by kernel_rfl)) ?_
    refine Z.h trivial (fun hS6 => ?_)
    refine Z.t 4 (.bool false) hS6 ?_
    refine Gx.any_skip 5 rfl (by kernel_rfl) (by kernel_rfl) (by kernel_rfl) (fun _ _ _ h => h) trivial (by kernel_rfl) ?_
    refine Gx.any_skip 6 rfl (by kernel_rfl) (by kernel_rfl) (by kernel_rfl) (fun _ _ _ h => h) trivial (by kernel_rfl) ?_
    refine Gx.any_skip 7 rfl (by kernel_rfl) (by kernel_rfl) (by kernel_rfl) (fun _ _ _ h => h) trivial (by kernel_rfl) ?_
    refine Gx.any_skip 8 rfl (by kernel_rfl) (by kernel_rfl) (by kernel_rfl) (fun _ _ _ h => h) trivial (by kernel_rfl) ?_
    refine Gx.any_skip 9 rfl (by kernel_rfl) (by kernel_rfl) (by kernel_rfl) (fun _ _ _ h => h) trivial (by kernel_rfl) ?_
    refine Gx.any_skip 10 rfl (by kernel_rfl) (by kernel_rfl) (by kernel_rfl) (fun _ _ _ h => h) trivial (by kernel_rfl) ?_
    refine Gx.any_skip 11 rfl (by kernel_rfl) (by kernel_rfl) (by kernel_rfl) (fun _ _ _ h => h) trivial (by kernel_rfl) ?_
    refine Gx.any_skip 12 rfl (by kernel_rfl) (by kernel_rfl) (by kernel_rfl) (fun _ _ _ h => h) trivial (by kernel_rfl) ?_
    refine Gx.any_skip 13 rfl (by kernel_rfl) (by kernel_rfl) (by kernel_rfl) (fun _ _ _ h => h) trivial (by kernel_rfl) ?_
    refine Z.h trivial (fun hS7 => ?_)
    refine Z.t 14 (.bool false) hS7 ?_
    refine Z.q ?_
    refine Z.x (Z.cf ?_)
    refine wp_skip (Gx.block_normal (Z.x (Z.g [0, 1, 2] ?_)))
    refine Z.p [0] [1, 2] [(109, Z.n q)] ?_
    have p_d1 := h_d1; try simp [-List.getD_eq_getElem?_getD] at p_d1
    refine Gx.pure_eq [1] [2] [(110, .int .i64 (IntKind.i64.wrap (((q : Nat) : Int) + (1 : Int))))] [(110, .int .i64 ((q + 1 : Nat) : Int))] rfl (by kernel_rfl) (Gx.eqI (Gx.i64n (by omega) (by omega))) ?_
    refine Z.p [2] [] [(12, .int .i64 ((q + 1 : Nat) : Int))] ?_
    refine Gx.ops_nil (Z.x ?_)
    rw [Gx.forget [(0, .string s), (1, .int .i64 ((pass s i : Nat) : Int)), (4, Z.P k1 0), (6, Z.P k2 0), (11, .slice (some ⟨k3, 0, none⟩) 20 20), (12, .int .i64 ((q + 1 : Nat) : Int))] (by kernel_rfl)]
    exact hK7 _ _ _ _ (by omega) ⟨q + 1, rfl, rfl, (((Gx.Ext.refl w).trans x11).trans x13), (b24.ext x13), (b25.ext x13), (b26.ext x13), (by omega), (fun r hr => by rcases Nat.lt_or_ge r q with h | h; exact hn r h; (have e : r = q := by omega); subst e; unfold signAt; rw [h_d1]; rfl)⟩
  refine wp_exit (Gx.then_exit (Gx.then_exit (Gx.block_exit (Z.x (Z.r [0, 1, 2, 3, 4, 5] ?_)))))
  refine Z.p [0, 1, 2] [3, 4, 5] [(143, .agg #[.int .i64 2, .int .i64 ((pass s i : Nat) : Int)]), (142, .int .i64 ((pass s i : Nat) : Int)), (141, .agg #[.int .i64 0, .int .i64 0, .string Z.E, .int .i64 0])] ?_
  refine Z.Sa #[.int .i64 0, .int .i64 0, .string Z.E, .int .i64 0] b24 (fun w30 u15 b29 zw30 => ?_)
  refine Z.p [4] [5] [(5, .int .i64 0)] ?_
  have p_c108 := h_c108; try simp [-List.getD_eq_getElem?_getD] at p_c108
  refine Z.Sa #[.int .i64 2, .int .i64 ((pass s i : Nat) : Int)] (b25.upd1 u15) (fun w31 u16 b30 zw31 => ?_)
  refine Z.e (wp_ret (Gx.ret (Gx.res_ctc (u := .agg #[.int .i64 0, .int .i64 0, .string Z.E, .int .i64 0]) (v := .int .i64 0) (x := .agg #[.int .i64 2, .int .i64 ((pass s i : Nat) : Int)]) rfl (by kernel_rfl) (by kernel_rfl) (b29.upd1 u16) (by kernel_rfl) (by kernel_rfl) b30 (by kernel_rfl)) ?_))
  exact Gx.ret_as (v' := Nx.V (next s i)) (by have hy := sign_no (s := s) (j := pass s i) (by omega) (fun r hr => hn r (by omega)); unfold next; rw [if_pos (show pass s i < s.size by omega)]; unfold tokAt; rw [if_neg (by rw [h_c30]; simp)]; rw [if_neg (by rw [h_c64]; simp)]; rw [if_neg (by rw [hy]; simp)]; rfl) (hK _ ((((Gx.Ext.refl w).trans x11).upd1 u15).upd1 u16))
end Doc
end Go.Proofs.YtdmdecgoebnamaaGreat
