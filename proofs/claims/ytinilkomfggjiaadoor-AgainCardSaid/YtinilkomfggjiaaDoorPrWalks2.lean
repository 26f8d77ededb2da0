/- The walks, written by a program of ours (wip/gx/gx.py, printgen.py). -/
import Derived.Test.YtinilkomfggjiaaDoorRows
import Derived.Test.YtinilkomfggjiaaDoorGs
import Derived.Test.YtinilkomfggjiaaDoorSynBuild
import Derived.Test.YtinilkomfggjiaaDoorPrWalks1
set_option linter.unusedVariables false
set_option linter.unusedSimpArgs false
set_option maxHeartbeats 4000000
set_option maxRecDepth 20000
namespace Go.Proofs.YtinilkomfggjiaaDoor
open Go.RowKit Go.Lex Go.Syn
open Go.Show (digB e0 dig_small dig_step app_e0 app_assoc)
attribute [local irreducible] Go.wpOps Go.Code.wp Go.wpOp Go.wpAnyH Go.Calls Go.Syn.J
def EOK (F : Nat) (w0 : World) (v : Value) (s : ByteArray) : Prop :=
  ∀ (B b : Nat) (x : ByteArray) (w : World) (K : Ending → World → Prop), Bd w B b x → B ≤ w.heap.size → Gx.Ext w0 w → w0.heap.size ≤ B → x.size + s.size ≤ 100000000000 →
    (∀ w' s', s' = J x s → Gx.Wx 5 B b w w' → Bd w' B b s' → K (.returned (.tuple #[])) w') → Calls Tryd.prog F #[Z.P b 0, v] w K
def ndV (t : Nd) (A : Option Addr) (c : Nat) : Value := .agg (Z.T t A c)
def POK (w0 : World) (t : Nd) (A : Option Addr) (c : Nat) (s : ByteArray) : Prop := EOK 16 w0 (ndV t A c) s
theorem FormatBool_i (v : Bool) (w : World) (K : Ending → World → Prop)  (hK : ∀ w', Gx.Ext w w' → K (.returned (.string (if v = true then Z.k13 else Z.k14))) w') :
    Calls Tryd.prog 88 #[.bool v] w K := by
  refine Z.en 4 Tryd.func88 ?_
  refine Z.s [(2, .string Z.E)] ?_
  refine wp_seq (Z.s [(3, .bool v)] ?_)
  refine Z.c v (fun h_c3 => ?_) (fun h_c3 => ?_)
  · skip
    have p_c3 := h_c3; try simp [-List.getD_eq_getElem?_getD] at p_c3
    refine Z.s [(2, .string Z.k13)] ?_
    refine wp_ret (Gx.then_ret (Z.v (.string Z.k13) ?_))
    exact Gx.ret_as (v' := .string (if v = true then Z.k13 else Z.k14)) (by rw [h_c3]; rfl) (hK _ (Gx.Ext.refl w))
  have p_c3 := h_c3; try simp [-List.getD_eq_getElem?_getD] at p_c3
  refine wp_skip (Z.x (Z.s [(2, .string Z.k14)] ?_))
  refine wp_ret (Z.v (.string Z.k14) ?_)
  exact Gx.ret_as (v' := .string (if v = true then Z.k13 else Z.k14)) (by rw [h_c3]; rfl) (hK _ (Gx.Ext.refl w))
theorem FormatBool_c (v : Bool) (w : World) (K : Ending → World → Prop)  (hK : ∀ w', Gx.Ext w w' → K (.returned (.string (if v = true then Z.k13 else Z.k14))) w') :
    Calls Tryd.prog 68 #[.bool v] w K := by
  refine Z.en 5 Tryd.func68 ?_
  refine Z.s [(2, .string Z.E)] ?_
  refine Z.r [0, 1, 2] ?_
  refine Z.p [0] [1, 2] [(3, .bool v)] ?_
  refine Z.k (fun R hR => FormatBool_i v _ R  (fun w1 x1  => hR _ _ ?_))
  have zw1 := x1.size
  refine Z.p [2] [] [(2, .string (if v = true then Z.k13 else Z.k14))] ?_
  refine Z.e (wp_ret (Z.v (.string (if v = true then Z.k13 else Z.k14)) ?_))
  exact Gx.ret_as (v' := .string (if v = true then Z.k13 else Z.k14)) (by rfl) (hK _ ((Gx.Ext.refl w).trans x1))
theorem word_13  (w : World) (K : Ending → World → Prop)  (hK : ∀ w', Gx.Ext w w' → K (.returned (.string Z.k36)) w') :
    Calls Tryd.prog 63 #[.int .i64 13] w K := by
  refine Z.en 12 Tryd.func63 ?_
  refine Z.s [(2, .string Z.E)] ?_
  refine wp_seq (Z.s [(3, .int .i64 13)] ?_)
  refine wp_block (Z.st [(4, .bool true), (5, .bool true)] ?_)
  refine Z.s [(2, .string Z.k36)] ?_
  refine wp_ret (Gx.block_ret (Gx.then_ret (Z.v (.string Z.k36) ?_)))
  exact Gx.ret_as (v' := .string Z.k36) (by rfl) (hK _ (Gx.Ext.refl w))
theorem word_14  (w : World) (K : Ending → World → Prop)  (hK : ∀ w', Gx.Ext w w' → K (.returned (.string Z.k37)) w') :
    Calls Tryd.prog 63 #[.int .i64 14] w K := by
  refine Z.en 12 Tryd.func63 ?_
  refine Z.s [(2, .string Z.E)] ?_
  refine wp_seq (Z.s [(3, .int .i64 14)] ?_)
  refine wp_block (Z.sf [(4, .bool false), (5, .bool false)] ?_)
  refine Z.st [(6, .bool true), (7, .bool true)] ?_
  refine Z.s [(2, .string Z.k37)] ?_
  refine wp_ret (Gx.block_ret (Gx.then_ret (Z.v (.string Z.k37) ?_)))
  exact Gx.ret_as (v' := .string Z.k37) (by rfl) (hK _ (Gx.Ext.refl w))
theorem word_24  (w : World) (K : Ending → World → Prop)  (hK : ∀ w', Gx.Ext w w' → K (.returned (.string Z.k23)) w') :
    Calls Tryd.prog 63 #[.int .i64 24] w K := by
  refine Z.en 12 Tryd.func63 ?_
  refine Z.s [(2, .string Z.E)] ?_
  refine wp_seq (Z.s [(3, .int .i64 24)] ?_)
  refine wp_block (Z.sf [(4, .bool false), (5, .bool false)] ?_)
  refine Z.sf [(6, .bool false), (7, .bool false)] ?_
  refine Z.st [(8, .bool true), (9, .bool true)] ?_
  refine Z.s [(2, .string Z.k23)] ?_
  refine wp_ret (Gx.block_ret (Gx.then_ret (Z.v (.string Z.k23) ?_)))
  exact Gx.ret_as (v' := .string Z.k23) (by rfl) (hK _ (Gx.Ext.refl w))
theorem word_25  (w : World) (K : Ending → World → Prop)  (hK : ∀ w', Gx.Ext w w' → K (.returned (.string Z.k26)) w') :
    Calls Tryd.prog 63 #[.int .i64 25] w K := by
  refine Z.en 12 Tryd.func63 ?_
  refine Z.s [(2, .string Z.E)] ?_
  refine wp_seq (Z.s [(3, .int .i64 25)] ?_)
  refine wp_block (Z.sf [(4, .bool false), (5, .bool false)] ?_)
  refine Z.sf [(6, .bool false), (7, .bool false)] ?_
  refine Z.sf [(8, .bool false), (9, .bool false)] ?_
  refine Z.st [(10, .bool true), (11, .bool true)] ?_
  refine Z.s [(2, .string Z.k26)] ?_
  refine wp_ret (Gx.block_ret (Gx.then_ret (Z.v (.string Z.k26) ?_)))
  exact Gx.ret_as (v' := .string Z.k26) (by rfl) (hK _ (Gx.Ext.refl w))
theorem word_26  (w : World) (K : Ending → World → Prop)  (hK : ∀ w', Gx.Ext w w' → K (.returned (.string Z.k31)) w') :
    Calls Tryd.prog 63 #[.int .i64 26] w K := by
  refine Z.en 12 Tryd.func63 ?_
  refine Z.s [(2, .string Z.E)] ?_
  refine wp_seq (Z.s [(3, .int .i64 26)] ?_)
  refine wp_block (Z.sf [(4, .bool false), (5, .bool false)] ?_)
  refine Z.sf [(6, .bool false), (7, .bool false)] ?_
  refine Z.sf [(8, .bool false), (9, .bool false)] ?_
  refine Z.sf [(10, .bool false), (11, .bool false)] ?_
  refine wp_skip (Gx.block_normal (Z.x (Z.s [(2, .string Z.k31)] ?_)))
  refine wp_ret (Z.v (.string Z.k31) ?_)
  exact Gx.ret_as (v' := .string Z.k31) (by rfl) (hK _ (Gx.Ext.refl w))
theorem levelP_c (t : Nd) (A : Option Addr) (c : Nat) (w : World) (K : Ending → World → Prop) (ho : Op5 t) (hK : ∀ w', Gx.Ext w w' → K (.returned (.int .i64 (lvl t))) w') :
    Calls Tryd.prog 66 #[.agg (Z.T t A c)] w K := by
  refine Z.en 36 Tryd.func66 ?_
  refine Z.r [0, 1] ?_
  refine Z.N (.cells (Z.T t A c) 24) (fun k1 w1 l1 x1 b1 zw1 tb1 => ?_)
  refine Z.p [1] [] [(2, .int .i64 0)] ?_
  refine Z.e (wp_seq (Z.r [0, 1] ?_))
  refine Z.p [0] [1] [(3, Z.P k1 0)] ?_
  refine Z.L 0 (Z.n t.k) b1 ?_
  refine Z.e (wp_block (wp_seq (Z.s [(5, .bool (((t.k : Nat) : Int) == (29 : Int))), (6, .bool (((t.k : Nat) : Int) == (29 : Int)))] ?_)))
  refine Z.c (((t.k : Nat) : Int) == (29 : Int)) (fun h_c5 => ?_) (fun h_c5 => ?_)
  · skip
    have n_c5 : t.k = 29 := by have z := Gx.k1 h_c5; omega
    refine wp_skip (Z.x (Z.c (((t.k : Nat) : Int) == (29 : Int)) (fun hk_ => ?_) (fun hk_ => absurd (h_c5.symm.trans hk_) (by decide))))
    refine Z.s [(2, .int .i64 0)] ?_
    refine wp_ret (Gx.block_ret (Gx.then_ret (Z.v (.int .i64 0) ?_)))
    exact Gx.ret_as (v' := .int .i64 (lvl t)) (by congr 1; unfold lvl; simp [n_c5] <;> (first | assumption | simp_all)) (hK _ ((Gx.Ext.refl w).trans x1))
  have n_c5 : ¬ t.k = 29 := by have z := Gx.k0 h_c5; omega
  refine Z.s [(5, .bool (((t.k : Nat) : Int) == (9 : Int))), (7, .bool (((t.k : Nat) : Int) == (9 : Int)))] ?_
  refine Z.c (((t.k : Nat) : Int) == (9 : Int)) (fun h_c5_1 => ?_) (fun h_c5_1 => ?_)
  · skip
    have n_c5_1 : t.k = 9 := by have z := Gx.k1 h_c5_1; omega
    refine wp_skip (Z.x (Z.c (((t.k : Nat) : Int) == (9 : Int)) (fun hk_ => ?_) (fun hk_ => absurd (h_c5_1.symm.trans hk_) (by decide))))
    refine Z.s [(2, .int .i64 0)] ?_
    refine wp_ret (Gx.block_ret (Gx.then_ret (Z.v (.int .i64 0) ?_)))
    exact Gx.ret_as (v' := .int .i64 (lvl t)) (by congr 1; unfold lvl; simp [n_c5, n_c5_1] <;> (first | assumption | simp_all)) (hK _ ((Gx.Ext.refl w).trans x1))
  have n_c5_1 : ¬ t.k = 9 := by have z := Gx.k0 h_c5_1; omega
  refine Z.s [(5, .bool (((t.k : Nat) : Int) == (7 : Int))), (8, .bool (((t.k : Nat) : Int) == (7 : Int)))] ?_
  refine Z.c (((t.k : Nat) : Int) == (7 : Int)) (fun h_c5_2 => ?_) (fun h_c5_2 => ?_)
  · skip
    have n_c5_2 : t.k = 7 := by have z := Gx.k1 h_c5_2; omega
    refine wp_skip (Z.x (Z.c (((t.k : Nat) : Int) == (7 : Int)) (fun hk_ => ?_) (fun hk_ => absurd (h_c5_2.symm.trans hk_) (by decide))))
    refine Z.s [(2, .int .i64 0)] ?_
    refine wp_ret (Gx.block_ret (Gx.then_ret (Z.v (.int .i64 0) ?_)))
    exact Gx.ret_as (v' := .int .i64 (lvl t)) (by congr 1; unfold lvl; simp [n_c5, n_c5_1, n_c5_2] <;> (first | assumption | simp_all)) (hK _ ((Gx.Ext.refl w).trans x1))
  have n_c5_2 : ¬ t.k = 7 := by have z := Gx.k0 h_c5_2; omega
  refine Z.s [(5, .bool (((t.k : Nat) : Int) == (11 : Int))), (9, .bool (((t.k : Nat) : Int) == (11 : Int)))] ?_
  refine Z.c (((t.k : Nat) : Int) == (11 : Int)) (fun h_c5_3 => ?_) (fun h_c5_3 => ?_)
  · skip
    have n_c5_3 : t.k = 11 := by have z := Gx.k1 h_c5_3; omega
    refine wp_skip (Z.x (Z.c (((t.k : Nat) : Int) == (11 : Int)) (fun hk_ => ?_) (fun hk_ => absurd (h_c5_3.symm.trans hk_) (by decide))))
    refine Z.s [(2, .int .i64 0)] ?_
    refine wp_ret (Gx.block_ret (Gx.then_ret (Z.v (.int .i64 0) ?_)))
    exact Gx.ret_as (v' := .int .i64 (lvl t)) (by congr 1; unfold lvl; simp [n_c5, n_c5_1, n_c5_2, n_c5_3] <;> (first | assumption | simp_all)) (hK _ ((Gx.Ext.refl w).trans x1))
  have n_c5_3 : ¬ t.k = 11 := by have z := Gx.k0 h_c5_3; omega
  refine Z.s [(5, .bool (((t.k : Nat) : Int) == (17 : Int))), (10, .bool (((t.k : Nat) : Int) == (17 : Int)))] ?_
  refine Z.c (((t.k : Nat) : Int) == (17 : Int)) (fun h_c5_4 => ?_) (fun h_c5_4 => ?_)
  · skip
    have n_c5_4 : t.k = 17 := by have z := Gx.k1 h_c5_4; omega
    refine wp_skip (Z.x (Z.c (((t.k : Nat) : Int) == (17 : Int)) (fun hk_ => ?_) (fun hk_ => absurd (h_c5_4.symm.trans hk_) (by decide))))
    refine Z.s [(2, .int .i64 0)] ?_
    refine wp_ret (Gx.block_ret (Gx.then_ret (Z.v (.int .i64 0) ?_)))
    exact Gx.ret_as (v' := .int .i64 (lvl t)) (by congr 1; unfold lvl; simp [n_c5, n_c5_1, n_c5_2, n_c5_3, n_c5_4] <;> (first | assumption | simp_all)) (hK _ ((Gx.Ext.refl w).trans x1))
  have n_c5_4 : ¬ t.k = 17 := by have z := Gx.k0 h_c5_4; omega
  refine Z.s [(5, .bool (((t.k : Nat) : Int) == (20 : Int))), (11, .bool (((t.k : Nat) : Int) == (20 : Int)))] ?_
  refine Z.c (((t.k : Nat) : Int) == (20 : Int)) (fun h_c5_5 => ?_) (fun h_c5_5 => ?_)
  · skip
    have n_c5_5 : t.k = 20 := by have z := Gx.k1 h_c5_5; omega
    refine wp_skip (Z.x (Z.c (((t.k : Nat) : Int) == (20 : Int)) (fun hk_ => ?_) (fun hk_ => absurd (h_c5_5.symm.trans hk_) (by decide))))
    refine Z.s [(2, .int .i64 0)] ?_
    refine wp_ret (Gx.block_ret (Gx.then_ret (Z.v (.int .i64 0) ?_)))
    exact Gx.ret_as (v' := .int .i64 (lvl t)) (by congr 1; unfold lvl; simp [n_c5, n_c5_1, n_c5_2, n_c5_3, n_c5_4, n_c5_5] <;> (first | assumption | simp_all)) (hK _ ((Gx.Ext.refl w).trans x1))
  have n_c5_5 : ¬ t.k = 20 := by have z := Gx.k0 h_c5_5; omega
  refine Z.u [(5, .bool (((t.k : Nat) : Int) == (10 : Int))), (12, .bool (((t.k : Nat) : Int) == (10 : Int)))] ?_
  refine Z.x (Z.c (((t.k : Nat) : Int) == (10 : Int)) (fun h_c5_6 => ?_) (fun h_c5_6 => ?_))
  · skip
    have n_c5_6 : t.k = 10 := by have z := Gx.k1 h_c5_6; omega
    refine Z.s [(2, .int .i64 0)] ?_
    refine wp_ret (Gx.block_ret (Gx.then_ret (Z.v (.int .i64 0) ?_)))
    exact Gx.ret_as (v' := .int .i64 (lvl t)) (by congr 1; unfold lvl; simp [n_c5, n_c5_1, n_c5_2, n_c5_3, n_c5_4, n_c5_5, n_c5_6] <;> (first | assumption | simp_all)) (hK _ ((Gx.Ext.refl w).trans x1))
  have n_c5_6 : ¬ t.k = 10 := by have z := Gx.k0 h_c5_6; omega
  refine Z.s [(13, .bool (((t.k : Nat) : Int) == (28 : Int))), (14, .bool (((t.k : Nat) : Int) == (28 : Int)))] ?_
  refine Z.c (((t.k : Nat) : Int) == (28 : Int)) (fun h_c13 => ?_) (fun h_c13 => ?_)
  · skip
    have n_c13 : t.k = 28 := by have z := Gx.k1 h_c13; omega
    refine Z.s [(2, .int .i64 1)] ?_
    refine wp_ret (Gx.block_ret (Gx.then_ret (Z.v (.int .i64 1) ?_)))
    exact Gx.ret_as (v' := .int .i64 (lvl t)) (by congr 1; unfold lvl; simp [n_c5, n_c5_1, n_c5_2, n_c5_3, n_c5_4, n_c5_5, n_c5_6, n_c13] <;> (first | assumption | simp_all)) (hK _ ((Gx.Ext.refl w).trans x1))
  have n_c13 : ¬ t.k = 28 := by have z := Gx.k0 h_c13; omega
  refine wp_seq (Z.s [(15, .bool (((t.k : Nat) : Int) == (27 : Int))), (16, .bool (((t.k : Nat) : Int) == (27 : Int)))] ?_)
  refine Z.c (((t.k : Nat) : Int) == (27 : Int)) (fun h_c15 => ?_) (fun h_c15 => ?_)
  · skip
    have n_c15 : t.k = 27 := by have z := Gx.k1 h_c15; omega
    refine wp_skip (Z.x (Z.c (((t.k : Nat) : Int) == (27 : Int)) (fun hk_ => ?_) (fun hk_ => absurd (h_c15.symm.trans hk_) (by decide))))
    refine Z.s [(2, .int .i64 2)] ?_
    refine wp_ret (Gx.block_ret (Gx.then_ret (Z.v (.int .i64 2) ?_)))
    exact Gx.ret_as (v' := .int .i64 (lvl t)) (by congr 1; unfold lvl; simp [n_c5, n_c5_1, n_c5_2, n_c5_3, n_c5_4, n_c5_5, n_c5_6, n_c13, n_c15] <;> (first | assumption | simp_all)) (hK _ ((Gx.Ext.refl w).trans x1))
  have n_c15 : ¬ t.k = 27 := by have z := Gx.k0 h_c15; omega
  refine Z.u [(15, .bool (((t.k : Nat) : Int) == (16 : Int))), (17, .bool (((t.k : Nat) : Int) == (16 : Int)))] ?_
  refine Z.x (Z.c (((t.k : Nat) : Int) == (16 : Int)) (fun h_c15_1 => ?_) (fun h_c15_1 => ?_))
  · skip
    have n_c15_1 : t.k = 16 := by have z := Gx.k1 h_c15_1; omega
    refine Z.s [(2, .int .i64 2)] ?_
    refine wp_ret (Gx.block_ret (Gx.then_ret (Z.v (.int .i64 2) ?_)))
    exact Gx.ret_as (v' := .int .i64 (lvl t)) (by congr 1; unfold lvl; simp [n_c5, n_c5_1, n_c5_2, n_c5_3, n_c5_4, n_c5_5, n_c5_6, n_c13, n_c15, n_c15_1] <;> (first | assumption | simp_all)) (hK _ ((Gx.Ext.refl w).trans x1))
  have n_c15_1 : ¬ t.k = 16 := by have z := Gx.k0 h_c15_1; omega
  refine wp_seq (Z.s [(18, .bool (((t.k : Nat) : Int) == (24 : Int))), (19, .bool (((t.k : Nat) : Int) == (24 : Int)))] ?_)
  refine Z.c (((t.k : Nat) : Int) == (24 : Int)) (fun h_c18 => ?_) (fun h_c18 => ?_)
  · skip
    have n_c18 : t.k = 24 := by have z := Gx.k1 h_c18; omega
    refine wp_skip (Z.x (Z.c (((t.k : Nat) : Int) == (24 : Int)) (fun hk_ => ?_) (fun hk_ => absurd (h_c18.symm.trans hk_) (by decide))))
    refine Z.s [(2, .int .i64 3)] ?_
    refine wp_ret (Gx.block_ret (Gx.then_ret (Z.v (.int .i64 3) ?_)))
    exact Gx.ret_as (v' := .int .i64 (lvl t)) (by congr 1; unfold lvl; simp [n_c5, n_c5_1, n_c5_2, n_c5_3, n_c5_4, n_c5_5, n_c5_6, n_c13, n_c15, n_c15_1, n_c18] <;> (first | assumption | simp_all)) (hK _ ((Gx.Ext.refl w).trans x1))
  have n_c18 : ¬ t.k = 24 := by have z := Gx.k0 h_c18; omega
  refine Z.s [(18, .bool (((t.k : Nat) : Int) == (25 : Int))), (20, .bool (((t.k : Nat) : Int) == (25 : Int)))] ?_
  refine Z.c (((t.k : Nat) : Int) == (25 : Int)) (fun h_c18_1 => ?_) (fun h_c18_1 => ?_)
  · skip
    have n_c18_1 : t.k = 25 := by have z := Gx.k1 h_c18_1; omega
    refine wp_skip (Z.x (Z.c (((t.k : Nat) : Int) == (25 : Int)) (fun hk_ => ?_) (fun hk_ => absurd (h_c18_1.symm.trans hk_) (by decide))))
    refine Z.s [(2, .int .i64 3)] ?_
    refine wp_ret (Gx.block_ret (Gx.then_ret (Z.v (.int .i64 3) ?_)))
    exact Gx.ret_as (v' := .int .i64 (lvl t)) (by congr 1; unfold lvl; simp [n_c5, n_c5_1, n_c5_2, n_c5_3, n_c5_4, n_c5_5, n_c5_6, n_c13, n_c15, n_c15_1, n_c18, n_c18_1] <;> (first | assumption | simp_all)) (hK _ ((Gx.Ext.refl w).trans x1))
  have n_c18_1 : ¬ t.k = 25 := by have z := Gx.k0 h_c18_1; omega
  refine Z.u [(18, .bool (((t.k : Nat) : Int) == (26 : Int))), (21, .bool (((t.k : Nat) : Int) == (26 : Int)))] ?_
  refine Z.x (Z.c (((t.k : Nat) : Int) == (26 : Int)) (fun h_c18_2 => ?_) (fun h_c18_2 => ?_))
  · skip
    have n_c18_2 : t.k = 26 := by have z := Gx.k1 h_c18_2; omega
    refine Z.s [(2, .int .i64 3)] ?_
    refine wp_ret (Gx.block_ret (Gx.then_ret (Z.v (.int .i64 3) ?_)))
    exact Gx.ret_as (v' := .int .i64 (lvl t)) (by congr 1; unfold lvl; simp [n_c5, n_c5_1, n_c5_2, n_c5_3, n_c5_4, n_c5_5, n_c5_6, n_c13, n_c15, n_c15_1, n_c18, n_c18_1, n_c18_2] <;> (first | assumption | simp_all)) (hK _ ((Gx.Ext.refl w).trans x1))
  have n_c18_2 : ¬ t.k = 26 := by have z := Gx.k0 h_c18_2; omega
  refine wp_seq (Z.s [(22, .bool (((t.k : Nat) : Int) == (8 : Int))), (23, .bool (((t.k : Nat) : Int) == (8 : Int)))] ?_)
  refine Z.c (((t.k : Nat) : Int) == (8 : Int)) (fun h_c22 => ?_) (fun h_c22 => ?_)
  · skip
    have n_c22 : t.k = 8 := by have z := Gx.k1 h_c22; omega
    refine wp_skip (Z.x (Z.c (((t.k : Nat) : Int) == (8 : Int)) (fun hk_ => ?_) (fun hk_ => absurd (h_c22.symm.trans hk_) (by decide))))
    refine Z.s [(2, .int .i64 5)] ?_
    refine wp_ret (Gx.block_ret (Gx.then_ret (Z.v (.int .i64 5) ?_)))
    exact Gx.ret_as (v' := .int .i64 (lvl t)) (by congr 1; unfold lvl; simp [n_c5, n_c5_1, n_c5_2, n_c5_3, n_c5_4, n_c5_5, n_c5_6, n_c13, n_c15, n_c15_1, n_c18, n_c18_1, n_c18_2, n_c22] <;> (first | assumption | simp_all)) (hK _ ((Gx.Ext.refl w).trans x1))
  have n_c22 : ¬ t.k = 8 := by have z := Gx.k0 h_c22; omega
  refine Z.s [(22, .bool (((t.k : Nat) : Int) == (19 : Int))), (24, .bool (((t.k : Nat) : Int) == (19 : Int)))] ?_
  refine Z.c (((t.k : Nat) : Int) == (19 : Int)) (fun h_c22_1 => ?_) (fun h_c22_1 => ?_)
  · skip
    have n_c22_1 : t.k = 19 := by have z := Gx.k1 h_c22_1; omega
    refine wp_skip (Z.x (Z.c (((t.k : Nat) : Int) == (19 : Int)) (fun hk_ => ?_) (fun hk_ => absurd (h_c22_1.symm.trans hk_) (by decide))))
    refine Z.s [(2, .int .i64 5)] ?_
    refine wp_ret (Gx.block_ret (Gx.then_ret (Z.v (.int .i64 5) ?_)))
    exact Gx.ret_as (v' := .int .i64 (lvl t)) (by congr 1; unfold lvl; simp [n_c5, n_c5_1, n_c5_2, n_c5_3, n_c5_4, n_c5_5, n_c5_6, n_c13, n_c15, n_c15_1, n_c18, n_c18_1, n_c18_2, n_c22, n_c22_1] <;> (first | assumption | simp_all)) (hK _ ((Gx.Ext.refl w).trans x1))
  have n_c22_1 : ¬ t.k = 19 := by have z := Gx.k0 h_c22_1; omega
  refine Z.s [(22, .bool (((t.k : Nat) : Int) == (13 : Int))), (25, .bool (((t.k : Nat) : Int) == (13 : Int)))] ?_
  refine Z.c (((t.k : Nat) : Int) == (13 : Int)) (fun h_c22_2 => ?_) (fun h_c22_2 => ?_)
  · skip
    have n_c22_2 : t.k = 13 := by have z := Gx.k1 h_c22_2; omega
    refine wp_skip (Z.x (Z.c (((t.k : Nat) : Int) == (13 : Int)) (fun hk_ => ?_) (fun hk_ => absurd (h_c22_2.symm.trans hk_) (by decide))))
    refine Z.s [(2, .int .i64 5)] ?_
    refine wp_ret (Gx.block_ret (Gx.then_ret (Z.v (.int .i64 5) ?_)))
    exact Gx.ret_as (v' := .int .i64 (lvl t)) (by congr 1; unfold lvl; simp [n_c5, n_c5_1, n_c5_2, n_c5_3, n_c5_4, n_c5_5, n_c5_6, n_c13, n_c15, n_c15_1, n_c18, n_c18_1, n_c18_2, n_c22, n_c22_1, n_c22_2] <;> (first | assumption | simp_all)) (hK _ ((Gx.Ext.refl w).trans x1))
  have n_c22_2 : ¬ t.k = 13 := by have z := Gx.k0 h_c22_2; omega
  refine Z.u [(22, .bool (((t.k : Nat) : Int) == (14 : Int))), (26, .bool (((t.k : Nat) : Int) == (14 : Int)))] ?_
  refine Z.x (Z.c (((t.k : Nat) : Int) == (14 : Int)) (fun h_c22_3 => ?_) (fun h_c22_3 => ?_))
  · skip
    have n_c22_3 : t.k = 14 := by have z := Gx.k1 h_c22_3; omega
    refine Z.s [(2, .int .i64 5)] ?_
    refine wp_ret (Gx.block_ret (Gx.then_ret (Z.v (.int .i64 5) ?_)))
    exact Gx.ret_as (v' := .int .i64 (lvl t)) (by congr 1; unfold lvl; simp [n_c5, n_c5_1, n_c5_2, n_c5_3, n_c5_4, n_c5_5, n_c5_6, n_c13, n_c15, n_c15_1, n_c18, n_c18_1, n_c18_2, n_c22, n_c22_1, n_c22_2, n_c22_3] <;> (first | assumption | simp_all)) (hK _ ((Gx.Ext.refl w).trans x1))
  have n_c22_3 : ¬ t.k = 14 := by have z := Gx.k0 h_c22_3; omega
  refine Z.s [(27, .bool (((t.k : Nat) : Int) == (18 : Int))), (28, .bool (((t.k : Nat) : Int) == (18 : Int)))] ?_
  refine Z.c (((t.k : Nat) : Int) == (18 : Int)) (fun h_c27 => ?_) (fun h_c27 => ?_)
  · skip
    have n_c27 : t.k = 18 := by have z := Gx.k1 h_c27; omega
    refine wp_seq (Z.r [0, 1] ?_)
    refine Z.p [0] [1] [(29, Z.P k1 2)] ?_
    refine Z.L 2 (.string t.nm) b1 ?_
    refine Z.e (wp_block (wp_seq (Z.s [(31, .bool (t.nm.toList == Z.k10.toList)), (32, .bool (t.nm.toList == Z.k10.toList))] ?_)))
    refine Z.c (t.nm.toList == Z.k10.toList) (fun h_c31 => ?_) (fun h_c31 => ?_)
    · skip
      refine wp_skip (Z.x (Z.c (t.nm.toList == Z.k10.toList) (fun hk_ => ?_) (fun hk_ => absurd (h_c31.symm.trans hk_) (by decide))))
      refine Z.s [(2, .int .i64 3)] ?_
      refine wp_ret (Gx.block_ret (Gx.then_ret (Gx.block_ret (Gx.then_ret (Z.v (.int .i64 3) ?_)))))
      have q_c31 : t.nm = Z.k10 := beq_tl.1 h_c31
      exact Gx.ret_as (v' := .int .i64 (lvl t)) (by congr 1; unfold lvl; simp [n_c5, n_c5_1, n_c5_2, n_c5_3, n_c5_4, n_c5_5, n_c5_6, n_c13, n_c15, n_c15_1, n_c18, n_c18_1, n_c18_2, n_c22, n_c22_1, n_c22_2, n_c22_3, n_c27, q_c31] <;> (first | assumption | simp_all)) (hK _ ((Gx.Ext.refl w).trans x1))
    refine Z.u [(31, .bool (t.nm.toList == Z.k5.toList)), (33, .bool (t.nm.toList == Z.k5.toList))] ?_
    refine Z.x (Z.c (t.nm.toList == Z.k5.toList) (fun h_c31_1 => ?_) (fun h_c31_1 => ?_))
    · skip
      refine Z.s [(2, .int .i64 3)] ?_
      refine wp_ret (Gx.block_ret (Gx.then_ret (Gx.block_ret (Gx.then_ret (Z.v (.int .i64 3) ?_)))))
      have q_c31 : ¬ t.nm = Z.k10 := fun e => Bool.false_ne_true (h_c31.symm.trans (beq_tl.2 e))
      have q_c31_1 : t.nm = Z.k5 := beq_tl.1 h_c31_1
      exact Gx.ret_as (v' := .int .i64 (lvl t)) (by congr 1; unfold lvl; simp [n_c5, n_c5_1, n_c5_2, n_c5_3, n_c5_4, n_c5_5, n_c5_6, n_c13, n_c15, n_c15_1, n_c18, n_c18_1, n_c18_2, n_c22, n_c22_1, n_c22_2, n_c22_3, n_c27, q_c31, q_c31_1] <;> (first | assumption | simp_all)) (hK _ ((Gx.Ext.refl w).trans x1))
    refine Z.s [(34, .bool (t.nm.toList == Z.k6.toList)), (35, .bool (t.nm.toList == Z.k6.toList))] ?_
    refine Z.c (t.nm.toList == Z.k6.toList) (fun h_c34 => ?_) (fun h_c34 => ?_)
    · skip
      refine Z.s [(2, .int .i64 4)] ?_
      refine wp_ret (Gx.block_ret (Gx.then_ret (Gx.block_ret (Gx.then_ret (Z.v (.int .i64 4) ?_)))))
      have q_c31 : ¬ t.nm = Z.k10 := fun e => Bool.false_ne_true (h_c31.symm.trans (beq_tl.2 e))
      have q_c31_1 : ¬ t.nm = Z.k5 := fun e => Bool.false_ne_true (h_c31_1.symm.trans (beq_tl.2 e))
      have q_c34 : t.nm = Z.k6 := beq_tl.1 h_c34
      exact Gx.ret_as (v' := .int .i64 (lvl t)) (by congr 1; unfold lvl; simp [n_c5, n_c5_1, n_c5_2, n_c5_3, n_c5_4, n_c5_5, n_c5_6, n_c13, n_c15, n_c15_1, n_c18, n_c18_1, n_c18_2, n_c22, n_c22_1, n_c22_2, n_c22_3, n_c27, q_c31, q_c31_1, q_c34] <;> (first | assumption | simp_all)) (hK _ ((Gx.Ext.refl w).trans x1))
    refine wp_skip (Gx.block_normal (Z.x (Z.s [(2, .int .i64 1)] ?_)))
    refine wp_ret (Gx.block_ret (Gx.then_ret (Z.v (.int .i64 1) ?_)))
    have q_c31 : ¬ t.nm = Z.k10 := fun e => Bool.false_ne_true (h_c31.symm.trans (beq_tl.2 e))
    have q_c31_1 : ¬ t.nm = Z.k5 := fun e => Bool.false_ne_true (h_c31_1.symm.trans (beq_tl.2 e))
    have q_c34 : ¬ t.nm = Z.k6 := fun e => Bool.false_ne_true (h_c34.symm.trans (beq_tl.2 e))
    have q5 : t.nm = Z.k8 ∨ t.nm = Z.k17 := by rcases ho n_c27 with q | q | q | q | q; exact .inl q; exact .inr q; all_goals exact absurd q (by assumption)
    exact Gx.ret_as (v' := .int .i64 (lvl t)) (by congr 1; unfold lvl; simp [n_c5, n_c5_1, n_c5_2, n_c5_3, n_c5_4, n_c5_5, n_c5_6, n_c13, n_c15, n_c15_1, n_c18, n_c18_1, n_c18_2, n_c22, n_c22_1, n_c22_2, n_c22_3, n_c27, q5] <;> (first | assumption | simp_all)) (hK _ ((Gx.Ext.refl w).trans x1))
  have n_c27 : ¬ t.k = 18 := by have z := Gx.k0 h_c27; omega
  refine wp_skip (Gx.block_normal (Z.x (Z.s [(2, .int .i64 6)] ?_)))
  refine wp_ret (Z.v (.int .i64 6) ?_)
  exact Gx.ret_as (v' := .int .i64 (lvl t)) (by congr 1; unfold lvl; simp [n_c5, n_c5_1, n_c5_2, n_c5_3, n_c5_4, n_c5_5, n_c5_6, n_c13, n_c15, n_c15_1, n_c18, n_c18_1, n_c18_2, n_c22, n_c22_1, n_c22_2, n_c22_3, n_c27] <;> (first | assumption | simp_all)) (hK _ ((Gx.Ext.refl w).trans x1))
theorem kid_c (B b : Nat) (x : ByteArray) (w0 : World) (t : Nd) (A : Option Addr) (c : Nat) (s : ByteArray) (least : Int) (w : World) (K : Ending → World → Prop) (h : Bd w B b x) (hBw : B ≤ w.heap.size) (hE : Gx.Ext w0 w) (hw0B : w0.heap.size ≤ B) (hsz : x.size + (inT least t s).size ≤ 100000000000) (hN : POK w0 t A c s) (ho : Op5 t) (hK : ∀ w' s', s' = J x (inT least t s) → Gx.Wx 5 B b w w' → Bd w' B b s' → K (.returned (.tuple #[])) w') :
    Calls Tryd.prog 64 #[Z.P b 0, .agg (Z.T t A c), .int .i64 least] w K := by
  refine Z.en 22 Tryd.func64 ?_
  have tbb : b < w.heap.size := by obtain ⟨_, _, hq, _⟩ := h; exact hq.lt
  have hB : B ≤ b := by obtain ⟨_, _, _, _, hq, _⟩ := h; exact hq
  have hq := hsz; (try simp only [zap, zli, List.length] at hq)
  have hi := inT_le least t s
  refine Z.r [0] ?_
  refine Z.N (.cells (Z.T t A c) 24) (fun k1 w1 l1 x1 b1 zw1 tb1 => ?_)
  refine Z.e (wp_seq (Z.r [0, 1, 2, 3] ?_))
  refine Z.L 0 (.agg (Z.T t A c)) b1 ?_
  refine Z.k (fun R hR => levelP_c t A c _ R ho (fun w2 x2 => hR _ _ ?_))
  have zw2 := x2.size
  refine Z.p [2, 3] [] [(9, .bool (decide ((lvl t) < least))), (8, .int .i64 least)] ?_
  refine Z.e (Z.c (decide ((lvl t) < least)) (fun h_c9 => ?_) (fun h_c9 => ?_))
  · skip
    have p_c9 := of_decide_eq_true h_c9
    have hin : inT least t s = (Z.k56 ++ s) ++ Z.k57 := by unfold inT; rw [if_pos (by simpa using h_c9)]
    have hinz := congrArg ByteArray.size hin; (try simp only [zap, zli, List.length] at hinz)
    refine Z.r [0, 1, 2] ?_
    refine Z.p [0] [1, 2] [(10, Z.P b 0)] ?_
    refine Z.R (.cells #[.string Z.k4] 9) 1 1 (fun k2 w3 l2 x3 b2 zw3 tb2 => ?_)
    have zs1 : (putJ x [Z.k4]).size ≤ x.size + (Z.k4.size + 1 + 0) := putJ_bd [Z.k4] x
    (try simp only [zap, zli, List.length] at zs1)
    refine Z.k (fun R hR => put_c B b x [Z.k4] k2 1 _ R (((h.ext x1).ext x2).ext x3) (by omega) b2 (by omega) (Nat.le_of_ble_eq_true rfl) (by omega) (fun w4 s1 hs1 x4 hbd1 => hR _ _ ?_))
    have zw4 := x4.size
    rw [← hs1] at zs1
    refine Z.e (Z.r [0, 1, 2] ?_)
    refine Z.p [0] [1, 2] [(13, Z.P b 0)] ?_
    refine Z.L 0 (.agg (Z.T t A c)) (x4.has ((b1.ext x2).ext x3) (by omega) (by decide)) ?_
    have zs2 := (J_size s1 s).1
    (try simp only [zap, zli, List.length] at zs2)
    refine Z.k (fun R hR => hN B b s1 _ R hbd1 (by omega) (Gx.Ext.wx hE (((((Gx.Wx.refl (e := 5) (wb := b) w hBw).ext x1).ext x2).ext x3).trans x4) hw0B) hw0B (by omega) (fun w5 s2 hs2 x5 hbd2 => hR _ _ ?_))
    have zw5 := x5.size
    rw [← hs2] at zs2
    refine Z.e (Z.r [0, 1, 2] ?_)
    refine Z.p [0] [1, 2] [(16, Z.P b 0)] ?_
    refine Z.R (.cells #[.string Z.k2] 9) 1 1 (fun k3 w6 l3 x6 b3 zw6 tb3 => ?_)
    have zs3 : (putJ s2 [Z.k2]).size ≤ s2.size + (Z.k2.size + 1 + 0) := putJ_bd [Z.k2] s2
    (try simp only [zap, zli, List.length] at zs3)
    refine Z.k (fun R hR => put_c B b s2 [Z.k2] k3 1 _ R (hbd2.ext x6) (by omega) b3 (by omega) (Nat.le_of_ble_eq_true rfl) (by omega) (fun w7 s3 hs3 x7 hbd3 => hR _ _ ?_))
    have zw7 := x7.size
    rw [← hs3] at zs3
    refine Z.e (wp_ret (Gx.then_ret (Gx.ret (Gx.res0 rfl) ?_)))
    exact hK _ _ (by rw [hs3, hs2, hs1]; show putJ x [Z.k4, s, Z.k2] = _; rw [putJ_join _ (by first | decide | omega | (simp only [zap, zli, List.length]; omega))]; exact congrArg (J x) (bl (by rw [hin]; (try simp [joinS, l_app, Z.bd, Z.ed])))) ((((((((Gx.Wx.refl (e := 5) (wb := b) w hBw).ext x1).ext x2).ext x3).trans x4).trans x5).ext x6).trans x7) hbd3
  have p_c9 := of_decide_eq_false h_c9
  have hin : inT least t s = s := by unfold inT; rw [if_neg (by simpa using h_c9)]
  have hinz := congrArg ByteArray.size hin; (try simp only [zap, zli, List.length] at hinz)
  refine wp_skip (Z.x (Z.g [0, 1, 2] ?_))
  refine Z.p [0] [1, 2] [(19, Z.P b 0)] ?_
  refine Z.L 0 (.agg (Z.T t A c)) (b1.ext x2) ?_
  have zs4 := (J_size x s).1
  (try simp only [zap, zli, List.length] at zs4)
  refine Z.k (fun R hR => hN B b x _ R ((h.ext x1).ext x2) (by omega) (Gx.Ext.wx hE (((Gx.Wx.refl (e := 5) (wb := b) w hBw).ext x1).ext x2) hw0B) hw0B (by omega) (fun w8 s4 hs4 x8 hbd4 => hR _ _ ?_))
  have zw8 := x8.size
  rw [← hs4] at zs4
  refine Gx.ops_nil (Gx.ret_n (Gx.res0 rfl) ?_)
  exact hK _ _ (by rw [hs4]; (first | done | exact congrArg (J x) (bl (by rw [hin]; (try simp [l_app, Z.bd, Z.ed]))))) ((((Gx.Wx.refl (e := 5) (wb := b) w hBw).ext x1).ext x2).trans x8) hbd4
theorem infix_c (B b : Nat) (x : ByteArray) (w0 : World) (k : Int) (a : Nat) (nm : ByteArray) (n : Int) (kA kB : Nd) (A : Option Addr) (c : Nat) (As : Nat → Option Addr) (cs : Nat → Nat) (tA tB : ByteArray) (sign : ByteArray) (la lb : Int) (w : World) (K : Ending → World → Prop) (h : Bd w B b x) (hBw : B ≤ w.heap.size) (hE : Gx.Ext w0 w) (hw0B : w0.heap.size ≤ B) (hsz : x.size + ((((inT la kA tA ++ Z.k3) ++ sign) ++ Z.k3) ++ inT lb kB tB).size ≤ 100000000000) (hr : Gx.Rd w0 A 2 5 (fun i => ndC ([kA, kB].getD i nd0) (As i) (cs i))) (h0 : POK w0 kA (As 0) (cs 0) tA) (h1 : POK w0 kB (As 1) (cs 1) tB) (o0 : Op5 kA) (o1 : Op5 kB) (p0 : 0 < tA.size) (p1 : 0 < tB.size) (ps : 0 < sign.size) (hK : ∀ w' s', s' = J x ((((inT la kA tA ++ Z.k3) ++ sign) ++ Z.k3) ++ inT lb kB tB) → Gx.Wx 5 B b w w' → Bd w' B b s' → K (.returned (.tuple #[])) w') :
    Calls Tryd.prog 65 #[Z.P b 0, .agg #[.int .i64 k, Z.n a, .string nm, .int .i64 n, .slice A 2 c], .string sign, .int .i64 la, .int .i64 lb] w K := by
  refine Z.en 28 Tryd.func65 ?_
  have tbb : b < w.heap.size := by obtain ⟨_, _, hq, _⟩ := h; exact hq.lt
  have hB : B ≤ b := by obtain ⟨_, _, _, _, hq, _⟩ := h; exact hq
  have hq := hsz; (try simp only [zap, zli, List.length] at hq)
  have q1 := inT_le la kA tA; have q2 := inT_le lb kB tB
  refine Z.r [0] ?_
  refine Z.N (.cells #[.int .i64 k, Z.n a, .string nm, .int .i64 n, .slice A 2 c] 24) (fun k1 w1 l1 x1 b1 zw1 tb1 => ?_)
  refine Z.e (Z.r [0, 1, 2, 3, 4, 5, 6] ?_)
  refine Z.p [0, 1] [2, 3, 4, 5, 6] [(11, Z.P k1 4), (10, Z.P b 0)] ?_
  refine Z.L 4 (.slice A 2 c) b1 ?_
  obtain ⟨a1, ha1, hc1⟩ := hr 0 (by omega)
  refine Z.I 24 5 ha1 2 c 0 ?_
  refine Z.La [Z.n kA.k, Z.n kA.a, .string kA.nm, .int .i64 kA.n, .slice (As 0) kA.ks.length (cs 0)] 5 hc1 (Gx.Ext.wx hE ((Gx.Wx.refl (e := 5) (wb := b) w hBw).ext x1) hw0B) ?_
  refine Z.p [5] [6] [(15, .int .i64 la)] ?_
  have zs1 := (J_size x (inT la kA tA)).1
  (try simp only [zap, zli, List.length] at zs1)
  refine Z.k (fun R hR => kid_c B b x w0 kA (As 0) (cs 0) tA la _ R (h.ext x1) (by omega) (Gx.Ext.wx hE ((Gx.Wx.refl (e := 5) (wb := b) w hBw).ext x1) hw0B) hw0B (by omega) h0 o0 (fun w2 s1 hs1 x2 hbd1 => hR _ _ ?_))
  have zw2 := x2.size
  rw [← hs1] at zs1
  refine Z.e (Z.r [0, 1, 2, 3] ?_)
  refine Z.p [0, 1] [2, 3] [(18, .string sign), (17, Z.P b 0)] ?_
  refine Z.R (.cells #[.string sign] 9) 1 1 (fun k2 w3 l2 x3 b2 zw3 tb2 => ?_)
  have zs2 : (putJ s1 [sign]).size ≤ s1.size + (sign.size + 1 + 0) := putJ_bd [sign] s1
  (try simp only [zap, zli, List.length] at zs2)
  refine Z.k (fun R hR => put_c B b s1 [sign] k2 1 _ R (hbd1.ext x3) (by omega) b2 (by omega) (Nat.le_of_ble_eq_true rfl) (by omega) (fun w4 s2 hs2 x4 hbd2 => hR _ _ ?_))
  have zw4 := x4.size
  rw [← hs2] at zs2
  refine Z.e (Z.g [0, 1, 2, 3, 4, 5, 6] ?_)
  refine Z.p [0, 1] [2, 3, 4, 5, 6] [(22, Z.P k1 4), (21, Z.P b 0)] ?_
  refine Z.L 4 (.slice A 2 c) (x4.has ((x2.has b1).ext x3) (by omega) (by decide)) ?_
  obtain ⟨a2, ha2, hc2⟩ := hr 1 (by omega)
  refine Z.I 24 5 ha2 2 c 1 ?_
  refine Z.La [Z.n kB.k, Z.n kB.a, .string kB.nm, .int .i64 kB.n, .slice (As 1) kB.ks.length (cs 1)] 5 hc2 (Gx.Ext.wx hE (((((Gx.Wx.refl (e := 5) (wb := b) w hBw).ext x1).trans x2).ext x3).trans x4) hw0B) ?_
  refine Z.p [5] [6] [(26, .int .i64 lb)] ?_
  have zs3 := (J_size s2 (inT lb kB tB)).1
  (try simp only [zap, zli, List.length] at zs3)
  refine Z.k (fun R hR => kid_c B b s2 w0 kB (As 1) (cs 1) tB lb _ R hbd2 (by omega) (Gx.Ext.wx hE (((((Gx.Wx.refl (e := 5) (wb := b) w hBw).ext x1).trans x2).ext x3).trans x4) hw0B) hw0B (by omega) h1 o1 (fun w5 s3 hs3 x5 hbd3 => hR _ _ ?_))
  have zw5 := x5.size
  rw [← hs3] at zs3
  refine Gx.ops_nil (Gx.ret_n (Gx.res0 rfl) ?_)
  exact hK _ _ (by rw [hs3, hs2, hs1]; show putJ x [inT la kA tA, sign, inT lb kB tB] = _; rw [putJ_join _ (by first | decide | omega | (simp only [zap, zli, List.length]; omega))]; exact congrArg (J x) (bl (by (try simp [joinS, l_app, Z.bd, Z.ed])))) ((((((Gx.Wx.refl (e := 5) (wb := b) w hBw).ext x1).trans x2).ext x3).trans x4).trans x5) hbd3
theorem bound_f (B b : Nat) (x : ByteArray) (w0 : World) (t : Nd) (A : Option Addr) (c : Nat) (s : ByteArray) (w : World) (K : Ending → World → Prop) (h : Bd w B b x) (hBw : B ≤ w.heap.size) (hE : Gx.Ext w0 w) (hw0B : w0.heap.size ≤ B) (hsz : x.size + ((Z.B [61, 32]) ++ s).size ≤ 100000000000) (hN : POK w0 t A c s) (hK : ∀ w' s', s' = J x ((Z.B [61, 32]) ++ s) → Gx.Wx 5 B b w w' → Bd w' B b s' → K (.returned (.tuple #[])) w') :
    Calls Tryd.prog 62 #[Z.P b 0, .agg (Z.T t A c), .bool false] w K := by
  refine Z.en 33 Tryd.func62 ?_
  have tbb : b < w.heap.size := by obtain ⟨_, _, hq, _⟩ := h; exact hq.lt
  have hB : B ≤ b := by obtain ⟨_, _, _, _, hq, _⟩ := h; exact hq
  have hq := hsz; (try simp only [zap, zli, List.length] at hq)
  refine Z.r [0] ?_
  refine Z.N (.cells (Z.T t A c) 24) (fun k1 w1 l1 x1 b1 zw1 tb1 => ?_)
  refine Z.e (wp_seq (Z.sf [(17, .bool false), (16, undef), (15, undef), (14, undef), (13, undef), (12, .bool false), (11, .bool false), (10, undef), (9, undef), (8, undef), (7, .bool false), (6, .bool false)] ?_))
  refine wp_skip (Z.x (Z.r [0, 1, 2] ?_))
  refine Z.p [0] [1, 2] [(27, Z.P b 0)] ?_
  refine Z.R (.cells #[.string Z.k7] 9) 1 1 (fun k2 w2 l2 x2 b2 zw2 tb2 => ?_)
  have zs1 : (putJ x [Z.k7]).size ≤ x.size + (Z.k7.size + 1 + 0) := putJ_bd [Z.k7] x
  (try simp only [zap, zli, List.length] at zs1)
  refine Z.k (fun R hR => put_c B b x [Z.k7] k2 1 _ R ((h.ext x1).ext x2) (by omega) b2 (by omega) (Nat.le_of_ble_eq_true rfl) (by omega) (fun w3 s1 hs1 x3 hbd1 => hR _ _ ?_))
  have zw3 := x3.size
  rw [← hs1] at zs1
  refine Z.e (Z.g [0, 1, 2] ?_)
  refine Z.p [0] [1, 2] [(30, Z.P b 0)] ?_
  refine Z.L 0 (.agg (Z.T t A c)) (x3.has (b1.ext x2) (by omega) (by decide)) ?_
  have zs2 := (J_size s1 s).1
  (try simp only [zap, zli, List.length] at zs2)
  refine Z.k (fun R hR => hN B b s1 _ R hbd1 (by omega) (Gx.Ext.wx hE ((((Gx.Wx.refl (e := 5) (wb := b) w hBw).ext x1).ext x2).trans x3) hw0B) hw0B (by omega) (fun w4 s2 hs2 x4 hbd2 => hR _ _ ?_))
  have zw4 := x4.size
  rw [← hs2] at zs2
  refine Gx.ops_nil (Gx.ret_n (Gx.res0 rfl) ?_)
  exact hK _ _ (by rw [hs2, hs1]; show putJ x [Z.k7, s] = _; rw [putJ_join _ (by first | decide | omega | (simp only [zap, zli, List.length]; omega))]; exact congrArg (J x) (bl (by (try simp [joinS, l_app, Z.bd, Z.ed])))) (((((Gx.Wx.refl (e := 5) (wb := b) w hBw).ext x1).ext x2).trans x3).trans x4) hbd2
theorem bound_t (B b : Nat) (x : ByteArray) (w0 : World) (fa : Nat) (fx : ByteArray) (fm : Int) (z : Nd) (A : Option Addr) (c : Nat) (As : Nat → Option Addr) (cs : Nat → Nat) (s : ByteArray) (w : World) (K : Ending → World → Prop) (h : Bd w B b x) (hBw : B ≤ w.heap.size) (hE : Gx.Ext w0 w) (hw0B : w0.heap.size ≤ B) (hsz : x.size + ((fx ++ Z.k52) ++ s).size ≤ 100000000000) (hr : Gx.Rd w0 A 1 5 (fun i => ndC ([z].getD i nd0) (As i) (cs i))) (hN : POK w0 z (As 0) (cs 0) s) (hf : 0 < fx.size) (hK : ∀ w' s', s' = J x ((fx ++ Z.k52) ++ s) → Gx.Wx 5 B b w w' → Bd w' B b s' → K (.returned (.tuple #[])) w') :
    Calls Tryd.prog 62 #[Z.P b 0, .agg #[.int .i64 7, Z.n fa, .string fx, .int .i64 fm, .slice A 1 c], .bool true] w K := by
  refine Z.en 33 Tryd.func62 ?_
  have tbb : b < w.heap.size := by obtain ⟨_, _, hq, _⟩ := h; exact hq.lt
  have hB : B ≤ b := by obtain ⟨_, _, _, _, hq, _⟩ := h; exact hq
  have hq := hsz; (try simp only [zap, zli, List.length] at hq)
  refine Z.r [0] ?_
  refine Z.N (.cells #[.int .i64 7, Z.n fa, .string fx, .int .i64 fm, .slice A 1 c] 24) (fun k1 w1 l1 x1 b1 zw1 tb1 => ?_)
  refine Z.e (wp_seq (Z.r [0, 1, 2, 3, 4, 5, 6, 7, 8, 9, 10, 11] ?_))
  refine Z.p [0, 1, 2] [3, 4, 5, 6, 7, 8, 9, 10, 11] [(8, Z.P k1 0), (7, .bool true), (6, .bool true)] ?_
  refine Z.L 0 (.int .i64 7) b1 ?_
  refine Z.p [4, 5, 6, 7] [8, 9, 10, 11] [(13, Z.P k1 4), (12, .bool true), (11, .bool true), (10, .bool true)] ?_
  refine Z.L 4 (.slice A 1 c) b1 ?_
  refine Z.p [9, 10, 11] [] [(17, .bool true), (16, .bool true), (15, .int .i64 1)] ?_
  refine Z.e (Z.ct ?_)
  refine Z.r [0, 1, 2, 3, 4] ?_
  refine Z.p [0, 1] [2, 3, 4] [(19, Z.P k1 2), (18, Z.P b 0)] ?_
  refine Z.L 2 (.string fx) b1 ?_
  refine Z.R (.cells #[.string fx] 9) 1 1 (fun k2 w2 l2 x2 b2 zw2 tb2 => ?_)
  have zs1 : (putJ x [fx]).size ≤ x.size + (fx.size + 1 + 0) := putJ_bd [fx] x
  (try simp only [zap, zli, List.length] at zs1)
  refine Z.k (fun R hR => put_c B b x [fx] k2 1 _ R ((h.ext x1).ext x2) (by omega) b2 (by omega) (Nat.le_of_ble_eq_true rfl) (by omega) (fun w3 s1 hs1 x3 hbd1 => hR _ _ ?_))
  have zw3 := x3.size
  rw [← hs1] at zs1
  refine Z.e (Z.g [0, 1, 2, 3, 4] ?_)
  refine Z.p [0] [1, 2, 3, 4] [(23, Z.P k1 4)] ?_
  have y1 := x3.has (b1.ext x2) (by omega) (by decide)
  refine Z.L 4 (.slice A 1 c) y1 ?_
  obtain ⟨a1, ha1, hc1⟩ := hr 0 (by omega)
  refine Z.I 24 5 ha1 1 c 0 ?_
  refine Z.La [Z.n z.k, Z.n z.a, .string z.nm, .int .i64 z.n, .slice (As 0) z.ks.length (cs 0)] 5 hc1 (Gx.Ext.wx hE ((((Gx.Wx.refl (e := 5) (wb := b) w hBw).ext x1).ext x2).trans x3) hw0B) ?_
  refine Z.Sa #[Z.n z.k, Z.n z.a, .string z.nm, .int .i64 z.n, .slice (As 0) z.ks.length (cs 0)] y1 (fun w4 u1 b3 zw4 => ?_)
  refine Gx.ops_nil (Z.x (Z.r [0, 1, 2] ?_))
  refine Z.p [0] [1, 2] [(27, Z.P b 0)] ?_
  refine Z.R (.cells #[.string Z.k7] 9) 1 1 (fun k3 w5 l3 x4 b4 zw5 tb4 => ?_)
  have zs2 : (putJ s1 [Z.k7]).size ≤ s1.size + (Z.k7.size + 1 + 0) := putJ_bd [Z.k7] s1
  (try simp only [zap, zli, List.length] at zs2)
  refine Z.k (fun R hR => put_c B b s1 [Z.k7] k3 1 _ R ((hbd1.updO u1 y1 (fun _ _ q => by cases q) (by omega)).ext x4) (by omega) b4 (by omega) (Nat.le_of_ble_eq_true rfl) (by omega) (fun w6 s2 hs2 x5 hbd2 => hR _ _ ?_))
  have zw6 := x5.size
  rw [← hs2] at zs2
  refine Z.e (Z.g [0, 1, 2] ?_)
  refine Z.p [0] [1, 2] [(30, Z.P b 0)] ?_
  refine Z.L 0 (.agg #[Z.n z.k, Z.n z.a, .string z.nm, .int .i64 z.n, .slice (As 0) z.ks.length (cs 0)]) (x5.has (b3.ext x4) (by omega) (by decide)) ?_
  have zs3 := (J_size s2 s).1
  (try simp only [zap, zli, List.length] at zs3)
  refine Z.k (fun R hR => hN B b s2 _ R hbd2 (by omega) (Gx.Ext.wx hE (((((((Gx.Wx.refl (e := 5) (wb := b) w hBw).ext x1).ext x2).trans x3).upd_new u1).ext x4).trans x5) hw0B) hw0B (by omega) (fun w7 s3 hs3 x6 hbd3 => hR _ _ ?_))
  have zw7 := x6.size
  rw [← hs3] at zs3
  refine Gx.ops_nil (Gx.ret_n (Gx.res0 rfl) ?_)
  exact hK _ _ (by rw [hs3, hs2, hs1]; show putJ x [fx, Z.k7, s] = _; rw [putJ_join _ (by first | decide | omega | (simp only [zap, zli, List.length]; omega))]; exact congrArg (J x) (bl (by (try simp [joinS, l_app, Z.bd, Z.ed])))) ((((((((Gx.Wx.refl (e := 5) (wb := b) w hBw).ext x1).ext x2).trans x3).upd_new u1).ext x4).trans x5).trans x6) hbd3
theorem bound_k (B b : Nat) (x : ByteArray) (w0 : World) (e : Nd) (fa : Nat) (fx : ByteArray) (fm : Int) (z : Nd) (A : Option Addr) (c : Nat) (As : Nat → Option Addr) (cs : Nat → Nat) (s : ByteArray) (he : e = .mk 7 fa fx fm [z]) (w : World) (K : Ending → World → Prop) (h : Bd w B b x) (hBw : B ≤ w.heap.size) (hE : Gx.Ext w0 w) (hw0B : w0.heap.size ≤ B) (hsz : x.size + ((fx ++ Z.k52) ++ s).size ≤ 100000000000)
    (hr : Gx.Rd w0 A e.ks.length 5 (fun i => ndC (e.ks.getD i nd0) (As i) (cs i))) (hN : POK w0 z (As 0) (cs 0) s) (hf : 0 < fx.size) (hK : ∀ w' s', s' = J x ((fx ++ Z.k52) ++ s) → Gx.Wx 5 B b w w' → Bd w' B b s' → K (.returned (.tuple #[])) w') :
    Calls Tryd.prog 62 #[Z.P b 0, .agg (Z.T e A c), .bool true] w K := by
  subst he
  exact bound_t B b x w0 fa fx fm z A c As cs s w K h hBw hE hw0B hsz hr hN hf hK
theorem node_exp (B b : Nat) (x : ByteArray) (w0 : World) (t : Nd) (A : Option Addr) (c : Nat) (s : ByteArray) (w : World) (K : Ending → World → Prop) (h : Bd w B b x) (hBw : B ≤ w.heap.size) (hE : Gx.Ext w0 w) (hw0B : w0.heap.size ≤ B) (hsz : x.size + (s).size ≤ 100000000000) (hk : 3 ≤ t.k ∧ t.k ≤ 11) (hX : EOK 42 w0 (.agg (Z.T t A c)) s) (hK : ∀ w' s', s' = J x (s) → Gx.Wx 5 B b w w' → Bd w' B b s' → K (.returned (.tuple #[])) w') :
    Calls Tryd.prog 16 #[Z.P b 0, .agg (Z.T t A c)] w K := by
  refine Z.en 34 Tryd.func16 ?_
  have tbb : b < w.heap.size := by obtain ⟨_, _, hq, _⟩ := h; exact hq.lt
  have hB : B ≤ b := by obtain ⟨_, _, _, _, hq, _⟩ := h; exact hq
  have hq := hsz; (try simp only [zap, zli, List.length] at hq)
  refine Z.r [0] ?_
  refine Z.N (.cells (Z.T t A c) 24) (fun k1 w1 l1 x1 b1 zw1 tb1 => ?_)
  refine Z.e (wp_block (Z.r [0, 1, 2, 3] ?_))
  refine Z.p [0] [1, 2, 3] [(8, Z.P k1 0)] ?_
  refine Z.L 0 (Z.n t.k) b1 ?_
  refine Z.p [2, 3] [] [(7, .bool (((t.k : Nat) : Int) == (0 : Int))), (10, .bool (((t.k : Nat) : Int) == (0 : Int)))] ?_
  refine Z.e (Z.c (((t.k : Nat) : Int) == (0 : Int)) (fun h_c7 => ?_) (fun h_c7 => ?_))
  · skip
    have n_c7 : t.k = 0 := by have z := Gx.k1 h_c7; omega
    exact (by omega : False).elim
  have n_c7 : ¬ t.k = 0 := by have z := Gx.k0 h_c7; omega
  refine Z.r [0, 1, 2, 3] ?_
  refine Z.p [0] [1, 2, 3] [(16, Z.P k1 0)] ?_
  refine Z.L 0 (Z.n t.k) b1 ?_
  refine Z.p [2, 3] [] [(15, .bool (decide (((t.k : Nat) : Int) ≥ (24 : Int)))), (18, .bool (decide (((t.k : Nat) : Int) ≥ (24 : Int))))] ?_
  refine Z.e (Z.c (decide (((t.k : Nat) : Int) ≥ (24 : Int))) (fun h_c15 => ?_) (fun h_c15 => ?_))
  · skip
    have p_c15 := of_decide_eq_true h_c15
    exact (by omega : False).elim
  have p_c15 := of_decide_eq_false h_c15
  refine Gx.cut (d' := []) (n' := 34) (fun l' w' => l' = [(0, Z.P b 0), (3, Z.P k1 0), (22, .bool ((decide (((t.k : Nat) : Int) ≥ (12 : Int))) && (((t.k : Nat) : Int) != (23 : Int))))] ∧ w1 = w') (fun K1 hK1 => ?_) (fun bb1 ll1 w2 hI1 => ?_)
  · refine Z.g [0, 1, 2, 3, 4, 5, 6, 7, 8] ?_
    refine Z.p [0] [1, 2, 3, 4, 5, 6, 7, 8] [(23, Z.P k1 0)] ?_
    refine Z.L 0 (Z.n t.k) b1 ?_
    refine Z.p [2, 3] [4, 5, 6, 7, 8] [(26, .bool (decide (((t.k : Nat) : Int) ≥ (12 : Int)))), (25, .bool (decide (((t.k : Nat) : Int) ≥ (12 : Int))))] ?_
    refine Gx.split (decide (((t.k : Nat) : Int) ≥ (12 : Int))) (fun h_g26 => ?_) (fun h_g26 => ?_)
    · rw [h_g26]
      refine Z.p [4] [5, 6, 7, 8] [(27, Z.P k1 0)] ?_
      refine Z.L 0 (Z.n t.k) b1 ?_
      refine Z.p [6, 7, 8] [] [(22, .bool (((t.k : Nat) : Int) != (23 : Int))), (30, .bool (((t.k : Nat) : Int) != (23 : Int))), (29, .bool (((t.k : Nat) : Int) != (23 : Int)))] ?_
      refine Z.e ?_
      rw [Gx.forget [(0, Z.P b 0), (3, Z.P k1 0), (22, .bool ((decide (((t.k : Nat) : Int) ≥ (12 : Int))) && (((t.k : Nat) : Int) != (23 : Int))))] (by rw [h_g26]; try kernel_rfl)]
      exact hK1 _ _ _ ⟨rfl, rfl⟩
    rw [h_g26]
    refine Z.p [4, 5, 6, 7, 8] [] [(22, .bool false), (30, .bool false), (29, undef), (28, undef), (27, undef)] ?_
    refine Z.e ?_
    rw [Gx.forget [(0, Z.P b 0), (3, Z.P k1 0), (22, .bool ((decide (((t.k : Nat) : Int) ≥ (12 : Int))) && (((t.k : Nat) : Int) != (23 : Int))))] (by rw [h_g26]; try kernel_rfl)]
    exact hK1 _ _ _ ⟨rfl, rfl⟩
  obtain ⟨rfl, rfl⟩ := hI1
  refine Z.c ((decide (((t.k : Nat) : Int) ≥ (12 : Int))) && (((t.k : Nat) : Int) != (23 : Int))) (fun h_c22 => ?_) (fun h_c22 => ?_)
  · skip
    have p_c22 := h_c22; try simp [-List.getD_eq_getElem?_getD] at p_c22
    exact (by omega : False).elim
  have p_c22 := h_c22; try simp [-List.getD_eq_getElem?_getD] at p_c22
  refine Z.g [0, 1, 2] ?_
  refine Z.p [0] [1, 2] [(4, Z.P b 0)] ?_
  refine Z.L 0 (.agg (Z.T t A c)) b1 ?_
  have zs1 := (J_size x s).1
  (try simp only [zap, zli, List.length] at zs1)
  refine Z.k (fun R hR => hX B b x _ R (h.ext x1) (by omega) (Gx.Ext.wx hE ((Gx.Wx.refl (e := 5) (wb := b) w hBw).ext x1) hw0B) hw0B (by omega) (fun w3 s1 hs1 x2 hbd1 => hR _ _ ?_))
  have zw3 := x2.size
  rw [← hs1] at zs1
  refine Gx.ops_nil (Gx.block_normal (Gx.ret_n (Gx.res0 rfl) ?_))
  exact hK _ _ hs1 (((Gx.Wx.refl (e := 5) (wb := b) w hBw).ext x1).trans x2) hbd1
theorem node_more (B b : Nat) (x : ByteArray) (w0 : World) (t : Nd) (A : Option Addr) (c : Nat) (s : ByteArray) (w : World) (K : Ending → World → Prop) (h : Bd w B b x) (hBw : B ≤ w.heap.size) (hE : Gx.Ext w0 w) (hw0B : w0.heap.size ≤ B) (hsz : x.size + (s).size ≤ 100000000000) (hk : 12 ≤ t.k ∧ t.k ≤ 20) (hX : EOK 41 w0 (.agg (Z.T t A c)) s) (hK : ∀ w' s', s' = J x (s) → Gx.Wx 5 B b w w' → Bd w' B b s' → K (.returned (.tuple #[])) w') :
    Calls Tryd.prog 16 #[Z.P b 0, .agg (Z.T t A c)] w K := by
  refine Z.en 34 Tryd.func16 ?_
  have tbb : b < w.heap.size := by obtain ⟨_, _, hq, _⟩ := h; exact hq.lt
  have hB : B ≤ b := by obtain ⟨_, _, _, _, hq, _⟩ := h; exact hq
  have hq := hsz; (try simp only [zap, zli, List.length] at hq)
  refine Z.r [0] ?_
  refine Z.N (.cells (Z.T t A c) 24) (fun k1 w1 l1 x1 b1 zw1 tb1 => ?_)
  refine Z.e (wp_block (Z.r [0, 1, 2, 3] ?_))
  refine Z.p [0] [1, 2, 3] [(8, Z.P k1 0)] ?_
  refine Z.L 0 (Z.n t.k) b1 ?_
  refine Z.p [2, 3] [] [(7, .bool (((t.k : Nat) : Int) == (0 : Int))), (10, .bool (((t.k : Nat) : Int) == (0 : Int)))] ?_
  refine Z.e (Z.c (((t.k : Nat) : Int) == (0 : Int)) (fun h_c7 => ?_) (fun h_c7 => ?_))
  · skip
    have n_c7 : t.k = 0 := by have z := Gx.k1 h_c7; omega
    exact (by omega : False).elim
  have n_c7 : ¬ t.k = 0 := by have z := Gx.k0 h_c7; omega
  refine Z.r [0, 1, 2, 3] ?_
  refine Z.p [0] [1, 2, 3] [(16, Z.P k1 0)] ?_
  refine Z.L 0 (Z.n t.k) b1 ?_
  refine Z.p [2, 3] [] [(15, .bool (decide (((t.k : Nat) : Int) ≥ (24 : Int)))), (18, .bool (decide (((t.k : Nat) : Int) ≥ (24 : Int))))] ?_
  refine Z.e (Z.c (decide (((t.k : Nat) : Int) ≥ (24 : Int))) (fun h_c15 => ?_) (fun h_c15 => ?_))
  · skip
    have p_c15 := of_decide_eq_true h_c15
    exact (by omega : False).elim
  have p_c15 := of_decide_eq_false h_c15
  refine Gx.cut (d' := []) (n' := 34) (fun l' w' => l' = [(0, Z.P b 0), (3, Z.P k1 0), (22, .bool ((decide (((t.k : Nat) : Int) ≥ (12 : Int))) && (((t.k : Nat) : Int) != (23 : Int))))] ∧ w1 = w') (fun K1 hK1 => ?_) (fun bb1 ll1 w2 hI1 => ?_)
  · refine Z.g [0, 1, 2, 3, 4, 5, 6, 7, 8] ?_
    refine Z.p [0] [1, 2, 3, 4, 5, 6, 7, 8] [(23, Z.P k1 0)] ?_
    refine Z.L 0 (Z.n t.k) b1 ?_
    refine Z.p [2, 3] [4, 5, 6, 7, 8] [(26, .bool (decide (((t.k : Nat) : Int) ≥ (12 : Int)))), (25, .bool (decide (((t.k : Nat) : Int) ≥ (12 : Int))))] ?_
    refine Gx.split (decide (((t.k : Nat) : Int) ≥ (12 : Int))) (fun h_g26 => ?_) (fun h_g26 => ?_)
    · rw [h_g26]
      refine Z.p [4] [5, 6, 7, 8] [(27, Z.P k1 0)] ?_
      refine Z.L 0 (Z.n t.k) b1 ?_
      refine Z.p [6, 7, 8] [] [(22, .bool (((t.k : Nat) : Int) != (23 : Int))), (30, .bool (((t.k : Nat) : Int) != (23 : Int))), (29, .bool (((t.k : Nat) : Int) != (23 : Int)))] ?_
      refine Z.e ?_
      rw [Gx.forget [(0, Z.P b 0), (3, Z.P k1 0), (22, .bool ((decide (((t.k : Nat) : Int) ≥ (12 : Int))) && (((t.k : Nat) : Int) != (23 : Int))))] (by rw [h_g26]; try kernel_rfl)]
      exact hK1 _ _ _ ⟨rfl, rfl⟩
    rw [h_g26]
    refine Z.p [4, 5, 6, 7, 8] [] [(22, .bool false), (30, .bool false), (29, undef), (28, undef), (27, undef)] ?_
    refine Z.e ?_
    rw [Gx.forget [(0, Z.P b 0), (3, Z.P k1 0), (22, .bool ((decide (((t.k : Nat) : Int) ≥ (12 : Int))) && (((t.k : Nat) : Int) != (23 : Int))))] (by rw [h_g26]; try kernel_rfl)]
    exact hK1 _ _ _ ⟨rfl, rfl⟩
  obtain ⟨rfl, rfl⟩ := hI1
  refine Z.c ((decide (((t.k : Nat) : Int) ≥ (12 : Int))) && (((t.k : Nat) : Int) != (23 : Int))) (fun h_c22 => ?_) (fun h_c22 => ?_)
  · skip
    have p_c22 := h_c22; try simp [-List.getD_eq_getElem?_getD] at p_c22
    refine Z.g [0, 1, 2] ?_
    refine Z.p [0] [1, 2] [(31, Z.P b 0)] ?_
    refine Z.L 0 (.agg (Z.T t A c)) b1 ?_
    have zs1 := (J_size x s).1
    (try simp only [zap, zli, List.length] at zs1)
    refine Z.k (fun R hR => hX B b x _ R (h.ext x1) (by omega) (Gx.Ext.wx hE ((Gx.Wx.refl (e := 5) (wb := b) w hBw).ext x1) hw0B) hw0B (by omega) (fun w3 s1 hs1 x2 hbd1 => hR _ _ ?_))
    have zw3 := x2.size
    rw [← hs1] at zs1
    refine Gx.ops_nil (Gx.block_normal (Gx.ret_n (Gx.res0 rfl) ?_))
    exact hK _ _ hs1 (((Gx.Wx.refl (e := 5) (wb := b) w hBw).ext x1).trans x2) hbd1
  have p_c22 := h_c22; try simp [-List.getD_eq_getElem?_getD] at p_c22
  exact (by omega : False).elim
theorem node_typ (B b : Nat) (x : ByteArray) (w0 : World) (t : Nd) (A : Option Addr) (c : Nat) (s : ByteArray) (w : World) (K : Ending → World → Prop) (h : Bd w B b x) (hBw : B ≤ w.heap.size) (hE : Gx.Ext w0 w) (hw0B : w0.heap.size ≤ B) (hsz : x.size + (s).size ≤ 100000000000) (hk : 24 ≤ t.k ∧ t.k ≤ 29) (hX : EOK 40 w0 (.agg (Z.T t A c)) s) (hK : ∀ w' s', s' = J x (s) → Gx.Wx 5 B b w w' → Bd w' B b s' → K (.returned (.tuple #[])) w') :
    Calls Tryd.prog 16 #[Z.P b 0, .agg (Z.T t A c)] w K := by
  refine Z.en 34 Tryd.func16 ?_
  have tbb : b < w.heap.size := by obtain ⟨_, _, hq, _⟩ := h; exact hq.lt
  have hB : B ≤ b := by obtain ⟨_, _, _, _, hq, _⟩ := h; exact hq
  have hq := hsz; (try simp only [zap, zli, List.length] at hq)
  refine Z.r [0] ?_
  refine Z.N (.cells (Z.T t A c) 24) (fun k1 w1 l1 x1 b1 zw1 tb1 => ?_)
  refine Z.e (wp_block (Z.r [0, 1, 2, 3] ?_))
  refine Z.p [0] [1, 2, 3] [(8, Z.P k1 0)] ?_
  refine Z.L 0 (Z.n t.k) b1 ?_
  refine Z.p [2, 3] [] [(7, .bool (((t.k : Nat) : Int) == (0 : Int))), (10, .bool (((t.k : Nat) : Int) == (0 : Int)))] ?_
  refine Z.e (Z.c (((t.k : Nat) : Int) == (0 : Int)) (fun h_c7 => ?_) (fun h_c7 => ?_))
  · skip
    have n_c7 : t.k = 0 := by have z := Gx.k1 h_c7; omega
    exact (by omega : False).elim
  have n_c7 : ¬ t.k = 0 := by have z := Gx.k0 h_c7; omega
  refine Z.r [0, 1, 2, 3] ?_
  refine Z.p [0] [1, 2, 3] [(16, Z.P k1 0)] ?_
  refine Z.L 0 (Z.n t.k) b1 ?_
  refine Z.p [2, 3] [] [(15, .bool (decide (((t.k : Nat) : Int) ≥ (24 : Int)))), (18, .bool (decide (((t.k : Nat) : Int) ≥ (24 : Int))))] ?_
  refine Z.e (Z.c (decide (((t.k : Nat) : Int) ≥ (24 : Int))) (fun h_c15 => ?_) (fun h_c15 => ?_))
  · skip
    have p_c15 := of_decide_eq_true h_c15
    refine Z.g [0, 1, 2] ?_
    refine Z.p [0] [1, 2] [(19, Z.P b 0)] ?_
    refine Z.L 0 (.agg (Z.T t A c)) b1 ?_
    have zs1 := (J_size x s).1
    (try simp only [zap, zli, List.length] at zs1)
    refine Z.k (fun R hR => hX B b x _ R (h.ext x1) (by omega) (Gx.Ext.wx hE ((Gx.Wx.refl (e := 5) (wb := b) w hBw).ext x1) hw0B) hw0B (by omega) (fun w2 s1 hs1 x2 hbd1 => hR _ _ ?_))
    have zw2 := x2.size
    rw [← hs1] at zs1
    refine Gx.ops_nil (Gx.block_normal (Gx.ret_n (Gx.res0 rfl) ?_))
    exact hK _ _ hs1 (((Gx.Wx.refl (e := 5) (wb := b) w hBw).ext x1).trans x2) hbd1
  have p_c15 := of_decide_eq_false h_c15
  exact (by omega : False).elim
theorem levelP_v (t : Nd) (A : Option Addr) (c : Nat) (L : Int) (w : World) (K : Ending → World → Prop) (ho : Op5 t) (h : lvl t = L) (hK : ∀ w', Gx.Ext w w' → K (.returned (.int .i64 L)) w') : Calls Tryd.prog 66 #[.agg (Z.T t A c)] w K := by
  subst h
  exact levelP_c t A c w K ho hK
end Go.Proofs.YtinilkomfggjiaaDoor
