/- The walks, written by a program of ours (wip/gx/gx.py, lexgen.py). -/
import Derived.Test.YtinilkomfggjiaaDoorRows
import Derived.Test.YtinilkomfggjiaaDoorGs
import Derived.Test.YtinilkomfggjiaaDoorLexPlain
import Derived.Test.YtinilkomfggjiaaDoorLexWalks2
set_option linter.unusedVariables false
set_option linter.unusedSimpArgs false
set_option maxHeartbeats 4000000
set_option maxRecDepth 20000
namespace Go.Proofs.YtinilkomfggjiaaDoor
open Go.RowKit Go.Lex
attribute [local irreducible] Go.wpOps Go.Code.wp Go.wpOp Go.wpAnyH Go.Calls
theorem name_c (s : ByteArray) (i : Nat) (w : World) (K : Ending → World → Prop) (hs : s.size ≤ 3000) (hi : i < s.size) (hK : ∀ w', Gx.Ext w w' → K (.returned (Nx.V (nameAt s i))) w') :
    Calls Tryd.prog 71 #[.string s, Z.n i] w K := by
  refine Z.en 50 Tryd.func71 ?_
  refine Z.r [0, 1, 2] ?_
  refine Z.N (.cells #[.int .i64 0, .int .i64 0, .string Z.E, .int .i64 0] 36) (fun k1 w1 l1 x1 b1 zw1 tb1 => ?_)
  refine Z.p [1] [2] [(5, .int .i64 0)] ?_
  refine Z.N (.cells #[.int .i64 0, .int .i64 0] 27) (fun k2 w2 l2 x2 b2 zw2 tb2 => ?_)
  refine Z.e (Z.s [(7, Z.n i), (9, Z.n i)] ?_)
  refine Gx.cut (d' := []) (n' := 50) (fun l' w' => l' = [(0, .string s), (1, Z.n i), (4, Z.P k1 0), (6, Z.P k2 0), (7, .int .i64 ((stop (fun c => letterB c || digitB c) s i : Nat) : Int))] ∧ Gx.Ext w w' ∧ Gx.Has w' k1 (.cells #[.int .i64 0, .int .i64 0, .string Z.E, .int .i64 0] 36) ∧ Gx.Has w' k2 (.cells #[.int .i64 0, .int .i64 0] 27)) (fun K1 hK1 => ?_) (fun bb1 ll1 w3 hI1 => ?_)
  · skip
    refine wp_block (Gx.loop (n' := 50) (d' := []) (fun mz l' w' => ∃ (e : Nat), l' = [(0, .string s), (1, Z.n i), (4, Z.P k1 0), (6, Z.P k2 0), (7, Z.n e)] ∧ mz = s.size - e ∧ Gx.Ext w w' ∧ Gx.Has w' k1 (.cells #[.int .i64 0, .int .i64 0, .string Z.E, .int .i64 0] 36) ∧ Gx.Has w' k2 (.cells #[.int .i64 0, .int .i64 0] 27) ∧ (i ≤ e ∧ e ≤ s.size) ∧ (stop (fun c => letterB c || digitB c) s e = stop (fun c => letterB c || digitB c) s i)) _ _ [(0, .string s), (1, Z.n i), (4, Z.P k1 0), (6, Z.P k2 0), (7, Z.n i)] (Gx.forget [(0, .string s), (1, Z.n i), (4, Z.P k1 0), (6, Z.P k2 0), (7, Z.n i)] (by kernel_rfl)) ⟨i, rfl, rfl, (((Gx.Ext.refl w).trans x1).trans x2), (b1.ext x2), b2, (by omega), rfl⟩ (fun bb2 m1 ll2 w4 hI2 K2 hK2 => ?_))
    obtain ⟨e, rfl, rfl, x4, b3, b4, he, hst⟩ := hI2
    have zw4 := x4.size
    have tb3 := b3.lt
    have tb4 := b4.lt
    refine wp_seq (Gx.cut (d' := []) (n' := 50) (fun l' w' => l' = [(0, .string s), (1, Z.n i), (4, Z.P k1 0), (6, Z.P k2 0), (7, Z.n e), (27, .bool ((decide (((e : Nat) : Int) < ((s.size : Nat) : Int))) && ((((cls (Gx.byteAt s e) : Nat) : Int) == (4 : Int)) || (((cls (Gx.byteAt s e) : Nat) : Int) == (3 : Int)))))] ∧ Gx.Ext w4 w') (fun K3 hK3 => ?_) (fun bb3 ll3 w5 hI3 => ?_))
    · refine Z.g [0, 1, 2, 3, 4, 5, 6, 7, 8, 9, 10, 11, 12, 13, 14, 15, 16, 17] ?_
      refine Z.p [0, 1, 2, 3, 4] [5, 6, 7, 8, 9, 10, 11, 12, 13, 14, 15, 16, 17] [(14, .bool (decide (((e : Nat) : Int) < ((s.size : Nat) : Int)))), (13, .bool (decide (((e : Nat) : Int) < ((s.size : Nat) : Int)))), (12, Z.n s.size), (11, .string s), (10, Z.n e)] ?_
      refine Gx.split (decide (((e : Nat) : Int) < ((s.size : Nat) : Int))) (fun h_g14 => ?_) (fun h_g14 => ?_)
      · rw [h_g14]
        refine Z.p [5, 6] [7, 8, 9, 10, 11, 12, 13, 14, 15, 16, 17] [(16, Z.n e), (15, .string s)] ?_
        have p_g14 := h_g14; try simp at p_g14
        refine Gx.cons (Gx.op_index_str rfl (by kernel_rfl) rfl (by kernel_rfl) s .i64 e (by kernel_rfl) (by kernel_rfl) (by omega) ?_)
        refine Z.k (fun R hR => class_c (Gx.byteAt s e) _ R  (fun w6 x5  => hR _ _ ?_))
        have zw6 := x5.size
        refine Z.p [9, 10] [11, 12, 13, 14, 15, 16, 17] [(20, .bool (((cls (Gx.byteAt s e) : Nat) : Int) == (4 : Int))), (19, .bool (((cls (Gx.byteAt s e) : Nat) : Int) == (4 : Int)))] ?_
        refine Gx.split (((cls (Gx.byteAt s e) : Nat) : Int) == (4 : Int)) (fun h_g20 => ?_) (fun h_g20 => ?_)
        · rw [h_g20]
          refine Z.p [11, 12, 13, 14, 15, 16, 17] [] [(27, .bool true), (26, .bool true), (25, undef), (24, undef), (23, undef), (22, undef), (21, undef)] ?_
          refine Z.e ?_
          rw [Gx.forget [(0, .string s), (1, Z.n i), (4, Z.P k1 0), (6, Z.P k2 0), (7, Z.n e), (27, .bool ((decide (((e : Nat) : Int) < ((s.size : Nat) : Int))) && ((((cls (Gx.byteAt s e) : Nat) : Int) == (4 : Int)) || (((cls (Gx.byteAt s e) : Nat) : Int) == (3 : Int)))))] (by rw [h_g14, h_g20]; try kernel_rfl)]
          exact hK3 _ _ _ ⟨rfl, ((Gx.Ext.refl w4).trans x5)⟩
        rw [h_g20]
        refine Z.p [11, 12] [13, 14, 15, 16, 17] [(22, Z.n e), (21, .string s)] ?_
        have p_g20 := h_g20; try simp at p_g20
        refine Gx.cons (Gx.op_index_str rfl (by kernel_rfl) rfl (by kernel_rfl) s .i64 e (by kernel_rfl) (by kernel_rfl) (by omega) ?_)
        refine Z.k (fun R hR => class_c (Gx.byteAt s e) _ R  (fun w7 x6  => hR _ _ ?_))
        have zw7 := x6.size
        refine Z.p [15, 16, 17] [] [(27, .bool (((cls (Gx.byteAt s e) : Nat) : Int) == (3 : Int))), (26, .bool (((cls (Gx.byteAt s e) : Nat) : Int) == (3 : Int))), (25, .bool (((cls (Gx.byteAt s e) : Nat) : Int) == (3 : Int)))] ?_
        refine Z.e ?_
        rw [Gx.forget [(0, .string s), (1, Z.n i), (4, Z.P k1 0), (6, Z.P k2 0), (7, Z.n e), (27, .bool ((decide (((e : Nat) : Int) < ((s.size : Nat) : Int))) && ((((cls (Gx.byteAt s e) : Nat) : Int) == (4 : Int)) || (((cls (Gx.byteAt s e) : Nat) : Int) == (3 : Int)))))] (by rw [h_g14, h_g20]; try kernel_rfl)]
        exact hK3 _ _ _ ⟨rfl, (((Gx.Ext.refl w4).trans x5).trans x6)⟩
      rw [h_g14]
      refine Z.p [5, 6, 7, 8, 9, 10, 11, 12, 13, 14, 15, 16, 17] [] [(27, .bool false), (26, undef), (25, undef), (24, undef), (23, undef), (22, undef), (21, undef), (20, undef), (19, undef), (18, undef), (17, undef), (16, undef), (15, undef)] ?_
      refine Z.e ?_
      rw [Gx.forget [(0, .string s), (1, Z.n i), (4, Z.P k1 0), (6, Z.P k2 0), (7, Z.n e), (27, .bool ((decide (((e : Nat) : Int) < ((s.size : Nat) : Int))) && ((((cls (Gx.byteAt s e) : Nat) : Int) == (4 : Int)) || (((cls (Gx.byteAt s e) : Nat) : Int) == (3 : Int)))))] (by rw [h_g14]; try kernel_rfl)]
      exact hK3 _ _ _ ⟨rfl, (Gx.Ext.refl w4)⟩
    obtain ⟨rfl, x7⟩ := hI3
    have zw5 := x7.size
    refine Z.c ((decide (((e : Nat) : Int) < ((s.size : Nat) : Int))) && ((((cls (Gx.byteAt s e) : Nat) : Int) == (4 : Int)) || (((cls (Gx.byteAt s e) : Nat) : Int) == (3 : Int)))) (fun h_c27 => ?_) (fun h_c27 => ?_)
    · skip
      refine wp_skip (Z.x (wp_block (Z.g [0, 1, 2] ?_)))
      refine Z.p [0] [1, 2] [(28, Z.n e)] ?_
      have p_c27 := h_c27; try simp at p_c27
      refine Gx.pure_eq [1] [2] [(29, .int .i64 (IntKind.i64.wrap (((e : Nat) : Int) + (1 : Int))))] [(29, .int .i64 ((e + 1 : Nat) : Int))] rfl (by kernel_rfl) (Gx.eqI (Gx.i64n (by omega) (by omega))) ?_
      refine Z.p [2] [] [(7, .int .i64 ((e + 1 : Nat) : Int))] ?_
      refine Gx.ops_nil (Gx.block_normal (Z.x ?_))
      rw [Gx.forget [(0, .string s), (1, Z.n i), (4, Z.P k1 0), (6, Z.P k2 0), (7, .int .i64 ((e + 1 : Nat) : Int))] (by kernel_rfl)]
      exact hK2 _ _ _ _ (by omega) ⟨e + 1, rfl, rfl, (((Gx.Ext.refl w).trans x4).trans x7), (b3.ext x7), (b4.ext x7), (by omega), (by rw [← hst, stop_go (p := (fun c => letterB c || digitB c)) (s := s) (k := e) (by omega) (by rw [cls_let] at h_c27; simp at h_c27; simpa using h_c27.2)])⟩
    refine wp_exit (Gx.then_exit (Gx.then_exit (Gx.block_exit (Z.x ?_))))
    have p_c27 := h_c27; try simp at p_c27
    rw [Gx.forget [(0, .string s), (1, Z.n i), (4, Z.P k1 0), (6, Z.P k2 0), (7, .int .i64 ((stop (fun c => letterB c || digitB c) s i : Nat) : Int))] (by rw [show stop (fun c => letterB c || digitB c) s i = e from hst.symm.trans (stop_at (by rw [cls_let] at h_c27; simpa using h_c27))]; kernel_rfl)]
    exact hK1 _ _ _ ⟨rfl, (((Gx.Ext.refl w).trans x4).trans x7), (b3.ext x7), (b4.ext x7)⟩
  obtain ⟨rfl, x3, b5, b6⟩ := hI1
  have zw3 := x3.size
  have tb5 := b5.lt
  have tb6 := b6.lt
  refine wp_seq ?_
  have hc1 := le_stop (fun c => letterB c || digitB c) s i
  have hc2 := stop_le (fun c => letterB c || digitB c) s i (by omega)
  refine Z.r [0, 1, 2, 3] ?_
  refine Z.p [0, 1] [2, 3] [(31, Z.n i), (30, .int .i64 ((stop (fun c => letterB c || digitB c) s i : Nat) : Int))] ?_
  refine Gx.pure_eq [2] [3] [(32, .int .i64 (IntKind.i64.wrap (((stop (fun c => letterB c || digitB c) s i : Nat) : Int) - ((i : Nat) : Int))))] [(32, .int .i64 (((stop (fun c => letterB c || digitB c) s i : Nat) : Int) - ((i : Nat) : Int)))] rfl (by kernel_rfl) (Gx.eqI (IntWalk.i64_in _ (by omega))) ?_
  refine Z.p [3] [] [(33, .bool (decide ((((stop (fun c => letterB c || digitB c) s i : Nat) : Int) - ((i : Nat) : Int)) > (20 : Int))))] ?_
  refine Z.e (Z.c (decide ((((stop (fun c => letterB c || digitB c) s i : Nat) : Int) - ((i : Nat) : Int)) > (20 : Int))) (fun h_c33 => ?_) (fun h_c33 => ?_))
  · skip
    refine Z.r [0, 1, 2, 3, 4, 5] ?_
    refine Z.p [0, 1, 2] [3, 4, 5] [(36, .agg #[.int .i64 3, Z.n i]), (35, Z.n i), (34, .agg #[.int .i64 0, .int .i64 0, .string Z.E, .int .i64 0])] ?_
    refine Z.Sa #[.int .i64 0, .int .i64 0, .string Z.E, .int .i64 0] b5 (fun w8 u1 b7 zw8 => ?_)
    refine Z.p [4] [5] [(5, .int .i64 0)] ?_
    have p_c33 := h_c33; try simp at p_c33
    refine Z.Sa #[.int .i64 3, Z.n i] (b6.upd1 u1) (fun w9 u2 b8 zw9 => ?_)
    refine Z.e (wp_ret (Gx.then_ret (Gx.ret (Gx.res_ctc (u := .agg #[.int .i64 0, .int .i64 0, .string Z.E, .int .i64 0]) (v := .int .i64 0) (x := .agg #[.int .i64 3, Z.n i]) rfl (by kernel_rfl) (by kernel_rfl) (b7.upd1 u2) (by kernel_rfl) (by kernel_rfl) b8 (by kernel_rfl)) ?_)))
    exact Gx.ret_as (v' := Nx.V (nameAt s i)) (by unfold nameAt; rw [if_pos (by omega)]; rfl) (hK _ ((((Gx.Ext.refl w).trans x3).upd1 u1).upd1 u2))
  refine wp_skip (Z.x (Z.r [0, 1, 2, 3, 4, 5, 6, 7] ?_))
  refine Z.p [0, 1, 2, 3] [4, 5, 6, 7] [(40, .int .i64 ((stop (fun c => letterB c || digitB c) s i : Nat) : Int)), (39, Z.n i), (38, .string s), (37, Z.n i)] ?_
  have p_c33 := h_c33; try simp at p_c33
  refine Gx.cons (Gx.op_slice_str rfl (by kernel_rfl) rfl (by kernel_rfl) s i (stop (fun c => letterB c || digitB c) s i) (by kernel_rfl) (.inr ⟨.i64, (by kernel_rfl)⟩) (.inr ⟨.i64, (by kernel_rfl)⟩) (by omega) (by omega) ?_)
  refine Z.p [5] [6, 7] [(42, .agg #[.int .i64 2, Z.n i, .string (s.extract i (stop (fun c => letterB c || digitB c) s i)), .int .i64 0])] ?_
  refine Z.N (.cells #[.int .i64 0, .int .i64 0, .string Z.E, .int .i64 0] 36) (fun k3 w10 l3 x8 b9 zw10 tb9 => ?_)
  refine Z.Sa #[.int .i64 2, Z.n i, .string (s.extract i (stop (fun c => letterB c || digitB c) s i)), .int .i64 0] b9 (fun w11 u3 b10 zw11 => ?_)
  refine Z.e (wp_seq (Z.r [0, 1, 2] ?_))
  refine Z.p [0] [1, 2] [(43, Z.P k3 2)] ?_
  refine Z.L 2 (.string (s.extract i (stop (fun c => letterB c || digitB c) s i))) b10 ?_
  refine Z.k (fun R hR => isWord_c (s.extract i (stop (fun c => letterB c || digitB c) s i)) _ R  (fun w12 x9  => hR _ _ ?_))
  have zw12 := x9.size
  refine Z.e (Z.c (wordB (s.extract i (stop (fun c => letterB c || digitB c) s i))) (fun h_c45 => ?_) (fun h_c45 => ?_))
  · skip
    refine Z.g [0, 1] ?_
    refine Z.p [0] [1] [(46, Z.P k3 0)] ?_
    refine Z.S 0 (.int .i64 3) (b10.ext x9) #[.int .i64 3, Z.n i, .string (s.extract i (stop (fun c => letterB c || digitB c) s i)), .int .i64 0] (fun w13 u4 b11 zw13 => ?_)
    refine Gx.ops_nil (Z.x (Z.r [0, 1, 2, 3, 4, 5] ?_))
    refine Z.L 0 (.agg #[.int .i64 3, Z.n i, .string (s.extract i (stop (fun c => letterB c || digitB c) s i)), .int .i64 0]) b11 ?_
    refine Z.p [1, 2] [3, 4, 5] [(49, .agg #[.int .i64 0, .int .i64 0]), (48, .int .i64 ((stop (fun c => letterB c || digitB c) s i : Nat) : Int))] ?_
    have p_c45 := h_c45; try simp at p_c45
    refine Z.Sa #[.int .i64 3, Z.n i, .string (s.extract i (stop (fun c => letterB c || digitB c) s i)), .int .i64 0] ((((b5.ext x8).upd1 u3).ext x9).upd1 u4) (fun w14 u5 b12 zw14 => ?_)
    refine Z.p [4] [5] [(5, .int .i64 ((stop (fun c => letterB c || digitB c) s i : Nat) : Int))] ?_
    refine Z.Sa #[.int .i64 0, .int .i64 0] (((((b6.ext x8).upd1 u3).ext x9).upd1 u4).upd1 u5) (fun w15 u6 b13 zw15 => ?_)
    refine Z.e (wp_ret (Gx.ret (Gx.res_ctc (u := .agg #[.int .i64 3, Z.n i, .string (s.extract i (stop (fun c => letterB c || digitB c) s i)), .int .i64 0]) (v := .int .i64 ((stop (fun c => letterB c || digitB c) s i : Nat) : Int)) (x := .agg #[.int .i64 0, .int .i64 0]) rfl (by kernel_rfl) (by kernel_rfl) (b12.upd1 u6) (by kernel_rfl) (by kernel_rfl) b13 (by kernel_rfl)) ?_))
    exact Gx.ret_as (v' := Nx.V (nameAt s i)) (by unfold nameAt; rw [if_neg (by omega)]; rw [if_pos h_c45]; rfl) (hK _ ((((((((Gx.Ext.refl w).trans x3).trans x8).upd1 u3).trans x9).upd1 u4).upd1 u5).upd1 u6))
  refine wp_skip (Z.x (Z.r [0, 1, 2, 3, 4, 5] ?_))
  refine Z.L 0 (.agg #[.int .i64 2, Z.n i, .string (s.extract i (stop (fun c => letterB c || digitB c) s i)), .int .i64 0]) (b10.ext x9) ?_
  refine Z.p [1, 2] [3, 4, 5] [(49, .agg #[.int .i64 0, .int .i64 0]), (48, .int .i64 ((stop (fun c => letterB c || digitB c) s i : Nat) : Int))] ?_
  have p_c45 := h_c45; try simp at p_c45
  refine Z.Sa #[.int .i64 2, Z.n i, .string (s.extract i (stop (fun c => letterB c || digitB c) s i)), .int .i64 0] (((b5.ext x8).upd1 u3).ext x9) (fun w16 u7 b14 zw16 => ?_)
  refine Z.p [4] [5] [(5, .int .i64 ((stop (fun c => letterB c || digitB c) s i : Nat) : Int))] ?_
  refine Z.Sa #[.int .i64 0, .int .i64 0] ((((b6.ext x8).upd1 u3).ext x9).upd1 u7) (fun w17 u8 b15 zw17 => ?_)
  refine Z.e (wp_ret (Gx.ret (Gx.res_ctc (u := .agg #[.int .i64 2, Z.n i, .string (s.extract i (stop (fun c => letterB c || digitB c) s i)), .int .i64 0]) (v := .int .i64 ((stop (fun c => letterB c || digitB c) s i : Nat) : Int)) (x := .agg #[.int .i64 0, .int .i64 0]) rfl (by kernel_rfl) (by kernel_rfl) (b14.upd1 u8) (by kernel_rfl) (by kernel_rfl) b15 (by kernel_rfl)) ?_))
  exact Gx.ret_as (v' := Nx.V (nameAt s i)) (by unfold nameAt; rw [if_neg (by omega)]; rw [if_neg (by rw [h_c45]; simp)]; rfl) (hK _ (((((((Gx.Ext.refl w).trans x3).trans x8).upd1 u3).trans x9).upd1 u7).upd1 u8))
theorem pnumber_c (s : ByteArray) (i : Nat) (w : World) (K : Ending → World → Prop) (hs : s.size ≤ 3000) (hi : i < s.size) (hK : ∀ w', Gx.Ext w w' → K (.returned (Nx.V (numAt s i))) w') :
    Calls Tryd.prog 70 #[.string s, Z.n i] w K := by
  refine Z.en 68 Tryd.func70 ?_
  refine Z.r [0, 1, 2] ?_
  refine Z.N (.cells #[.int .i64 0, .int .i64 0, .string Z.E, .int .i64 0] 36) (fun k1 w1 l1 x1 b1 zw1 tb1 => ?_)
  refine Z.p [1] [2] [(5, .int .i64 0)] ?_
  refine Z.N (.cells #[.int .i64 0, .int .i64 0] 27) (fun k2 w2 l2 x2 b2 zw2 tb2 => ?_)
  refine Z.e (Z.s [(9, .bool true), (8, Z.n s.size), (7, .int .u64 0), (14, Z.n s.size), (13, .string s)] ?_)
  refine wp_seq (Z.r [0, 1, 2, 3] ?_)
  refine Z.p [0, 1] [2, 3] [(16, Z.n i), (15, .string s)] ?_
  refine Gx.cons (Gx.op_slice_str rfl (by kernel_rfl) rfl (by kernel_rfl) s i s.size (by kernel_rfl) (.inr ⟨.i64, (by kernel_rfl)⟩) (.inl ⟨rfl, rfl⟩) (by omega) (by omega) ?_)
  refine Z.N (.stringIter (s.extract i s.size) 0) (fun k3 w3 l3 x3 b3 zw3 tb3 => ?_)
  refine Z.e (wp_block (Gx.loop (n' := 68) (d' := []) (fun mz l' w' => ∃ (m : Nat) (v : Nat) (f : Bool), l' = [(0, .string s), (1, Z.n i), (4, Z.P k1 0), (6, Z.P k2 0), (18, Z.P k3 0), (7, .int .u64 ((v : Nat) : Int)), (8, Z.n s.size), (9, .bool f)] ∧ mz = s.size - i - m ∧ Gx.Ext w w' ∧ Gx.Has w' k1 (.cells #[.int .i64 0, .int .i64 0, .string Z.E, .int .i64 0] 36) ∧ Gx.Has w' k2 (.cells #[.int .i64 0, .int .i64 0] 27) ∧ Gx.Has w' k3 (.stringIter (s.extract i s.size) m) ∧ (i + m ≤ s.size) ∧ (stop digitB s (i + m) = stop digitB s i) ∧ (v ≤ 9223372036854775807) ∧ (f = decide (dval s i m ≤ maxInt)) ∧ (f = true → v = dval s i m)) _ _ [(0, .string s), (1, Z.n i), (4, Z.P k1 0), (6, Z.P k2 0), (18, Z.P k3 0), (7, .int .u64 ((0 : Nat) : Int)), (8, Z.n s.size), (9, .bool true)] (Gx.forget [(0, .string s), (1, Z.n i), (4, Z.P k1 0), (6, Z.P k2 0), (18, Z.P k3 0), (7, .int .u64 ((0 : Nat) : Int)), (8, Z.n s.size), (9, .bool true)] (by kernel_rfl)) ⟨0, 0, true, rfl, rfl, ((((Gx.Ext.refl w).trans x1).trans x2).trans x3), ((b1.ext x2).ext x3), (b2.ext x3), b3, (by omega), rfl, (by omega), (by simp [dval]), (fun _ => rfl)⟩ (fun bb1 m1 ll1 w4 hI1 K1 hK1 => ?_)))
  obtain ⟨m, v, f, rfl, rfl, x4, b4, b5, b6, hm, hst, hvm, hf, hv⟩ := hI1
  have zw4 := x4.size
  have tb4 := b4.lt
  have tb5 := b5.lt
  have tb6 := b6.lt
  rcases num_cases s i m hm with hz | ⟨hz, hdg, hdec⟩ | ⟨hz, hdg, rc, wd, hdec⟩
  · skip
    have hend : stop digitB s i = s.size := by rw [← hst, stop_at (by omega)]; omega
    refine Z.r [0, 1] ?_
    refine Gx.cons (Gx.op_next_end rfl (by kernel_rfl) rfl (s.extract i s.size) m (by kernel_rfl) b6 (by rw [size_ext (Nat.le_refl _)]; omega) ?_)
    refine Z.p [1] [] [(20, .bool false)] ?_
    refine Z.e (wp_seq (Z.cf ?_))
    refine wp_exit (Gx.then_exit (Gx.then_exit (Gx.block_exit (Z.x (wp_seq (Gx.cut (d' := []) (n' := 68) (fun l' w' => l' = [(1, Z.n i), (4, Z.P k1 0), (6, Z.P k2 0), (7, .int .u64 ((v : Nat) : Int)), (8, Z.n s.size), (58, .bool ((!f) || ((decide ((((s.size : Nat) : Int) - ((i : Nat) : Int)) > (1 : Int))) && (((Gx.byteAt s i).toNat : Int) == (48 : Int)))))] ∧ w4 = w') (fun K2 hK2 => ?_) (fun bb2 ll2 w5 hI2 => ?_)))))))
    · refine Z.g [0, 1, 2, 3, 4, 5, 6, 7, 8, 9, 10, 11, 12, 13] ?_
      refine Z.p [0, 1, 2] [3, 4, 5, 6, 7, 8, 9, 10, 11, 12, 13] [(47, .bool (!f)), (46, .bool (!f)), (45, .bool f)] ?_
      refine Gx.split (!f) (fun h_g47 => ?_) (fun h_g47 => ?_)
      · rw [h_g47]
        refine Z.p [3, 4, 5, 6, 7, 8, 9, 10, 11, 12, 13] [] [(58, .bool true), (57, undef), (56, undef), (55, undef), (54, undef), (53, undef), (52, undef), (51, undef), (50, undef), (49, undef), (48, undef)] ?_
        refine Z.e ?_
        rw [Gx.forget [(1, Z.n i), (4, Z.P k1 0), (6, Z.P k2 0), (7, .int .u64 ((v : Nat) : Int)), (8, Z.n s.size), (58, .bool ((!f) || ((decide ((((s.size : Nat) : Int) - ((i : Nat) : Int)) > (1 : Int))) && (((Gx.byteAt s i).toNat : Int) == (48 : Int)))))] (by rw [h_g47]; try kernel_rfl)]
        exact hK2 _ _ _ ⟨rfl, rfl⟩
      rw [h_g47]
      refine Z.p [3, 4] [5, 6, 7, 8, 9, 10, 11, 12, 13] [(49, Z.n i), (48, Z.n s.size)] ?_
      have p_g47 := h_g47; try simp at p_g47
      refine Gx.pure_eq [5] [6, 7, 8, 9, 10, 11, 12, 13] [(50, .int .i64 (IntKind.i64.wrap (((s.size : Nat) : Int) - ((i : Nat) : Int))))] [(50, .int .i64 (((s.size : Nat) : Int) - ((i : Nat) : Int)))] rfl (by kernel_rfl) (Gx.eqI (IntWalk.i64_in _ (by omega))) ?_
      refine Z.p [6, 7] [8, 9, 10, 11, 12, 13] [(52, .bool (decide ((((s.size : Nat) : Int) - ((i : Nat) : Int)) > (1 : Int)))), (51, .bool (decide ((((s.size : Nat) : Int) - ((i : Nat) : Int)) > (1 : Int))))] ?_
      refine Gx.split (decide ((((s.size : Nat) : Int) - ((i : Nat) : Int)) > (1 : Int))) (fun h_g52 => ?_) (fun h_g52 => ?_)
      · rw [h_g52]
        refine Z.p [8, 9] [10, 11, 12, 13] [(54, Z.n i), (53, .string s)] ?_
        have p_g52 := h_g52; try simp at p_g52
        refine Gx.cons (Gx.op_index_str rfl (by kernel_rfl) rfl (by kernel_rfl) s .i64 i (by kernel_rfl) (by kernel_rfl) (by omega) ?_)
        refine Z.p [11, 12, 13] [] [(58, .bool (((Gx.byteAt s i).toNat : Int) == (48 : Int))), (57, .bool (((Gx.byteAt s i).toNat : Int) == (48 : Int))), (56, .bool (((Gx.byteAt s i).toNat : Int) == (48 : Int)))] ?_
        refine Z.e ?_
        rw [Gx.forget [(1, Z.n i), (4, Z.P k1 0), (6, Z.P k2 0), (7, .int .u64 ((v : Nat) : Int)), (8, Z.n s.size), (58, .bool ((!f) || ((decide ((((s.size : Nat) : Int) - ((i : Nat) : Int)) > (1 : Int))) && (((Gx.byteAt s i).toNat : Int) == (48 : Int)))))] (by rw [h_g47, h_g52]; try kernel_rfl)]
        exact hK2 _ _ _ ⟨rfl, rfl⟩
      rw [h_g52]
      refine Z.p [8, 9, 10, 11, 12, 13] [] [(58, .bool false), (57, .bool false), (56, undef), (55, undef), (54, undef), (53, undef)] ?_
      refine Z.e ?_
      rw [Gx.forget [(1, Z.n i), (4, Z.P k1 0), (6, Z.P k2 0), (7, .int .u64 ((v : Nat) : Int)), (8, Z.n s.size), (58, .bool ((!f) || ((decide ((((s.size : Nat) : Int) - ((i : Nat) : Int)) > (1 : Int))) && (((Gx.byteAt s i).toNat : Int) == (48 : Int)))))] (by rw [h_g47, h_g52]; try kernel_rfl)]
      exact hK2 _ _ _ ⟨rfl, rfl⟩
    obtain ⟨rfl, rfl⟩ := hI2
    refine Z.c ((!f) || ((decide ((((s.size : Nat) : Int) - ((i : Nat) : Int)) > (1 : Int))) && (((Gx.byteAt s i).toNat : Int) == (48 : Int)))) (fun h_c58 => ?_) (fun h_c58 => ?_)
    · skip
      refine Z.r [0, 1, 2, 3, 4, 5] ?_
      refine Z.p [0, 1, 2] [3, 4, 5] [(61, .agg #[.int .i64 3, Z.n i]), (60, Z.n i), (59, .agg #[.int .i64 0, .int .i64 0, .string Z.E, .int .i64 0])] ?_
      refine Z.Sa #[.int .i64 0, .int .i64 0, .string Z.E, .int .i64 0] b4 (fun w6 u1 b7 zw6 => ?_)
      refine Z.p [4] [5] [(5, .int .i64 0)] ?_
      have p_c58 := h_c58; try simp at p_c58
      refine Z.Sa #[.int .i64 3, Z.n i] (b5.upd1 u1) (fun w7 u2 b8 zw7 => ?_)
      refine Z.e (wp_ret (Gx.then_ret (Gx.ret (Gx.res_ctc (u := .agg #[.int .i64 0, .int .i64 0, .string Z.E, .int .i64 0]) (v := .int .i64 0) (x := .agg #[.int .i64 3, Z.n i]) rfl (by kernel_rfl) (by kernel_rfl) (b7.upd1 u2) (by kernel_rfl) (by kernel_rfl) b8 (by kernel_rfl)) ?_)))
      exact Gx.ret_as (v' := Nx.V (numAt s i)) (by rw [numOk_eq (s := s) (i := i) (e := s.size) (by rw [hf]; congr; omega) (by omega)] at h_c58; unfold numAt; rw [hend, if_neg (by simpa using h_c58)]; rfl) (hK _ ((((Gx.Ext.refl w).trans x4).upd1 u1).upd1 u2))
    refine wp_skip (Z.x (Z.r [0, 1, 2, 3, 4, 5, 6, 7, 8] ?_))
    refine Z.p [0, 1] [2, 3, 4, 5, 6, 7, 8] [(63, .int .u64 ((v : Nat) : Int)), (62, Z.n i)] ?_
    have p_c58 := h_c58; try simp at p_c58
    refine Gx.pure_eq [2] [3, 4, 5, 6, 7, 8] [(64, .int .i64 (IntKind.i64.wrap ((v : Nat) : Int)))] [(64, Z.n v)] rfl (by kernel_rfl) (Gx.eqI (IntWalk.i64_in _ (by omega))) ?_
    refine Z.p [3, 4, 5] [6, 7, 8] [(67, .agg #[.int .i64 0, .int .i64 0]), (66, Z.n s.size), (65, .agg #[.int .i64 1, Z.n i, .string Z.E, Z.n v])] ?_
    refine Z.Sa #[.int .i64 1, Z.n i, .string Z.E, Z.n v] b4 (fun w8 u3 b9 zw8 => ?_)
    refine Z.p [7] [8] [(5, Z.n s.size)] ?_
    refine Z.Sa #[.int .i64 0, .int .i64 0] (b5.upd1 u3) (fun w9 u4 b10 zw9 => ?_)
    refine Z.e (wp_ret (Gx.ret (Gx.res_ctc (u := .agg #[.int .i64 1, Z.n i, .string Z.E, Z.n v]) (v := Z.n s.size) (x := .agg #[.int .i64 0, .int .i64 0]) rfl (by kernel_rfl) (by kernel_rfl) (b9.upd1 u4) (by kernel_rfl) (by kernel_rfl) b10 (by kernel_rfl)) ?_))
    exact Gx.ret_as (v' := Nx.V (numAt s i)) (by have hq := h_c58; rw [numOk_eq (s := s) (i := i) (e := s.size) (by rw [hf]; congr; omega) (by omega)] at hq; have hft : f = true := (by revert h_c58; cases f <;> simp); unfold numAt; rw [hend, if_pos (by simpa using hq), hv hft, show s.size - i = m by omega]; rfl) (hK _ ((((Gx.Ext.refl w).trans x4).upd1 u3).upd1 u4))
  · skip
    refine Z.r [0, 1] ?_
    refine Gx.cons (Gx.op_next_as rfl (by kernel_rfl) rfl (s.extract i s.size) m (by kernel_rfl) b6 (by rw [size_ext (Nat.le_refl _)]; omega) ((Gx.byteAt s (i + m)).toNat) 1 hdec (fun w10 u5 b11 => ?_))
    have zw10 := u5.size
    refine Z.p [1] [] [(20, .bool true)] ?_
    refine Z.e (wp_seq (Z.ct ?_))
    refine wp_skip (Z.x (wp_block (Z.s [(10, Z.n m), (21, Z.n m)] ?_)))
    refine Z.r [0, 1, 2, 3, 4, 5] ?_
    refine Z.p [0, 1, 2] [3, 4, 5] [(24, Z.n m), (23, Z.n i), (22, .string s)] ?_
    refine Gx.pure_eq [3] [4, 5] [(25, .int .i64 (IntKind.i64.wrap (((i : Nat) : Int) + ((m : Nat) : Int))))] [(25, .int .i64 ((i + m : Nat) : Int))] rfl (by kernel_rfl) (Gx.eqI (Gx.i64n (by omega) (by omega))) ?_
    refine Gx.cons (Gx.op_index_str rfl (by kernel_rfl) rfl (by kernel_rfl) s .i64 (i + m) (by kernel_rfl) (by kernel_rfl) (by omega) ?_)
    refine Z.p [5] [] [(11, .int .u8 ((Gx.byteAt s (i + m)).toNat : Int))] ?_
    refine Z.e (wp_seq (Z.r [0, 1, 2] ?_))
    refine Z.p [0] [1, 2] [(27, .int .u8 ((Gx.byteAt s (i + m)).toNat : Int))] ?_
    refine Z.k (fun R hR => class_c (Gx.byteAt s (i + m)) _ R  (fun w11 x5  => hR _ _ ?_))
    have zw11 := x5.size
    refine Z.p [2] [] [(29, .bool (((cls (Gx.byteAt s (i + m)) : Nat) : Int) != (3 : Int)))] ?_
    refine Z.e (Z.c (((cls (Gx.byteAt s (i + m)) : Nat) : Int) != (3 : Int)) (fun h_c29 => ?_) (fun h_c29 => ?_))
    · skip
      have p_c29 := h_c29; try simp at p_c29
      exact absurd ((cls_digit _).2 hdg) (by omega)
    refine wp_skip (Z.x ?_)
    have p_c29 := h_c29; try simp at p_c29
    have hd' := (digit_iff _).1 hdg
    refine Z.r [0, 1, 2, 3] ?_
    refine Z.p [0] [1, 2, 3] [(33, .int .u8 ((Gx.byteAt s (i + m)).toNat : Int))] ?_
    refine Gx.pure_eq [1] [2, 3] [(34, .int .u8 (IntKind.u8.wrap (((Gx.byteAt s (i + m)).toNat : Int) - (48 : Int))))] [(34, .int .u8 (((Gx.byteAt s (i + m)).toNat - 48 : Nat) : Int))] rfl (by kernel_rfl) (Gx.eqI ((by rw [IntWalk.u8_in _ (by omega)]; omega))) ?_
    refine Gx.pure_eq [2] [3] [(35, .int .u64 (IntKind.u64.wrap (((Gx.byteAt s (i + m)).toNat - 48 : Nat) : Int)))] [(35, .int .u64 (((Gx.byteAt s (i + m)).toNat - 48 : Nat) : Int))] rfl (by kernel_rfl) (Gx.eqI (IntWalk.u64_in _ (by omega))) ?_
    refine Z.p [3] [] [(12, .int .u64 (((Gx.byteAt s (i + m)).toNat - 48 : Nat) : Int))] ?_
    refine Z.e (Z.r [0, 1, 2, 3, 4] ?_)
    refine Z.p [0, 1] [2, 3, 4] [(37, .int .u64 (((Gx.byteAt s (i + m)).toNat - 48 : Nat) : Int)), (36, .int .u64 ((v : Nat) : Int))] ?_
    refine Gx.pure_eq [2] [3, 4] [(38, .int .u64 (IntKind.u64.wrap ((9223372036854775807 : Int) - (((Gx.byteAt s (i + m)).toNat - 48 : Nat) : Int))))] [(38, .int .u64 ((9223372036854775807 : Int) - (((Gx.byteAt s (i + m)).toNat - 48 : Nat) : Int)))] rfl (by kernel_rfl) (Gx.eqI (IntWalk.u64_in _ (by omega))) ?_
    refine Gx.pure_eq [3] [4] [(39, .int .u64 (IntKind.u64.wrap (Int.tdiv ((9223372036854775807 : Int) - (((Gx.byteAt s (i + m)).toNat - 48 : Nat) : Int)) (10 : Int))))] [(39, .int .u64 (((9223372036854775807 : Int) - (((Gx.byteAt s (i + m)).toNat - 48 : Nat) : Int)) / (10 : Int)))] rfl (by kernel_rfl) (Gx.eqI (IntWalk.u64_quo _ _ (by omega))) ?_
    refine Z.p [4] [] [(40, .bool (decide (((v : Nat) : Int) > (((9223372036854775807 : Int) - (((Gx.byteAt s (i + m)).toNat - 48 : Nat) : Int)) / (10 : Int)))))] ?_
    refine Z.e (Z.c (decide (((v : Nat) : Int) > (((9223372036854775807 : Int) - (((Gx.byteAt s (i + m)).toNat - 48 : Nat) : Int)) / (10 : Int)))) (fun h_c40 => ?_) (fun h_c40 => ?_))
    · skip
      refine Z.u [(9, .bool false)] ?_
      refine Gx.block_normal (Z.x ?_)
      have p_c40 := h_c40; try simp at p_c40
      rw [Gx.forget [(0, .string s), (1, Z.n i), (4, Z.P k1 0), (6, Z.P k2 0), (18, Z.P k3 0), (7, .int .u64 ((v : Nat) : Int)), (8, Z.n s.size), (9, .bool false)] (by kernel_rfl)]
      exact hK1 _ _ _ _ (by omega) ⟨m + 1, v, false, rfl, rfl, ((((Gx.Ext.refl w).trans x4).upd1 u5).trans x5), ((b4.upd1 u5).ext x5), ((b5.upd1 u5).ext x5), (b11.ext x5), (by omega), (by rw [← hst, stop_go (p := digitB) (s := s) (k := i + m) (by omega) hdg]; rfl), hvm, (fits_no hf hv rfl (by omega) (by unfold maxInt; omega)), (fun q => by cases q)⟩
    refine Z.g [0, 1, 2, 3, 4] ?_
    refine Z.p [0] [1, 2, 3, 4] [(41, .int .u64 ((v : Nat) : Int))] ?_
    have p_c40 := h_c40; try simp at p_c40
    refine Gx.pure_eq [1] [2, 3, 4] [(42, .int .u64 (IntKind.u64.wrap (((v : Nat) : Int) * (10 : Int))))] [(42, .int .u64 ((v * 10 : Nat) : Int))] rfl (by kernel_rfl) (Gx.eqI ((by rw [IntWalk.u64_in _ (by omega)]; omega))) ?_
    refine Z.p [2] [3, 4] [(43, .int .u64 (((Gx.byteAt s (i + m)).toNat - 48 : Nat) : Int))] ?_
    refine Gx.pure_eq [3] [4] [(44, .int .u64 (IntKind.u64.wrap (((v * 10 : Nat) : Int) + (((Gx.byteAt s (i + m)).toNat - 48 : Nat) : Int))))] [(44, .int .u64 ((v * 10 + ((Gx.byteAt s (i + m)).toNat - 48) : Nat) : Int))] rfl (by kernel_rfl) (Gx.eqI ((by rw [IntWalk.u64_in _ (by omega)]; omega))) ?_
    refine Z.p [4] [] [(7, .int .u64 ((v * 10 + ((Gx.byteAt s (i + m)).toNat - 48) : Nat) : Int))] ?_
    refine Gx.ops_nil (Gx.block_normal (Z.x ?_))
    rw [Gx.forget [(0, .string s), (1, Z.n i), (4, Z.P k1 0), (6, Z.P k2 0), (18, Z.P k3 0), (7, .int .u64 ((v * 10 + ((Gx.byteAt s (i + m)).toNat - 48) : Nat) : Int)), (8, Z.n s.size), (9, .bool f)] (by kernel_rfl)]
    exact hK1 _ _ _ _ (by omega) ⟨m + 1, v * 10 + ((Gx.byteAt s (i + m)).toNat - 48), f, rfl, rfl, ((((Gx.Ext.refl w).trans x4).upd1 u5).trans x5), ((b4.upd1 u5).ext x5), ((b5.upd1 u5).ext x5), (b11.ext x5), (by omega), (by rw [← hst, stop_go (p := digitB) (s := s) (k := i + m) (by omega) hdg]; rfl), (by omega), (fits_yes hf hv rfl (by omega) (by unfold maxInt; omega)).1, (fits_yes hf hv rfl (by omega) (by unfold maxInt; omega)).2⟩
  have hend : stop digitB s i = i + m := by rw [← hst, stop_at (fun q => hdg q.2)]
  refine Z.r [0, 1] ?_
  refine Gx.cons (Gx.op_next_as rfl (by kernel_rfl) rfl (s.extract i s.size) m (by kernel_rfl) b6 (by rw [size_ext (Nat.le_refl _)]; omega) rc wd hdec (fun w12 u6 b12 => ?_))
  have zw12 := u6.size
  refine Z.p [1] [] [(20, .bool true)] ?_
  refine Z.e (wp_seq (Z.ct ?_))
  refine wp_skip (Z.x (wp_block (Z.s [(10, Z.n m), (21, Z.n m)] ?_)))
  refine Z.r [0, 1, 2, 3, 4, 5] ?_
  refine Z.p [0, 1, 2] [3, 4, 5] [(24, Z.n m), (23, Z.n i), (22, .string s)] ?_
  refine Gx.pure_eq [3] [4, 5] [(25, .int .i64 (IntKind.i64.wrap (((i : Nat) : Int) + ((m : Nat) : Int))))] [(25, .int .i64 ((i + m : Nat) : Int))] rfl (by kernel_rfl) (Gx.eqI (Gx.i64n (by omega) (by omega))) ?_
  refine Gx.cons (Gx.op_index_str rfl (by kernel_rfl) rfl (by kernel_rfl) s .i64 (i + m) (by kernel_rfl) (by kernel_rfl) (by omega) ?_)
  refine Z.p [5] [] [(11, .int .u8 ((Gx.byteAt s (i + m)).toNat : Int))] ?_
  refine Z.e (wp_seq (Z.r [0, 1, 2] ?_))
  refine Z.p [0] [1, 2] [(27, .int .u8 ((Gx.byteAt s (i + m)).toNat : Int))] ?_
  refine Z.k (fun R hR => class_c (Gx.byteAt s (i + m)) _ R  (fun w13 x6  => hR _ _ ?_))
  have zw13 := x6.size
  refine Z.p [2] [] [(29, .bool (((cls (Gx.byteAt s (i + m)) : Nat) : Int) != (3 : Int)))] ?_
  refine Z.e (Z.c (((cls (Gx.byteAt s (i + m)) : Nat) : Int) != (3 : Int)) (fun h_c29 => ?_) (fun h_c29 => ?_))
  · skip
    refine Z.r [0, 1, 2, 3] ?_
    refine Z.p [0, 1] [2, 3] [(31, Z.n m), (30, Z.n i)] ?_
    have p_c29 := h_c29; try simp at p_c29
    refine Gx.pure_eq [2] [3] [(32, .int .i64 (IntKind.i64.wrap (((i : Nat) : Int) + ((m : Nat) : Int))))] [(32, .int .i64 ((i + m : Nat) : Int))] rfl (by kernel_rfl) (Gx.eqI (Gx.i64n (by omega) (by omega))) ?_
    refine Z.p [3] [] [(8, .int .i64 ((i + m : Nat) : Int))] ?_
    refine Z.e (wp_exit (Gx.then_exit (Gx.block_other (by kernel_rfl) ?_)))
    refine Gx.then_exit (Gx.block_exit (Z.x (wp_seq (Gx.cut (d' := []) (n' := 68) (fun l' w' => l' = [(1, Z.n i), (4, Z.P k1 0), (6, Z.P k2 0), (7, .int .u64 ((v : Nat) : Int)), (8, .int .i64 ((i + m : Nat) : Int)), (58, .bool ((!f) || ((decide ((((i + m : Nat) : Int) - ((i : Nat) : Int)) > (1 : Int))) && (((Gx.byteAt s i).toNat : Int) == (48 : Int)))))] ∧ w13 = w') (fun K3 hK3 => ?_) (fun bb3 ll3 w14 hI3 => ?_)))))
    · refine Z.g [0, 1, 2, 3, 4, 5, 6, 7, 8, 9, 10, 11, 12, 13] ?_
      refine Z.p [0, 1, 2] [3, 4, 5, 6, 7, 8, 9, 10, 11, 12, 13] [(47, .bool (!f)), (46, .bool (!f)), (45, .bool f)] ?_
      refine Gx.split (!f) (fun h_g47 => ?_) (fun h_g47 => ?_)
      · rw [h_g47]
        refine Z.p [3, 4, 5, 6, 7, 8, 9, 10, 11, 12, 13] [] [(58, .bool true), (57, undef), (56, undef), (55, undef), (54, undef), (53, undef), (52, undef), (51, undef), (50, undef), (49, undef), (48, undef)] ?_
        refine Z.e ?_
        rw [Gx.forget [(1, Z.n i), (4, Z.P k1 0), (6, Z.P k2 0), (7, .int .u64 ((v : Nat) : Int)), (8, .int .i64 ((i + m : Nat) : Int)), (58, .bool ((!f) || ((decide ((((i + m : Nat) : Int) - ((i : Nat) : Int)) > (1 : Int))) && (((Gx.byteAt s i).toNat : Int) == (48 : Int)))))] (by rw [h_g47]; try kernel_rfl)]
        exact hK3 _ _ _ ⟨rfl, rfl⟩
      rw [h_g47]
      refine Z.p [3, 4] [5, 6, 7, 8, 9, 10, 11, 12, 13] [(49, Z.n i), (48, .int .i64 ((i + m : Nat) : Int))] ?_
      have p_g47 := h_g47; try simp at p_g47
      refine Gx.pure_eq [5] [6, 7, 8, 9, 10, 11, 12, 13] [(50, .int .i64 (IntKind.i64.wrap (((i + m : Nat) : Int) - ((i : Nat) : Int))))] [(50, .int .i64 (((i + m : Nat) : Int) - ((i : Nat) : Int)))] rfl (by kernel_rfl) (Gx.eqI (IntWalk.i64_in _ (by omega))) ?_
      refine Z.p [6, 7] [8, 9, 10, 11, 12, 13] [(52, .bool (decide ((((i + m : Nat) : Int) - ((i : Nat) : Int)) > (1 : Int)))), (51, .bool (decide ((((i + m : Nat) : Int) - ((i : Nat) : Int)) > (1 : Int))))] ?_
      refine Gx.split (decide ((((i + m : Nat) : Int) - ((i : Nat) : Int)) > (1 : Int))) (fun h_g52 => ?_) (fun h_g52 => ?_)
      · rw [h_g52]
        refine Z.p [8, 9] [10, 11, 12, 13] [(54, Z.n i), (53, .string s)] ?_
        have p_g52 := h_g52; try simp at p_g52
        refine Gx.cons (Gx.op_index_str rfl (by kernel_rfl) rfl (by kernel_rfl) s .i64 i (by kernel_rfl) (by kernel_rfl) (by omega) ?_)
        refine Z.p [11, 12, 13] [] [(58, .bool (((Gx.byteAt s i).toNat : Int) == (48 : Int))), (57, .bool (((Gx.byteAt s i).toNat : Int) == (48 : Int))), (56, .bool (((Gx.byteAt s i).toNat : Int) == (48 : Int)))] ?_
        refine Z.e ?_
        rw [Gx.forget [(1, Z.n i), (4, Z.P k1 0), (6, Z.P k2 0), (7, .int .u64 ((v : Nat) : Int)), (8, .int .i64 ((i + m : Nat) : Int)), (58, .bool ((!f) || ((decide ((((i + m : Nat) : Int) - ((i : Nat) : Int)) > (1 : Int))) && (((Gx.byteAt s i).toNat : Int) == (48 : Int)))))] (by rw [h_g47, h_g52]; try kernel_rfl)]
        exact hK3 _ _ _ ⟨rfl, rfl⟩
      rw [h_g52]
      refine Z.p [8, 9, 10, 11, 12, 13] [] [(58, .bool false), (57, .bool false), (56, undef), (55, undef), (54, undef), (53, undef)] ?_
      refine Z.e ?_
      rw [Gx.forget [(1, Z.n i), (4, Z.P k1 0), (6, Z.P k2 0), (7, .int .u64 ((v : Nat) : Int)), (8, .int .i64 ((i + m : Nat) : Int)), (58, .bool ((!f) || ((decide ((((i + m : Nat) : Int) - ((i : Nat) : Int)) > (1 : Int))) && (((Gx.byteAt s i).toNat : Int) == (48 : Int)))))] (by rw [h_g47, h_g52]; try kernel_rfl)]
      exact hK3 _ _ _ ⟨rfl, rfl⟩
    obtain ⟨rfl, rfl⟩ := hI3
    refine Z.c ((!f) || ((decide ((((i + m : Nat) : Int) - ((i : Nat) : Int)) > (1 : Int))) && (((Gx.byteAt s i).toNat : Int) == (48 : Int)))) (fun h_c58 => ?_) (fun h_c58 => ?_)
    · skip
      refine Z.r [0, 1, 2, 3, 4, 5] ?_
      refine Z.p [0, 1, 2] [3, 4, 5] [(61, .agg #[.int .i64 3, Z.n i]), (60, Z.n i), (59, .agg #[.int .i64 0, .int .i64 0, .string Z.E, .int .i64 0])] ?_
      have p_c58 := h_c58; try simp at p_c58
      refine Z.Sa #[.int .i64 0, .int .i64 0, .string Z.E, .int .i64 0] ((b4.upd1 u6).ext x6) (fun w15 u7 b13 zw15 => ?_)
      refine Z.p [4] [5] [(5, .int .i64 0)] ?_
      refine Z.Sa #[.int .i64 3, Z.n i] (((b5.upd1 u6).ext x6).upd1 u7) (fun w16 u8 b14 zw16 => ?_)
      refine Z.e (wp_ret (Gx.then_ret (Gx.ret (Gx.res_ctc (u := .agg #[.int .i64 0, .int .i64 0, .string Z.E, .int .i64 0]) (v := .int .i64 0) (x := .agg #[.int .i64 3, Z.n i]) rfl (by kernel_rfl) (by kernel_rfl) (b13.upd1 u8) (by kernel_rfl) (by kernel_rfl) b14 (by kernel_rfl)) ?_)))
      exact Gx.ret_as (v' := Nx.V (numAt s i)) (by rw [numOk_eq (s := s) (i := i) (e := (i + m)) (by rw [hf]; congr; omega) (by omega)] at h_c58; unfold numAt; rw [hend, if_neg (by simpa using h_c58)]; rfl) (hK _ ((((((Gx.Ext.refl w).trans x4).upd1 u6).trans x6).upd1 u7).upd1 u8))
    refine wp_skip (Z.x (Z.r [0, 1, 2, 3, 4, 5, 6, 7, 8] ?_))
    refine Z.p [0, 1] [2, 3, 4, 5, 6, 7, 8] [(63, .int .u64 ((v : Nat) : Int)), (62, Z.n i)] ?_
    have p_c58 := h_c58; try simp at p_c58
    refine Gx.pure_eq [2] [3, 4, 5, 6, 7, 8] [(64, .int .i64 (IntKind.i64.wrap ((v : Nat) : Int)))] [(64, Z.n v)] rfl (by kernel_rfl) (Gx.eqI (IntWalk.i64_in _ (by omega))) ?_
    refine Z.p [3, 4, 5] [6, 7, 8] [(67, .agg #[.int .i64 0, .int .i64 0]), (66, .int .i64 ((i + m : Nat) : Int)), (65, .agg #[.int .i64 1, Z.n i, .string Z.E, Z.n v])] ?_
    refine Z.Sa #[.int .i64 1, Z.n i, .string Z.E, Z.n v] ((b4.upd1 u6).ext x6) (fun w17 u9 b15 zw17 => ?_)
    refine Z.p [7] [8] [(5, .int .i64 ((i + m : Nat) : Int))] ?_
    refine Z.Sa #[.int .i64 0, .int .i64 0] (((b5.upd1 u6).ext x6).upd1 u9) (fun w18 u10 b16 zw18 => ?_)
    refine Z.e (wp_ret (Gx.ret (Gx.res_ctc (u := .agg #[.int .i64 1, Z.n i, .string Z.E, Z.n v]) (v := .int .i64 ((i + m : Nat) : Int)) (x := .agg #[.int .i64 0, .int .i64 0]) rfl (by kernel_rfl) (by kernel_rfl) (b15.upd1 u10) (by kernel_rfl) (by kernel_rfl) b16 (by kernel_rfl)) ?_))
    exact Gx.ret_as (v' := Nx.V (numAt s i)) (by have hq := h_c58; rw [numOk_eq (s := s) (i := i) (e := (i + m)) (by rw [hf]; congr; omega) (by omega)] at hq; have hft : f = true := (by revert h_c58; cases f <;> simp); unfold numAt; rw [hend, if_pos (by simpa using hq), hv hft, show (i + m) - i = m by omega]; rfl) (hK _ ((((((Gx.Ext.refl w).trans x4).upd1 u6).trans x6).upd1 u9).upd1 u10))
  have p_c29 := h_c29; try simp at p_c29
  exact absurd ((cls_digit _).1 (by omega)) hdg
end Go.Proofs.YtinilkomfggjiaaDoor
