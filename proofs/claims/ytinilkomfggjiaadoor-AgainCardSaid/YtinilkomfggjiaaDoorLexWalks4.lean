/- The walks, written by a program of ours (wip/gx/gx.py, lexgen.py). -/
import Derived.Test.YtinilkomfggjiaaDoorRows
import Derived.Test.YtinilkomfggjiaaDoorGs
import Derived.Test.YtinilkomfggjiaaDoorLexPlain
import Derived.Test.YtinilkomfggjiaaDoorLexWalks3
set_option linter.unusedVariables false
set_option linter.unusedSimpArgs false
set_option maxHeartbeats 4000000
set_option maxRecDepth 20000
namespace Go.Proofs.YtinilkomfggjiaaDoor
open Go.RowKit Go.Lex
attribute [local irreducible] Go.wpOps Go.Code.wp Go.wpOp Go.wpAnyH Go.Calls
theorem pNext_c (s : ByteArray) (i : Nat) (w : World) (K : Ending → World → Prop) (hs : s.size ≤ 3000) (hi : i ≤ s.size) (hK : ∀ w', Gx.Ext w w' → K (.returned (Nx.V (next s i))) w') :
    Calls Tryd.prog 44 #[.string s, Z.n i] w K := by
  refine Z.en 100 Tryd.func44 ?_
  refine Z.r [0, 1, 2] ?_
  refine Z.N (.cells #[.int .i64 0, .int .i64 0, .string Z.E, .int .i64 0] 36) (fun k1 w1 l1 x1 b1 zw1 tb1 => ?_)
  refine Z.p [1] [2] [(5, .int .i64 0)] ?_
  refine Z.N (.cells #[.int .i64 0, .int .i64 0] 27) (fun k2 w2 l2 x2 b2 zw2 tb2 => ?_)
  refine Z.e (wp_scope_straight ?_)
  refine wp_seq (wp_label ?_)
  refine Z.x (Gx.cut (d' := []) (n' := 100) (fun l' w' => l' = [(0, .string s), (1, .int .i64 ((pass s i : Nat) : Int)), (4, Z.P k1 0), (6, Z.P k2 0)] ∧ Gx.Ext w w' ∧ Gx.Has w' k1 (.cells #[.int .i64 0, .int .i64 0, .string Z.E, .int .i64 0] 36) ∧ Gx.Has w' k2 (.cells #[.int .i64 0, .int .i64 0] 27)) (fun K1 hK1 => ?_) (fun bb1 ll1 w3 hI1 => ?_))
  · skip
    refine wp_block (Gx.loop (n' := 100) (d' := []) (fun mz l' w' => ∃ (k : Nat), l' = [(0, .string s), (4, Z.P k1 0), (6, Z.P k2 0), (1, Z.n k)] ∧ mz = s.size - k ∧ Gx.Ext w w' ∧ Gx.Has w' k1 (.cells #[.int .i64 0, .int .i64 0, .string Z.E, .int .i64 0] 36) ∧ Gx.Has w' k2 (.cells #[.int .i64 0, .int .i64 0] 27) ∧ (k ≤ s.size) ∧ (pass s k = pass s i)) _ _ [(0, .string s), (4, Z.P k1 0), (6, Z.P k2 0), (1, Z.n i)] (Gx.forget [(0, .string s), (4, Z.P k1 0), (6, Z.P k2 0), (1, Z.n i)] (by kernel_rfl)) ⟨i, rfl, rfl, (((Gx.Ext.refl w).trans x1).trans x2), (b1.ext x2), b2, hi, rfl⟩ (fun bb2 m1 ll2 w4 hI2 K2 hK2 => ?_))
    obtain ⟨k, rfl, rfl, x4, b3, b4, hk, hp⟩ := hI2
    have zw4 := x4.size
    have tb3 := b3.lt
    have tb4 := b4.lt
    refine wp_seq (Z.s [(13, .bool (decide (((k : Nat) : Int) < ((s.size : Nat) : Int)))), (12, Z.n s.size), (11, .string s), (10, Z.n k)] ?_)
    refine Z.c (decide (((k : Nat) : Int) < ((s.size : Nat) : Int))) (fun h_c13 => ?_) (fun h_c13 => ?_)
    · skip
      refine wp_skip (Z.x (wp_seq (wp_block (Z.r [0, 1, 2, 3] ?_))))
      refine Z.p [0, 1] [2, 3] [(17, Z.n k), (16, .string s)] ?_
      have p_c13 := h_c13; try simp at p_c13
      refine Gx.cons (Gx.op_index_str rfl (by kernel_rfl) rfl (by kernel_rfl) s .i64 k (by kernel_rfl) (by kernel_rfl) (by omega) ?_)
      refine Z.k (fun R hR => class_c (Gx.byteAt s k) _ R  (fun w5 x5  => hR _ _ ?_))
      have zw5 := x5.size
      refine Z.e (wp_block (Z.s [(20, .bool (((cls (Gx.byteAt s k) : Nat) : Int) == (1 : Int))), (21, .bool (((cls (Gx.byteAt s k) : Nat) : Int) == (1 : Int)))] ?_))
      refine Z.c (((cls (Gx.byteAt s k) : Nat) : Int) == (1 : Int)) (fun h_c20 => ?_) (fun h_c20 => ?_)
      · skip
        refine wp_skip (Gx.block_normal (Gx.block_normal (Z.x (Z.g [0, 1, 2] ?_))))
        refine Z.p [0] [1, 2] [(14, Z.n k)] ?_
        have p_c20 := h_c20; try simp at p_c20
        refine Gx.pure_eq [1] [2] [(15, .int .i64 (IntKind.i64.wrap (((k : Nat) : Int) + (1 : Int))))] [(15, .int .i64 ((k + 1 : Nat) : Int))] rfl (by kernel_rfl) (Gx.eqI (Gx.i64n (by omega) (by omega))) ?_
        refine Z.p [2] [] [(1, .int .i64 ((k + 1 : Nat) : Int))] ?_
        refine Gx.ops_nil (Z.x ?_)
        rw [Gx.forget [(0, .string s), (4, Z.P k1 0), (6, Z.P k2 0), (1, .int .i64 ((k + 1 : Nat) : Int))] (by kernel_rfl)]
        exact hK2 _ _ _ _ (by omega) ⟨k + 1, rfl, rfl, (((Gx.Ext.refl w).trans x4).trans x5), (b3.ext x5), (b4.ext x5), (by omega), (by rw [← hp, pass_blank (s := s) (k := k) (by omega) ((cls_blank _).1 (by omega))])⟩
      refine Z.s [(22, .bool (((cls (Gx.byteAt s k) : Nat) : Int) == (2 : Int))), (23, .bool (((cls (Gx.byteAt s k) : Nat) : Int) == (2 : Int)))] ?_
      refine Z.c (((cls (Gx.byteAt s k) : Nat) : Int) == (2 : Int)) (fun h_c22 => ?_) (fun h_c22 => ?_)
      · skip
        refine wp_seq (Z.r [0, 1, 2, 3, 4, 5] ?_)
        refine Z.p [0, 1] [2, 3, 4, 5] [(25, Z.n k), (24, .string s)] ?_
        have p_c20 := h_c20; try simp at p_c20
        have p_c22 := h_c22; try simp at p_c22
        refine Gx.cons (Gx.op_slice_str rfl (by kernel_rfl) rfl (by kernel_rfl) s k s.size (by kernel_rfl) (.inr ⟨.i64, (by kernel_rfl)⟩) (.inl ⟨rfl, rfl⟩) (by omega) (by omega) ?_)
        refine Gx.cons (Gx.op_bytes rfl (by kernel_rfl) rfl 5 (by kernel_rfl) (by kernel_rfl) (by kernel_rfl) (s.extract k s.size) (by kernel_rfl) (fun k3 cap1 w6 l3 x6 b5 => ?_))
        have zw6 := x6.size
        have tb5 := b5.lt
        refine Z.p [4, 5] [] [(29, .int .i64 0), (28, .int .i64 (((s.extract k s.size).size : Nat) : Int))] ?_
        refine Z.e (wp_block (Gx.loop (n' := 100) (d' := []) (fun mz l' w' => ∃ (m : Nat), l' = [(0, .string s), (4, Z.P k1 0), (6, Z.P k2 0), (27, .slice (some ⟨k3, 0, none⟩) ((s.extract k s.size).size) cap1), (28, .int .i64 (((s.extract k s.size).size : Nat) : Int)), (1, Z.n k), (29, Z.n m)] ∧ mz = s.size - k - m ∧ Gx.Ext w w' ∧ Gx.Has w' k1 (.cells #[.int .i64 0, .int .i64 0, .string Z.E, .int .i64 0] 36) ∧ Gx.Has w' k2 (.cells #[.int .i64 0, .int .i64 0] 27) ∧ Gx.Has w' k3 (.cells (Gx.byteRow (s.extract k s.size) cap1) 5 ((Gx.byteRow (s.extract k s.size) cap1).size, (Gx.byteRow (s.extract k s.size) cap1).size + 1)) ∧ (m ≤ s.size - k) ∧ (stop notNl s (k + m) = stop notNl s k)) _ _ [(0, .string s), (4, Z.P k1 0), (6, Z.P k2 0), (27, .slice (some ⟨k3, 0, none⟩) ((s.extract k s.size).size) cap1), (28, .int .i64 (((s.extract k s.size).size : Nat) : Int)), (1, Z.n k), (29, Z.n 0)] (Gx.forget [(0, .string s), (4, Z.P k1 0), (6, Z.P k2 0), (27, .slice (some ⟨k3, 0, none⟩) ((s.extract k s.size).size) cap1), (28, .int .i64 (((s.extract k s.size).size : Nat) : Int)), (1, Z.n k), (29, Z.n 0)] (by kernel_rfl)) ⟨0, rfl, rfl, ((((Gx.Ext.refl w).trans x4).trans x5).trans x6), ((b3.ext x5).ext x6), ((b4.ext x5).ext x6), b5, (by omega), rfl⟩ (fun bb3 m2 ll3 w7 hI3 K3 hK3 => ?_)))
        obtain ⟨m, rfl, rfl, x7, b6, b7, b8, hm, hst⟩ := hI3
        have zw7 := x7.size
        have tb6 := b6.lt
        have tb7 := b7.lt
        have tb8 := b8.lt
        have hsy := size_ext (s := s) (a := k) (c := s.size) (Nat.le_refl _)
        refine Z.s [(30, .bool (decide (((m : Nat) : Int) < (((s.extract k s.size).size : Nat) : Int))))] ?_
        refine wp_seq (Z.c (decide (((m : Nat) : Int) < (((s.extract k s.size).size : Nat) : Int))) (fun h_c30 => ?_) (fun h_c30 => ?_))
        · skip
          refine wp_skip (Z.x (wp_seq (wp_block ?_)))
          have p_c30 := h_c30; try simp at p_c30
          have hsx := size_ext (s := s) (a := k) (c := s.size) (Nat.le_refl _)
          refine Z.r [0, 1, 2, 3, 4] ?_
          refine Z.p [0] [1, 2, 3, 4] [(31, Z.n m)] ?_
          refine Gx.cons (Gx.op_indexAddr (bk := k3) rfl (by kernel_rfl) rfl 5 1 (by kernel_rfl) (by kernel_rfl) 0 ((s.extract k s.size).size) cap1 (by kernel_rfl) .i64 m (by kernel_rfl) (by omega) ?_)
          refine Gx.cons (Gx.op_load rfl (by kernel_rfl) rfl (0 + m * 1) (.int .u8 ((Gx.byteAt (s.extract k s.size) m).toNat : Int)) (by kernel_rfl) b8 (Gx.loadB_byteRow (by kernel_rfl) (by omega)) ?_)
          refine Z.p [3, 4] [] [(8, .int .u8 ((Gx.byteAt (s.extract k s.size) m).toNat : Int)), (7, Z.n m)] ?_
          refine Z.e (Z.s [(35, .bool (((Gx.byteAt (s.extract k s.size) m).toNat : Int) == (10 : Int))), (34, .int .u8 ((Gx.byteAt (s.extract k s.size) m).toNat : Int))] ?_)
          refine Z.c (((Gx.byteAt (s.extract k s.size) m).toNat : Int) == (10 : Int)) (fun h_c35 => ?_) (fun h_c35 => ?_)
          · skip
            refine Z.r [0, 1, 2, 3] ?_
            refine Z.p [0, 1] [2, 3] [(37, Z.n m), (36, Z.n k)] ?_
            have p_c35 := h_c35; try simp at p_c35
            refine Gx.pure_eq [2] [3] [(38, .int .i64 (IntKind.i64.wrap (((k : Nat) : Int) + ((m : Nat) : Int))))] [(38, .int .i64 ((k + m : Nat) : Int))] rfl (by kernel_rfl) (Gx.eqI (Gx.i64n (by omega) (by omega))) ?_
            refine Z.p [3] [] [(1, .int .i64 ((k + m : Nat) : Int))] ?_
            refine Z.e (wp_exit (Gx.block_other (by kernel_rfl) ?_))
            refine Gx.then_exit (Gx.then_exit (Gx.block_other (by kernel_rfl) ?_))
            refine Gx.then_exit (Gx.block_other (by kernel_rfl) ?_)
            refine Gx.block_exit (Z.x (Z.g [0, 1, 2] ?_))
            refine Z.p [0] [1, 2] [(14, .int .i64 ((k + m : Nat) : Int))] ?_
            refine Gx.pure_eq [1] [2] [(15, .int .i64 (IntKind.i64.wrap (((k + m : Nat) : Int) + (1 : Int))))] [(15, .int .i64 (((k + m) + 1 : Nat) : Int))] rfl (by kernel_rfl) (Gx.eqI (Gx.i64n (by omega) (by omega))) ?_
            refine Z.p [2] [] [(1, .int .i64 (((k + m) + 1 : Nat) : Int))] ?_
            refine Gx.ops_nil (Z.x ?_)
            rw [Gx.forget [(0, .string s), (4, Z.P k1 0), (6, Z.P k2 0), (1, .int .i64 ((k + m + 1 : Nat) : Int))] (by kernel_rfl)]
            exact hK2 _ _ _ _ (by omega) ⟨k + m + 1, rfl, rfl, ((Gx.Ext.refl w).trans x7), b6, b7, (by omega), (by rw [← hp, pass_remark (s := s) (k := k) (by omega) (by have := (cls_remark _).1 (show cls (Gx.byteAt s k) = 2 by omega); omega), ← stop_go (p := notNl) (s := s) (k := k) (by omega) (by have := (cls_remark _).1 (show cls (Gx.byteAt s k) = 2 by omega); unfold notNl; simp; omega), ← hst, stop_at (p := notNl) (s := s) (k := k + m) (by rw [byteAt_ext (Nat.le_refl _) (by omega)] at h_c35 p_c35; unfold notNl; simp; omega), pass_blank (s := s) (k := k + m) (by omega) (by rw [byteAt_ext (Nat.le_refl _) (by omega)] at p_c35; rw [blank_iff]; omega)])⟩
          refine wp_skip (Gx.block_normal (Z.x (Z.g [0, 1] ?_)))
          have p_c35 := h_c35; try simp at p_c35
          refine Gx.pure_eq [0] [1] [(39, .int .i64 (IntKind.i64.wrap (((m : Nat) : Int) + (1 : Int))))] [(39, .int .i64 ((m + 1 : Nat) : Int))] rfl (by kernel_rfl) (Gx.eqI (Gx.i64n (by omega) (by omega))) ?_
          refine Z.p [1] [] [(29, .int .i64 ((m + 1 : Nat) : Int))] ?_
          refine Gx.ops_nil (Z.x ?_)
          rw [Gx.forget [(0, .string s), (4, Z.P k1 0), (6, Z.P k2 0), (27, .slice (some ⟨k3, 0, none⟩) ((s.extract k s.size).size) cap1), (28, .int .i64 (((s.extract k s.size).size : Nat) : Int)), (1, Z.n k), (29, .int .i64 ((m + 1 : Nat) : Int))] (by kernel_rfl)]
          exact hK3 _ _ _ _ (by omega) ⟨m + 1, rfl, rfl, ((Gx.Ext.refl w).trans x7), b6, b7, b8, (by omega), (by rw [← hst, stop_go (p := notNl) (s := s) (k := k + m) (by omega) (by rw [byteAt_ext (Nat.le_refl _) (by omega)] at p_c35; unfold notNl; simp; omega)]; rfl)⟩
        refine wp_exit (Gx.then_exit (Gx.then_exit (Gx.block_exit (Z.x (Z.s [(1, Z.n s.size), (41, Z.n s.size), (40, .string s)] ?_)))))
        refine wp_exit (Gx.block_other (by kernel_rfl) ?_)
        refine Gx.block_other (by kernel_rfl) ?_
        refine Gx.then_exit (Gx.then_exit (Gx.block_exit (Z.x ?_)))
        have p_c30 := h_c30; try simp at p_c30
        rw [Gx.forget [(0, .string s), (1, .int .i64 ((pass s i : Nat) : Int)), (4, Z.P k1 0), (6, Z.P k2 0)] (by rw [show pass s i = s.size from by (rw [← hp, pass_remark (s := s) (k := k) (by omega) (by have := (cls_remark _).1 (show cls (Gx.byteAt s k) = 2 by omega); omega), ← stop_go (p := notNl) (s := s) (k := k) (by omega) (by have := (cls_remark _).1 (show cls (Gx.byteAt s k) = 2 by omega); unfold notNl; simp; omega), ← hst, stop_at (by omega), pass_end (by omega)]; omega)]; kernel_rfl)]
        exact hK1 _ _ _ ⟨rfl, ((Gx.Ext.refl w).trans x7), b6, b7⟩
      refine wp_exit (Gx.block_other (by kernel_rfl) ?_)
      refine Gx.block_other (by kernel_rfl) ?_
      refine Gx.then_exit (Gx.then_exit (Gx.block_exit (Z.x ?_)))
      have p_c20 := h_c20; try simp at p_c20
      have p_c22 := h_c22; try simp at p_c22
      rw [Gx.forget [(0, .string s), (1, .int .i64 ((pass s i : Nat) : Int)), (4, Z.P k1 0), (6, Z.P k2 0)] (by rw [show pass s i = k from by (rw [← hp, pass_here (by omega) (fun q => by have := (cls_blank _).2 q; omega) (fun q => by have := (cls_remark (Gx.byteAt s k)).2 (by omega); omega)])]; kernel_rfl)]
      exact hK1 _ _ _ ⟨rfl, (((Gx.Ext.refl w).trans x4).trans x5), (b3.ext x5), (b4.ext x5)⟩
    refine wp_exit (Gx.then_exit (Gx.then_exit (Gx.block_exit (Z.x ?_))))
    have p_c13 := h_c13; try simp at p_c13
    rw [Gx.forget [(0, .string s), (1, .int .i64 ((pass s i : Nat) : Int)), (4, Z.P k1 0), (6, Z.P k2 0)] (by rw [show pass s i = k from by (rw [← hp, pass_end (by omega)])]; kernel_rfl)]
    exact hK1 _ _ _ ⟨rfl, ((Gx.Ext.refl w).trans x4), b3, b4⟩
  obtain ⟨rfl, x3, b9, b10⟩ := hI1
  have zw3 := x3.size
  have tb9 := b9.lt
  have tb10 := b10.lt
  refine wp_seq ?_
  have hi1 := le_pass s i
  have hi2 := pass_le s i hi
  refine Z.s [(45, .bool (((pass s i : Nat) : Int) == ((s.size : Nat) : Int))), (44, Z.n s.size), (43, .string s), (42, .int .i64 ((pass s i : Nat) : Int))] ?_
  refine Z.c (((pass s i : Nat) : Int) == ((s.size : Nat) : Int)) (fun h_c45 => ?_) (fun h_c45 => ?_)
  · skip
    refine Z.r [0, 1, 2, 3, 4, 5, 6] ?_
    refine Z.p [0, 1, 2, 3] [4, 5, 6] [(49, .agg #[.int .i64 0, .int .i64 0]), (48, .int .i64 ((pass s i : Nat) : Int)), (47, .agg #[.int .i64 0, .int .i64 ((pass s i : Nat) : Int), .string Z.E, .int .i64 0]), (46, .int .i64 ((pass s i : Nat) : Int))] ?_
    refine Z.Sa #[.int .i64 0, .int .i64 ((pass s i : Nat) : Int), .string Z.E, .int .i64 0] b9 (fun w8 u1 b11 zw8 => ?_)
    refine Z.p [5] [6] [(5, .int .i64 ((pass s i : Nat) : Int))] ?_
    have p_c45 := h_c45; try simp at p_c45
    refine Z.Sa #[.int .i64 0, .int .i64 0] (b10.upd1 u1) (fun w9 u2 b12 zw9 => ?_)
    refine Z.e (wp_ret (Gx.then_ret (Gx.scope_ret ?_)))
    refine Gx.ret (Gx.res_ctc (u := .agg #[.int .i64 0, .int .i64 ((pass s i : Nat) : Int), .string Z.E, .int .i64 0]) (v := .int .i64 ((pass s i : Nat) : Int)) (x := .agg #[.int .i64 0, .int .i64 0]) rfl (by kernel_rfl) (by kernel_rfl) (b11.upd1 u2) (by kernel_rfl) (by kernel_rfl) b12 (by kernel_rfl)) ?_
    exact Gx.ret_as (v' := Nx.V (next s i)) (by unfold next; rw [if_neg (show ¬ pass s i < s.size by omega)]; rw [show pass s i = s.size by omega]; rfl) (hK _ ((((Gx.Ext.refl w).trans x3).upd1 u1).upd1 u2))
  refine wp_skip (Z.x (wp_seq ?_))
  have p_c45 := h_c45; try simp at p_c45
  have hpo := pass_out s i (by omega)
  refine Z.r [0, 1, 2, 3] ?_
  refine Z.p [0, 1] [2, 3] [(51, .int .i64 ((pass s i : Nat) : Int)), (50, .string s)] ?_
  refine Gx.cons (Gx.op_index_str rfl (by kernel_rfl) rfl (by kernel_rfl) s .i64 (pass s i) (by kernel_rfl) (by kernel_rfl) (by omega) ?_)
  refine Z.k (fun R hR => class_c (Gx.byteAt s (pass s i)) _ R  (fun w10 x8  => hR _ _ ?_))
  have zw10 := x8.size
  refine Z.e (wp_block (Z.s [(54, .bool (((cls (Gx.byteAt s (pass s i)) : Nat) : Int) == (3 : Int))), (55, .bool (((cls (Gx.byteAt s (pass s i)) : Nat) : Int) == (3 : Int)))] ?_))
  refine Z.c (((cls (Gx.byteAt s (pass s i)) : Nat) : Int) == (3 : Int)) (fun h_c54 => ?_) (fun h_c54 => ?_)
  · skip
    refine Z.r [0, 1, 2, 3, 4, 5, 6, 7, 8] ?_
    refine Z.p [0, 1] [2, 3, 4, 5, 6, 7, 8] [(57, .int .i64 ((pass s i : Nat) : Int)), (56, .string s)] ?_
    have p_c54 := h_c54; try simp at p_c54
    refine Z.k (fun R hR => pnumber_c s (pass s i) _ R hs (by omega) (fun w11 x9  => hR _ _ ?_))
    have zw11 := x9.size
    refine Z.p [3, 4, 5] [6, 7, 8] [(61, .agg #[.int .i64 (((numAt s (pass s i)).fk : Nat) : Int), .int .i64 (((numAt s (pass s i)).fa : Nat) : Int)]), (60, .int .i64 (((numAt s (pass s i)).nx : Nat) : Int)), (59, .agg #[.int .i64 (((numAt s (pass s i)).kind : Nat) : Int), .int .i64 (((numAt s (pass s i)).at_ : Nat) : Int), .string ((numAt s (pass s i)).text), .int .i64 (((numAt s (pass s i)).n : Nat) : Int)])] ?_
    refine Z.Sa #[.int .i64 (((numAt s (pass s i)).kind : Nat) : Int), .int .i64 (((numAt s (pass s i)).at_ : Nat) : Int), .string ((numAt s (pass s i)).text), .int .i64 (((numAt s (pass s i)).n : Nat) : Int)] ((b9.ext x8).ext x9) (fun w12 u3 b13 zw12 => ?_)
    refine Z.p [7] [8] [(5, .int .i64 (((numAt s (pass s i)).nx : Nat) : Int))] ?_
    refine Z.Sa #[.int .i64 (((numAt s (pass s i)).fk : Nat) : Int), .int .i64 (((numAt s (pass s i)).fa : Nat) : Int)] (((b10.ext x8).ext x9).upd1 u3) (fun w13 u4 b14 zw13 => ?_)
    refine Z.e (wp_ret (Gx.block_ret (Gx.then_ret (Gx.scope_ret ?_))))
    refine Gx.ret (Gx.res_ctc (u := .agg #[.int .i64 (((numAt s (pass s i)).kind : Nat) : Int), .int .i64 (((numAt s (pass s i)).at_ : Nat) : Int), .string ((numAt s (pass s i)).text), .int .i64 (((numAt s (pass s i)).n : Nat) : Int)]) (v := .int .i64 (((numAt s (pass s i)).nx : Nat) : Int)) (x := .agg #[.int .i64 (((numAt s (pass s i)).fk : Nat) : Int), .int .i64 (((numAt s (pass s i)).fa : Nat) : Int)]) rfl (by kernel_rfl) (by kernel_rfl) (b13.upd1 u4) (by kernel_rfl) (by kernel_rfl) b14 (by kernel_rfl)) ?_
    exact Gx.ret_as (v' := Nx.V (next s i)) (by unfold next; rw [if_pos (show pass s i < s.size by omega)]; unfold tokAt; rw [if_pos ((cls_digit _).1 (by omega))]; rfl) (hK _ ((((((Gx.Ext.refl w).trans x3).trans x8).trans x9).upd1 u3).upd1 u4))
  refine Z.s [(62, .bool (((cls (Gx.byteAt s (pass s i)) : Nat) : Int) == (4 : Int))), (63, .bool (((cls (Gx.byteAt s (pass s i)) : Nat) : Int) == (4 : Int)))] ?_
  refine Z.c (((cls (Gx.byteAt s (pass s i)) : Nat) : Int) == (4 : Int)) (fun h_c62 => ?_) (fun h_c62 => ?_)
  · skip
    refine Z.r [0, 1, 2, 3, 4, 5, 6, 7, 8] ?_
    refine Z.p [0, 1] [2, 3, 4, 5, 6, 7, 8] [(65, .int .i64 ((pass s i : Nat) : Int)), (64, .string s)] ?_
    have p_c54 := h_c54; try simp at p_c54
    have p_c62 := h_c62; try simp at p_c62
    refine Z.k (fun R hR => name_c s (pass s i) _ R hs (by omega) (fun w14 x10  => hR _ _ ?_))
    have zw14 := x10.size
    refine Z.p [3, 4, 5] [6, 7, 8] [(69, .agg #[.int .i64 (((nameAt s (pass s i)).fk : Nat) : Int), .int .i64 (((nameAt s (pass s i)).fa : Nat) : Int)]), (68, .int .i64 (((nameAt s (pass s i)).nx : Nat) : Int)), (67, .agg #[.int .i64 (((nameAt s (pass s i)).kind : Nat) : Int), .int .i64 (((nameAt s (pass s i)).at_ : Nat) : Int), .string ((nameAt s (pass s i)).text), .int .i64 (((nameAt s (pass s i)).n : Nat) : Int)])] ?_
    refine Z.Sa #[.int .i64 (((nameAt s (pass s i)).kind : Nat) : Int), .int .i64 (((nameAt s (pass s i)).at_ : Nat) : Int), .string ((nameAt s (pass s i)).text), .int .i64 (((nameAt s (pass s i)).n : Nat) : Int)] ((b9.ext x8).ext x10) (fun w15 u5 b15 zw15 => ?_)
    refine Z.p [7] [8] [(5, .int .i64 (((nameAt s (pass s i)).nx : Nat) : Int))] ?_
    refine Z.Sa #[.int .i64 (((nameAt s (pass s i)).fk : Nat) : Int), .int .i64 (((nameAt s (pass s i)).fa : Nat) : Int)] (((b10.ext x8).ext x10).upd1 u5) (fun w16 u6 b16 zw16 => ?_)
    refine Z.e (wp_ret (Gx.block_ret (Gx.then_ret (Gx.scope_ret ?_))))
    refine Gx.ret (Gx.res_ctc (u := .agg #[.int .i64 (((nameAt s (pass s i)).kind : Nat) : Int), .int .i64 (((nameAt s (pass s i)).at_ : Nat) : Int), .string ((nameAt s (pass s i)).text), .int .i64 (((nameAt s (pass s i)).n : Nat) : Int)]) (v := .int .i64 (((nameAt s (pass s i)).nx : Nat) : Int)) (x := .agg #[.int .i64 (((nameAt s (pass s i)).fk : Nat) : Int), .int .i64 (((nameAt s (pass s i)).fa : Nat) : Int)]) rfl (by kernel_rfl) (by kernel_rfl) (b15.upd1 u6) (by kernel_rfl) (by kernel_rfl) b16 (by kernel_rfl)) ?_
    exact Gx.ret_as (v' := Nx.V (next s i)) (by unfold next; rw [if_pos (show pass s i < s.size by omega)]; unfold tokAt; rw [if_neg (fun q => by have := (cls_digit _).2 q; omega)]; rw [if_pos ((cls_letter _).1 (by omega))]; rfl) (hK _ ((((((Gx.Ext.refl w).trans x3).trans x8).trans x10).upd1 u5).upd1 u6))
  refine Z.s [(70, .bool (((cls (Gx.byteAt s (pass s i)) : Nat) : Int) == (5 : Int))), (71, .bool (((cls (Gx.byteAt s (pass s i)) : Nat) : Int) == (5 : Int)))] ?_
  refine Z.c (((cls (Gx.byteAt s (pass s i)) : Nat) : Int) == (5 : Int)) (fun h_c70 => ?_) (fun h_c70 => ?_)
  · skip
    refine Z.s [(9, .int .i64 1)] ?_
    refine wp_seq (Gx.cut (d' := []) (n' := 100) (fun l' w' => l' = [(0, .string s), (1, .int .i64 ((pass s i : Nat) : Int)), (4, Z.P k1 0), (6, Z.P k2 0), (9, .int .i64 1), (84, .bool ((decide ((((pass s i) + 2 : Nat) : Int) ≤ ((s.size : Nat) : Int))) && (longerB (s.extract (pass s i) ((pass s i) + 2)))))] ∧ w10 = w') (fun K4 hK4 => ?_) (fun bb4 ll4 w17 hI4 => ?_))
    · refine Z.g [0, 1, 2, 3, 4, 5, 6, 7, 8, 9, 10, 11, 12] ?_
      refine Z.p [0] [1, 2, 3, 4, 5, 6, 7, 8, 9, 10, 11, 12] [(72, .int .i64 ((pass s i : Nat) : Int))] ?_
      have p_c54 := h_c54; try simp at p_c54
      have p_c62 := h_c62; try simp at p_c62
      have p_c70 := h_c70; try simp at p_c70
      refine Gx.pure_eq [1] [2, 3, 4, 5, 6, 7, 8, 9, 10, 11, 12] [(73, .int .i64 (IntKind.i64.wrap (((pass s i : Nat) : Int) + (2 : Int))))] [(73, .int .i64 (((pass s i) + 2 : Nat) : Int))] rfl (by kernel_rfl) (Gx.eqI (Gx.i64n (by omega) (by omega))) ?_
      refine Z.p [2, 3, 4, 5] [6, 7, 8, 9, 10, 11, 12] [(77, .bool (decide ((((pass s i) + 2 : Nat) : Int) ≤ ((s.size : Nat) : Int)))), (76, .bool (decide ((((pass s i) + 2 : Nat) : Int) ≤ ((s.size : Nat) : Int)))), (75, Z.n s.size), (74, .string s)] ?_
      refine Gx.split (decide ((((pass s i) + 2 : Nat) : Int) ≤ ((s.size : Nat) : Int))) (fun h_g77 => ?_) (fun h_g77 => ?_)
      · rw [h_g77]
        refine Z.p [6, 7, 8] [9, 10, 11, 12] [(80, .int .i64 ((pass s i : Nat) : Int)), (79, .int .i64 ((pass s i : Nat) : Int)), (78, .string s)] ?_
        have p_g77 := h_g77; try simp at p_g77
        refine Gx.pure_eq [9] [10, 11, 12] [(81, .int .i64 (IntKind.i64.wrap (((pass s i : Nat) : Int) + (2 : Int))))] [(81, .int .i64 (((pass s i) + 2 : Nat) : Int))] rfl (by kernel_rfl) (Gx.eqI (Gx.i64n (by omega) (by omega))) ?_
        refine Gx.cons (Gx.op_slice_str rfl (by kernel_rfl) rfl (by kernel_rfl) s (pass s i) ((pass s i) + 2) (by kernel_rfl) (.inr ⟨.i64, (by kernel_rfl)⟩) (.inr ⟨.i64, (by kernel_rfl)⟩) (by omega) (by omega) ?_)
        refine Z.k (fun R hR => longer_c (s.extract (pass s i) ((pass s i) + 2)) _ R  (hR _ _ ?_))
        refine Z.p [12] [] [(84, .bool (longerB (s.extract (pass s i) ((pass s i) + 2))))] ?_
        refine Z.e ?_
        rw [Gx.forget [(0, .string s), (1, .int .i64 ((pass s i : Nat) : Int)), (4, Z.P k1 0), (6, Z.P k2 0), (9, .int .i64 1), (84, .bool ((decide ((((pass s i) + 2 : Nat) : Int) ≤ ((s.size : Nat) : Int))) && (longerB (s.extract (pass s i) ((pass s i) + 2)))))] (by rw [h_g77]; try kernel_rfl)]
        exact hK4 _ _ _ ⟨rfl, rfl⟩
      rw [h_g77]
      refine Z.p [6, 7, 8, 9, 10, 11, 12] [] [(84, .bool false), (83, undef), (82, undef), (81, undef), (80, undef), (79, undef), (78, undef)] ?_
      refine Z.e ?_
      rw [Gx.forget [(0, .string s), (1, .int .i64 ((pass s i : Nat) : Int)), (4, Z.P k1 0), (6, Z.P k2 0), (9, .int .i64 1), (84, .bool ((decide ((((pass s i) + 2 : Nat) : Int) ≤ ((s.size : Nat) : Int))) && (longerB (s.extract (pass s i) ((pass s i) + 2)))))] (by rw [h_g77]; try kernel_rfl)]
      exact hK4 _ _ _ ⟨rfl, rfl⟩
    obtain ⟨rfl, rfl⟩ := hI4
    refine Z.c ((decide ((((pass s i) + 2 : Nat) : Int) ≤ ((s.size : Nat) : Int))) && (longerB (s.extract (pass s i) ((pass s i) + 2)))) (fun h_c84 => ?_) (fun h_c84 => ?_)
    · skip
      refine Z.u [(9, .int .i64 2)] ?_
      refine Z.x (Z.r [0, 1, 2, 3, 4, 5, 6, 7, 8, 9, 10, 11, 12, 13, 14] ?_)
      refine Z.p [0, 1, 2, 3, 4] [5, 6, 7, 8, 9, 10, 11, 12, 13, 14] [(89, .int .i64 2), (88, .int .i64 ((pass s i : Nat) : Int)), (87, .int .i64 ((pass s i : Nat) : Int)), (86, .string s), (85, .int .i64 ((pass s i : Nat) : Int))] ?_
      have p_c54 := h_c54; try simp at p_c54
      have p_c62 := h_c62; try simp at p_c62
      have p_c70 := h_c70; try simp at p_c70
      have p_c84 := h_c84; try simp at p_c84
      refine Gx.pure_eq [5] [6, 7, 8, 9, 10, 11, 12, 13, 14] [(90, .int .i64 (IntKind.i64.wrap (((pass s i : Nat) : Int) + (2 : Int))))] [(90, .int .i64 (((pass s i) + 2 : Nat) : Int))] rfl (by kernel_rfl) (Gx.eqI (Gx.i64n (by omega) (by omega))) ?_
      refine Gx.cons (Gx.op_slice_str rfl (by kernel_rfl) rfl (by kernel_rfl) s (pass s i) ((pass s i) + 2) (by kernel_rfl) (.inr ⟨.i64, (by kernel_rfl)⟩) (.inr ⟨.i64, (by kernel_rfl)⟩) (by omega) (by omega) ?_)
      refine Z.p [7, 8, 9] [10, 11, 12, 13, 14] [(94, .int .i64 2), (93, .int .i64 ((pass s i : Nat) : Int)), (92, .agg #[.int .i64 4, .int .i64 ((pass s i : Nat) : Int), .string (s.extract (pass s i) ((pass s i) + 2)), .int .i64 0])] ?_
      refine Gx.pure_eq [10] [11, 12, 13, 14] [(95, .int .i64 (IntKind.i64.wrap (((pass s i : Nat) : Int) + (2 : Int))))] [(95, .int .i64 (((pass s i) + 2 : Nat) : Int))] rfl (by kernel_rfl) (Gx.eqI (Gx.i64n (by omega) (by omega))) ?_
      refine Z.p [11] [12, 13, 14] [(96, .agg #[.int .i64 0, .int .i64 0])] ?_
      refine Z.Sa #[.int .i64 4, .int .i64 ((pass s i : Nat) : Int), .string (s.extract (pass s i) ((pass s i) + 2)), .int .i64 0] (b9.ext x8) (fun w18 u7 b17 zw18 => ?_)
      refine Z.p [13] [14] [(5, .int .i64 (((pass s i) + 2 : Nat) : Int))] ?_
      refine Z.Sa #[.int .i64 0, .int .i64 0] ((b10.ext x8).upd1 u7) (fun w19 u8 b18 zw19 => ?_)
      refine Z.e (wp_ret (Gx.block_ret (Gx.then_ret (Gx.scope_ret ?_))))
      refine Gx.ret (Gx.res_ctc (u := .agg #[.int .i64 4, .int .i64 ((pass s i : Nat) : Int), .string (s.extract (pass s i) ((pass s i) + 2)), .int .i64 0]) (v := .int .i64 (((pass s i) + 2 : Nat) : Int)) (x := .agg #[.int .i64 0, .int .i64 0]) rfl (by kernel_rfl) (by kernel_rfl) (b17.upd1 u8) (by kernel_rfl) (by kernel_rfl) b18 (by kernel_rfl)) ?_
      exact Gx.ret_as (v' := Nx.V (next s i)) (by have hq := cls_sign (Gx.byteAt s (pass s i)) hpo.1 hpo.2 (fun q => by have := (cls_digit _).2 q; omega) (fun q => by have := (cls_letter _).2 q; omega); unfold next; rw [if_pos (show pass s i < s.size by omega)]; unfold tokAt; rw [if_neg (fun q => by have := (cls_digit _).2 q; omega)]; rw [if_neg (fun q => by have := (cls_letter _).2 q; omega)]; rw [if_pos (show signB (Gx.byteAt s (pass s i)) = true from by (by_cases q : signB (Gx.byteAt s (pass s i)) = true; exact q; (rw [if_neg q] at hq; omega)))]; unfold signLen; rw [if_pos h_c84]; rfl) (hK _ (((((Gx.Ext.refl w).trans x3).trans x8).upd1 u7).upd1 u8))
    refine wp_skip (Z.x (Z.r [0, 1, 2, 3, 4, 5, 6, 7, 8, 9, 10, 11, 12, 13, 14] ?_))
    refine Z.p [0, 1, 2, 3, 4] [5, 6, 7, 8, 9, 10, 11, 12, 13, 14] [(89, .int .i64 1), (88, .int .i64 ((pass s i : Nat) : Int)), (87, .int .i64 ((pass s i : Nat) : Int)), (86, .string s), (85, .int .i64 ((pass s i : Nat) : Int))] ?_
    have p_c54 := h_c54; try simp at p_c54
    have p_c62 := h_c62; try simp at p_c62
    have p_c70 := h_c70; try simp at p_c70
    have p_c84 := h_c84; try simp at p_c84
    refine Gx.pure_eq [5] [6, 7, 8, 9, 10, 11, 12, 13, 14] [(90, .int .i64 (IntKind.i64.wrap (((pass s i : Nat) : Int) + (1 : Int))))] [(90, .int .i64 (((pass s i) + 1 : Nat) : Int))] rfl (by kernel_rfl) (Gx.eqI (Gx.i64n (by omega) (by omega))) ?_
    refine Gx.cons (Gx.op_slice_str rfl (by kernel_rfl) rfl (by kernel_rfl) s (pass s i) ((pass s i) + 1) (by kernel_rfl) (.inr ⟨.i64, (by kernel_rfl)⟩) (.inr ⟨.i64, (by kernel_rfl)⟩) (by omega) (by omega) ?_)
    refine Z.p [7, 8, 9] [10, 11, 12, 13, 14] [(94, .int .i64 1), (93, .int .i64 ((pass s i : Nat) : Int)), (92, .agg #[.int .i64 4, .int .i64 ((pass s i : Nat) : Int), .string (s.extract (pass s i) ((pass s i) + 1)), .int .i64 0])] ?_
    refine Gx.pure_eq [10] [11, 12, 13, 14] [(95, .int .i64 (IntKind.i64.wrap (((pass s i : Nat) : Int) + (1 : Int))))] [(95, .int .i64 (((pass s i) + 1 : Nat) : Int))] rfl (by kernel_rfl) (Gx.eqI (Gx.i64n (by omega) (by omega))) ?_
    refine Z.p [11] [12, 13, 14] [(96, .agg #[.int .i64 0, .int .i64 0])] ?_
    refine Z.Sa #[.int .i64 4, .int .i64 ((pass s i : Nat) : Int), .string (s.extract (pass s i) ((pass s i) + 1)), .int .i64 0] (b9.ext x8) (fun w20 u9 b19 zw20 => ?_)
    refine Z.p [13] [14] [(5, .int .i64 (((pass s i) + 1 : Nat) : Int))] ?_
    refine Z.Sa #[.int .i64 0, .int .i64 0] ((b10.ext x8).upd1 u9) (fun w21 u10 b20 zw21 => ?_)
    refine Z.e (wp_ret (Gx.block_ret (Gx.then_ret (Gx.scope_ret ?_))))
    refine Gx.ret (Gx.res_ctc (u := .agg #[.int .i64 4, .int .i64 ((pass s i : Nat) : Int), .string (s.extract (pass s i) ((pass s i) + 1)), .int .i64 0]) (v := .int .i64 (((pass s i) + 1 : Nat) : Int)) (x := .agg #[.int .i64 0, .int .i64 0]) rfl (by kernel_rfl) (by kernel_rfl) (b19.upd1 u10) (by kernel_rfl) (by kernel_rfl) b20 (by kernel_rfl)) ?_
    exact Gx.ret_as (v' := Nx.V (next s i)) (by have hq := cls_sign (Gx.byteAt s (pass s i)) hpo.1 hpo.2 (fun q => by have := (cls_digit _).2 q; omega) (fun q => by have := (cls_letter _).2 q; omega); unfold next; rw [if_pos (show pass s i < s.size by omega)]; unfold tokAt; rw [if_neg (fun q => by have := (cls_digit _).2 q; omega)]; rw [if_neg (fun q => by have := (cls_letter _).2 q; omega)]; rw [if_pos (show signB (Gx.byteAt s (pass s i)) = true from by (by_cases q : signB (Gx.byteAt s (pass s i)) = true; exact q; (rw [if_neg q] at hq; omega)))]; unfold signLen; rw [if_neg (by rw [h_c84]; simp)]; rfl) (hK _ (((((Gx.Ext.refl w).trans x3).trans x8).upd1 u9).upd1 u10))
  refine wp_skip (Gx.block_normal (Z.x (Z.r [0, 1, 2, 3, 4, 5] ?_)))
  refine Z.p [0, 1, 2] [3, 4, 5] [(99, .agg #[.int .i64 2, .int .i64 ((pass s i : Nat) : Int)]), (98, .int .i64 ((pass s i : Nat) : Int)), (97, .agg #[.int .i64 0, .int .i64 0, .string Z.E, .int .i64 0])] ?_
  refine Z.Sa #[.int .i64 0, .int .i64 0, .string Z.E, .int .i64 0] (b9.ext x8) (fun w22 u11 b21 zw22 => ?_)
  refine Z.p [4] [5] [(5, .int .i64 0)] ?_
  have p_c54 := h_c54; try simp at p_c54
  have p_c62 := h_c62; try simp at p_c62
  have p_c70 := h_c70; try simp at p_c70
  refine Z.Sa #[.int .i64 2, .int .i64 ((pass s i : Nat) : Int)] ((b10.ext x8).upd1 u11) (fun w23 u12 b22 zw23 => ?_)
  refine Z.e (wp_ret (Gx.scope_ret ?_))
  refine Gx.ret (Gx.res_ctc (u := .agg #[.int .i64 0, .int .i64 0, .string Z.E, .int .i64 0]) (v := .int .i64 0) (x := .agg #[.int .i64 2, .int .i64 ((pass s i : Nat) : Int)]) rfl (by kernel_rfl) (by kernel_rfl) (b21.upd1 u12) (by kernel_rfl) (by kernel_rfl) b22 (by kernel_rfl)) ?_
  exact Gx.ret_as (v' := Nx.V (next s i)) (by have hq := cls_sign (Gx.byteAt s (pass s i)) hpo.1 hpo.2 (fun q => by have := (cls_digit _).2 q; omega) (fun q => by have := (cls_letter _).2 q; omega); unfold next; rw [if_pos (show pass s i < s.size by omega)]; unfold tokAt; rw [if_neg (fun q => by have := (cls_digit _).2 q; omega)]; rw [if_neg (fun q => by have := (cls_letter _).2 q; omega)]; rw [if_neg (fun q => by rw [if_pos q] at hq; omega)]; rfl) (hK _ (((((Gx.Ext.refl w).trans x3).trans x8).upd1 u11).upd1 u12))
end Go.Proofs.YtinilkomfggjiaaDoor
