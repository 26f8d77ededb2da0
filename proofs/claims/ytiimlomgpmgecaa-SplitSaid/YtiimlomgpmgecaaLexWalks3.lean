/- The walks of the lexer's functions, written by a program of ours (wip/gx/gx.py, wip/lexer/lexgen.py). -/
import Derived.Test.YtiimlomgpmgecaaRows
import Derived.Test.YtiimlomgpmgecaaGx
import Derived.Test.YtiimlomgpmgecaaLexPlain
import Derived.Test.YtiimlomgpmgecaaLexWalks1
import Derived.Test.YtiimlomgpmgecaaLexWalks2
namespace Go.Proofs.Ytiimlomgpmgecaa
open Go.RowKit Go.Lex
attribute [local irreducible] Go.wpOps Go.Code.wp Go.wpOp Go.wpAnyH Go.Calls
set_option maxHeartbeats 400000 in
set_option maxRecDepth 10000 in
theorem name_c (s : ByteArray) (i : Nat) (w : World) (K : Ending → World → Prop) (hs : s.size ≤ 3000) (hi : i < s.size) (hK : ∀ w', Gx.Ext w w' → K (.returned (Nx.V (nameAt s i))) w') :
    Calls Try.prog 14 #[.string s, .int .i64 ((i : Nat) : Int)] w K := by
  refine Gx.enter 50 Try.func14 rfl rfl (Nat.le_of_ble_eq_true rfl) ?_
  refine Gx.seq_reg [0, 1, 2] (by kernel_rfl) ?_
  refine Gx.cons (Gx.op_new (.cells #[.int .i64 0, .int .i64 0, .string (⟨#[]⟩ : ByteArray), .int .i64 0] 31) rfl (by kernel_rfl) (by kernel_rfl) (fun k1 w1 l1 x1 b1 => ?_))
  have zw1 := x1.size
  have tb1 := b1.lt
  refine Gx.pure [1] [2] [(5, .int .i64 0)] rfl (by kernel_rfl) ?_
  refine Gx.cons (Gx.op_new (.cells #[.int .i64 0, .int .i64 0] 25) rfl (by kernel_rfl) (by kernel_rfl) (fun k2 w2 l2 x2 b2 => ?_))
  have zw2 := x2.size
  have tb2 := b2.lt
  refine Gx.ops_end ?_
  refine Gx.seq_run [(7, .int .i64 ((i : Nat) : Int)), (9, .int .i64 ((i : Nat) : Int))] (by kernel_rfl) ?_
  refine Gx.cut (d' := []) (n' := 50) (fun l' w' => l' = [(0, .string s), (1, .int .i64 ((i : Nat) : Int)), (4, .pointer (some ⟨k1, 0, none⟩)), (6, .pointer (some ⟨k2, 0, none⟩)), (7, .int .i64 ((stop (fun c => letterB c || digitB c) s i : Nat) : Int))] ∧ Gx.Ext w w' ∧ Gx.Has w' k1 (.cells #[.int .i64 0, .int .i64 0, .string (⟨#[]⟩ : ByteArray), .int .i64 0] 31) ∧ Gx.Has w' k2 (.cells #[.int .i64 0, .int .i64 0] 25)) (fun K1 hK1 => ?_) (fun bb1 ll1 w3 hI1 => ?_)
  · skip
    refine wp_block ?_
    refine Gx.loop (n' := 50) (d' := []) (fun mz l' w' => ∃ (e : Nat), l' = [(0, .string s), (1, .int .i64 ((i : Nat) : Int)), (4, .pointer (some ⟨k1, 0, none⟩)), (6, .pointer (some ⟨k2, 0, none⟩)), (7, .int .i64 ((e : Nat) : Int))] ∧ mz = s.size - e ∧ Gx.Ext w w' ∧ Gx.Has w' k1 (.cells #[.int .i64 0, .int .i64 0, .string (⟨#[]⟩ : ByteArray), .int .i64 0] 31) ∧ Gx.Has w' k2 (.cells #[.int .i64 0, .int .i64 0] 25) ∧ (i ≤ e ∧ e ≤ s.size) ∧ (stop (fun c => letterB c || digitB c) s e = stop (fun c => letterB c || digitB c) s i)) _ _ [(0, .string s), (1, .int .i64 ((i : Nat) : Int)), (4, .pointer (some ⟨k1, 0, none⟩)), (6, .pointer (some ⟨k2, 0, none⟩)), (7, .int .i64 ((i : Nat) : Int))] (Gx.forget [(0, .string s), (1, .int .i64 ((i : Nat) : Int)), (4, .pointer (some ⟨k1, 0, none⟩)), (6, .pointer (some ⟨k2, 0, none⟩)), (7, .int .i64 ((i : Nat) : Int))] (by kernel_rfl)) ⟨i, rfl, rfl, (((Gx.Ext.refl w).trans x1).trans x2), (b1.ext x2), b2, (by omega), rfl⟩ (fun bb2 m1 ll2 w4 hI2 K2 hK2 => ?_)
    obtain ⟨e, rfl, rfl, x4, b3, b4, he, hst⟩ := hI2
    have zw4 := x4.size
    have tb3 := b3.lt
    have tb4 := b4.lt
    refine wp_seq ?_
    refine Gx.cut (d' := []) (n' := 50) (fun l' w' => l' = [(0, .string s), (1, .int .i64 ((i : Nat) : Int)), (4, .pointer (some ⟨k1, 0, none⟩)), (6, .pointer (some ⟨k2, 0, none⟩)), (7, .int .i64 ((e : Nat) : Int)), (27, .bool ((decide (((e : Nat) : Int) < ((s.size : Nat) : Int))) && ((((cls (Gx.byteAt s e) : Nat) : Int) == (4 : Int)) || (((cls (Gx.byteAt s e) : Nat) : Int) == (3 : Int)))))] ∧ Gx.Ext w4 w') (fun K3 hK3 => ?_) (fun bb3 ll3 w5 hI3 => ?_)
    · refine Gx.reg [0, 1, 2, 3, 4, 5, 6, 7, 8, 9, 10, 11, 12, 13, 14, 15, 16, 17] (by kernel_rfl) ?_
      refine Gx.pure [0, 1, 2, 3, 4] [5, 6, 7, 8, 9, 10, 11, 12, 13, 14, 15, 16, 17] [(14, .bool (decide (((e : Nat) : Int) < ((s.size : Nat) : Int)))), (13, .bool (decide (((e : Nat) : Int) < ((s.size : Nat) : Int)))), (12, .int .i64 ((s.size : Nat) : Int)), (11, .string s), (10, .int .i64 ((e : Nat) : Int))] rfl (by kernel_rfl) ?_
      refine Gx.split (decide (((e : Nat) : Int) < ((s.size : Nat) : Int))) (fun h_g14 => ?_) (fun h_g14 => ?_)
      · rw [h_g14]
        refine Gx.pure [5, 6] [7, 8, 9, 10, 11, 12, 13, 14, 15, 16, 17] [(16, .int .i64 ((e : Nat) : Int)), (15, .string s)] rfl (by kernel_rfl) ?_
        have p_g14 := h_g14; try simp at p_g14
        refine Gx.cons (Gx.op_index_str rfl (by kernel_rfl) rfl (by kernel_rfl) s .i64 e (by kernel_rfl) (by kernel_rfl) (by omega) ?_)
        refine Gx.cons (Gx.op_call rfl (by kernel_rfl) (by kernel_rfl) (fun R hR => class_c (Gx.byteAt s e) _ R  (fun w6 x5  => hR _ _ ?_)))
        have zw6 := x5.size
        refine Gx.pure [9, 10] [11, 12, 13, 14, 15, 16, 17] [(20, .bool (((cls (Gx.byteAt s e) : Nat) : Int) == (4 : Int))), (19, .bool (((cls (Gx.byteAt s e) : Nat) : Int) == (4 : Int)))] rfl (by kernel_rfl) ?_
        refine Gx.split (((cls (Gx.byteAt s e) : Nat) : Int) == (4 : Int)) (fun h_g20 => ?_) (fun h_g20 => ?_)
        · rw [h_g20]
          refine Gx.pure [11, 12, 13, 14, 15, 16, 17] [] [(27, .bool true), (26, .bool true), (25, undef), (24, undef), (23, undef), (22, undef), (21, undef)] rfl (by kernel_rfl) ?_
          refine Gx.ops_end ?_
          rw [Gx.forget [(0, .string s), (1, .int .i64 ((i : Nat) : Int)), (4, .pointer (some ⟨k1, 0, none⟩)), (6, .pointer (some ⟨k2, 0, none⟩)), (7, .int .i64 ((e : Nat) : Int)), (27, .bool ((decide (((e : Nat) : Int) < ((s.size : Nat) : Int))) && ((((cls (Gx.byteAt s e) : Nat) : Int) == (4 : Int)) || (((cls (Gx.byteAt s e) : Nat) : Int) == (3 : Int)))))] (by rw [h_g14, h_g20]; try kernel_rfl)]
          exact hK3 _ _ _ ⟨rfl, ((Gx.Ext.refl w4).trans x5)⟩
        rw [h_g20]
        refine Gx.pure [11, 12] [13, 14, 15, 16, 17] [(22, .int .i64 ((e : Nat) : Int)), (21, .string s)] rfl (by kernel_rfl) ?_
        have p_g20 := h_g20; try simp at p_g20
        refine Gx.cons (Gx.op_index_str rfl (by kernel_rfl) rfl (by kernel_rfl) s .i64 e (by kernel_rfl) (by kernel_rfl) (by omega) ?_)
        refine Gx.cons (Gx.op_call rfl (by kernel_rfl) (by kernel_rfl) (fun R hR => class_c (Gx.byteAt s e) _ R  (fun w7 x6  => hR _ _ ?_)))
        have zw7 := x6.size
        refine Gx.pure [15, 16, 17] [] [(27, .bool (((cls (Gx.byteAt s e) : Nat) : Int) == (3 : Int))), (26, .bool (((cls (Gx.byteAt s e) : Nat) : Int) == (3 : Int))), (25, .bool (((cls (Gx.byteAt s e) : Nat) : Int) == (3 : Int)))] rfl (by kernel_rfl) ?_
        refine Gx.ops_end ?_
        rw [Gx.forget [(0, .string s), (1, .int .i64 ((i : Nat) : Int)), (4, .pointer (some ⟨k1, 0, none⟩)), (6, .pointer (some ⟨k2, 0, none⟩)), (7, .int .i64 ((e : Nat) : Int)), (27, .bool ((decide (((e : Nat) : Int) < ((s.size : Nat) : Int))) && ((((cls (Gx.byteAt s e) : Nat) : Int) == (4 : Int)) || (((cls (Gx.byteAt s e) : Nat) : Int) == (3 : Int)))))] (by rw [h_g14, h_g20]; try kernel_rfl)]
        exact hK3 _ _ _ ⟨rfl, (((Gx.Ext.refl w4).trans x5).trans x6)⟩
      rw [h_g14]
      refine Gx.pure [5, 6, 7, 8, 9, 10, 11, 12, 13, 14, 15, 16, 17] [] [(27, .bool false), (26, undef), (25, undef), (24, undef), (23, undef), (22, undef), (21, undef), (20, undef), (19, undef), (18, undef), (17, undef), (16, undef), (15, undef)] rfl (by kernel_rfl) ?_
      refine Gx.ops_end ?_
      rw [Gx.forget [(0, .string s), (1, .int .i64 ((i : Nat) : Int)), (4, .pointer (some ⟨k1, 0, none⟩)), (6, .pointer (some ⟨k2, 0, none⟩)), (7, .int .i64 ((e : Nat) : Int)), (27, .bool ((decide (((e : Nat) : Int) < ((s.size : Nat) : Int))) && ((((cls (Gx.byteAt s e) : Nat) : Int) == (4 : Int)) || (((cls (Gx.byteAt s e) : Nat) : Int) == (3 : Int)))))] (by rw [h_g14]; try kernel_rfl)]
      exact hK3 _ _ _ ⟨rfl, (Gx.Ext.refl w4)⟩
    obtain ⟨rfl, x7⟩ := hI3
    have zw5 := x7.size
    refine Gx.cond ((decide (((e : Nat) : Int) < ((s.size : Nat) : Int))) && ((((cls (Gx.byteAt s e) : Nat) : Int) == (4 : Int)) || (((cls (Gx.byteAt s e) : Nat) : Int) == (3 : Int)))) (by kernel_rfl) (fun h_c27 => ?_) (fun h_c27 => ?_)
    · skip
      refine wp_skip ?_
      refine Gx.then_normal ?_
      refine wp_block ?_
      refine Gx.reg [0, 1, 2] (by kernel_rfl) ?_
      refine Gx.pure [0] [1, 2] [(28, .int .i64 ((e : Nat) : Int))] rfl (by kernel_rfl) ?_
      have p_c27 := h_c27; try simp at p_c27
      refine Gx.pure_eq [1] [2] [(29, .int .i64 (IntKind.i64.wrap (((e : Nat) : Int) + (1 : Int))))] [(29, .int .i64 ((e + 1 : Nat) : Int))] rfl (by kernel_rfl) (Gx.eqI (Gx.i64n (by omega) (by omega))) ?_
      refine Gx.pure [2] [] [(7, .int .i64 ((e + 1 : Nat) : Int))] rfl (by kernel_rfl) ?_
      refine Gx.ops_nil ?_
      refine Gx.block_normal ?_
      refine Gx.then_normal ?_
      rw [Gx.forget [(0, .string s), (1, .int .i64 ((i : Nat) : Int)), (4, .pointer (some ⟨k1, 0, none⟩)), (6, .pointer (some ⟨k2, 0, none⟩)), (7, .int .i64 ((e + 1 : Nat) : Int))] (by kernel_rfl)]
      exact hK2 _ _ _ _ (by omega) ⟨e + 1, rfl, rfl, (((Gx.Ext.refl w).trans x4).trans x7), (b3.ext x7), (b4.ext x7), (by omega), (by rw [← hst, stop_go (p := (fun c => letterB c || digitB c)) (s := s) (k := e) (by omega) (by rw [cls_let] at h_c27; simp at h_c27; simpa using h_c27.2)])⟩
    refine wp_exit ?_
    refine Gx.then_exit ?_
    refine Gx.then_exit ?_
    refine Gx.block_exit ?_
    refine Gx.then_normal ?_
    have p_c27 := h_c27; try simp at p_c27
    rw [Gx.forget [(0, .string s), (1, .int .i64 ((i : Nat) : Int)), (4, .pointer (some ⟨k1, 0, none⟩)), (6, .pointer (some ⟨k2, 0, none⟩)), (7, .int .i64 ((stop (fun c => letterB c || digitB c) s i : Nat) : Int))] (by rw [show stop (fun c => letterB c || digitB c) s i = e from hst.symm.trans (stop_at (by rw [cls_let] at h_c27; simpa using h_c27))]; kernel_rfl)]
    exact hK1 _ _ _ ⟨rfl, (((Gx.Ext.refl w).trans x4).trans x7), (b3.ext x7), (b4.ext x7)⟩
  obtain ⟨rfl, x3, b5, b6⟩ := hI1
  have zw3 := x3.size
  have tb5 := b5.lt
  have tb6 := b6.lt
  refine wp_seq ?_
  have hc1 := le_stop (fun c => letterB c || digitB c) s i
  have hc2 := stop_le (fun c => letterB c || digitB c) s i (by omega)
  refine Gx.seq_reg [0, 1, 2, 3] (by kernel_rfl) ?_
  refine Gx.pure [0, 1] [2, 3] [(31, .int .i64 ((i : Nat) : Int)), (30, .int .i64 ((stop (fun c => letterB c || digitB c) s i : Nat) : Int))] rfl (by kernel_rfl) ?_
  refine Gx.pure_eq [2] [3] [(32, .int .i64 (IntKind.i64.wrap (((stop (fun c => letterB c || digitB c) s i : Nat) : Int) - ((i : Nat) : Int))))] [(32, .int .i64 (((stop (fun c => letterB c || digitB c) s i : Nat) : Int) - ((i : Nat) : Int)))] rfl (by kernel_rfl) (Gx.eqI (IntWalk.i64_in _ (by omega))) ?_
  refine Gx.pure [3] [] [(33, .bool (decide ((((stop (fun c => letterB c || digitB c) s i : Nat) : Int) - ((i : Nat) : Int)) > (20 : Int))))] rfl (by kernel_rfl) ?_
  refine Gx.ops_end ?_
  refine Gx.cond (decide ((((stop (fun c => letterB c || digitB c) s i : Nat) : Int) - ((i : Nat) : Int)) > (20 : Int))) (by kernel_rfl) (fun h_c33 => ?_) (fun h_c33 => ?_)
  · skip
    refine Gx.seq_reg [0, 1, 2, 3, 4, 5] (by kernel_rfl) ?_
    refine Gx.pure [0, 1, 2] [3, 4, 5] [(36, .agg #[.int .i64 3, .int .i64 ((i : Nat) : Int)]), (35, .int .i64 ((i : Nat) : Int)), (34, .agg #[.int .i64 0, .int .i64 0, .string (⟨#[]⟩ : ByteArray), .int .i64 0])] rfl (by kernel_rfl) ?_
    refine Gx.cons (Gx.op_store rfl (by kernel_rfl) rfl 0 (.agg #[.int .i64 0, .int .i64 0, .string (⟨#[]⟩ : ByteArray), .int .i64 0]) (by kernel_rfl) (by kernel_rfl) b5 (by kernel_rfl) (by kernel_rfl) (by kernel_rfl) #[.int .i64 0, .int .i64 0, .string (⟨#[]⟩ : ByteArray), .int .i64 0] (by kernel_rfl) (fun w8 u1 b7 => ?_))
    have zw8 := u1.size
    refine Gx.pure [4] [5] [(5, .int .i64 0)] rfl (by kernel_rfl) ?_
    have p_c33 := h_c33; try simp at p_c33
    refine Gx.cons (Gx.op_store rfl (by kernel_rfl) rfl 0 (.agg #[.int .i64 3, .int .i64 ((i : Nat) : Int)]) (by kernel_rfl) (by kernel_rfl) (b6.upd1 u1 (by omega)) (by kernel_rfl) (by kernel_rfl) (by kernel_rfl) #[.int .i64 3, .int .i64 ((i : Nat) : Int)] (by kernel_rfl) (fun w9 u2 b8 => ?_))
    have zw9 := u2.size
    refine Gx.ops_end ?_
    refine wp_ret ?_
    refine Gx.then_ret ?_
    refine Gx.ret (Gx.res_ctc (u := .agg #[.int .i64 0, .int .i64 0, .string (⟨#[]⟩ : ByteArray), .int .i64 0]) (v := .int .i64 0) (x := .agg #[.int .i64 3, .int .i64 ((i : Nat) : Int)]) rfl (by kernel_rfl) (by kernel_rfl) (b7.upd1 u2 (by omega)) (by kernel_rfl) (by kernel_rfl) b8 (by kernel_rfl)) ?_
    exact Gx.ret_as (v' := Nx.V (nameAt s i)) (by unfold nameAt; rw [if_pos (by omega)]; rfl) (hK _ ((((Gx.Ext.refl w).trans x3).upd1 u1 (by omega)).upd1 u2 (by omega)))
  refine wp_skip ?_
  refine Gx.then_normal ?_
  refine Gx.seq_reg [0, 1, 2, 3, 4, 5, 6, 7] (by kernel_rfl) ?_
  refine Gx.pure [0, 1, 2, 3] [4, 5, 6, 7] [(40, .int .i64 ((stop (fun c => letterB c || digitB c) s i : Nat) : Int)), (39, .int .i64 ((i : Nat) : Int)), (38, .string s), (37, .int .i64 ((i : Nat) : Int))] rfl (by kernel_rfl) ?_
  have p_c33 := h_c33; try simp at p_c33
  refine Gx.cons (Gx.op_slice_str rfl (by kernel_rfl) rfl (by kernel_rfl) s i (stop (fun c => letterB c || digitB c) s i) (by kernel_rfl) (.inr ⟨.i64, (by kernel_rfl)⟩) (.inr ⟨.i64, (by kernel_rfl)⟩) (by omega) (by omega) ?_)
  refine Gx.pure [5] [6, 7] [(42, .agg #[.int .i64 2, .int .i64 ((i : Nat) : Int), .string (s.extract i (stop (fun c => letterB c || digitB c) s i)), .int .i64 0])] rfl (by kernel_rfl) ?_
  refine Gx.cons (Gx.op_new (.cells #[.int .i64 0, .int .i64 0, .string (⟨#[]⟩ : ByteArray), .int .i64 0] 31) rfl (by kernel_rfl) (by kernel_rfl) (fun k3 w10 l3 x8 b9 => ?_))
  have zw10 := x8.size
  have tb9 := b9.lt
  refine Gx.cons (Gx.op_store rfl (by kernel_rfl) rfl 0 (.agg #[.int .i64 2, .int .i64 ((i : Nat) : Int), .string (s.extract i (stop (fun c => letterB c || digitB c) s i)), .int .i64 0]) (by kernel_rfl) (by kernel_rfl) b9 (by kernel_rfl) (by kernel_rfl) (by kernel_rfl) #[.int .i64 2, .int .i64 ((i : Nat) : Int), .string (s.extract i (stop (fun c => letterB c || digitB c) s i)), .int .i64 0] (by kernel_rfl) (fun w11 u3 b10 => ?_))
  have zw11 := u3.size
  refine Gx.ops_end ?_
  refine wp_seq ?_
  refine Gx.seq_reg [0, 1, 2] (by kernel_rfl) ?_
  refine Gx.pure [0] [1, 2] [(43, .pointer (some ⟨k3, 2, none⟩))] rfl (by kernel_rfl) ?_
  refine Gx.cons (Gx.op_load rfl (by kernel_rfl) rfl 2 (.string (s.extract i (stop (fun c => letterB c || digitB c) s i))) (by kernel_rfl) b10 (by kernel_rfl) ?_)
  refine Gx.cons (Gx.op_call rfl (by kernel_rfl) (by kernel_rfl) (fun R hR => isWord_c (s.extract i (stop (fun c => letterB c || digitB c) s i)) _ R  (fun w12 x9  => hR _ _ ?_)))
  have zw12 := x9.size
  refine Gx.ops_end ?_
  refine Gx.cond (wordB (s.extract i (stop (fun c => letterB c || digitB c) s i))) (by kernel_rfl) (fun h_c45 => ?_) (fun h_c45 => ?_)
  · skip
    refine Gx.reg [0, 1] (by kernel_rfl) ?_
    refine Gx.pure [0] [1] [(46, .pointer (some ⟨k3, 0, none⟩))] rfl (by kernel_rfl) ?_
    refine Gx.cons (Gx.op_store rfl (by kernel_rfl) rfl 0 (.int .i64 3) (by kernel_rfl) (by kernel_rfl) (b10.ext x9) (by kernel_rfl) (by kernel_rfl) (by kernel_rfl) #[.int .i64 3, .int .i64 ((i : Nat) : Int), .string (s.extract i (stop (fun c => letterB c || digitB c) s i)), .int .i64 0] (by kernel_rfl) (fun w13 u4 b11 => ?_))
    have zw13 := u4.size
    refine Gx.ops_nil ?_
    refine Gx.then_normal ?_
    refine Gx.seq_reg [0, 1, 2, 3, 4, 5] (by kernel_rfl) ?_
    refine Gx.cons (Gx.op_load rfl (by kernel_rfl) rfl 0 (.agg #[.int .i64 3, .int .i64 ((i : Nat) : Int), .string (s.extract i (stop (fun c => letterB c || digitB c) s i)), .int .i64 0]) (by kernel_rfl) b11 (by kernel_rfl) ?_)
    refine Gx.pure [1, 2] [3, 4, 5] [(49, .agg #[.int .i64 0, .int .i64 0]), (48, .int .i64 ((stop (fun c => letterB c || digitB c) s i : Nat) : Int))] rfl (by kernel_rfl) ?_
    have p_c45 := h_c45; try simp at p_c45
    refine Gx.cons (Gx.op_store rfl (by kernel_rfl) rfl 0 (.agg #[.int .i64 3, .int .i64 ((i : Nat) : Int), .string (s.extract i (stop (fun c => letterB c || digitB c) s i)), .int .i64 0]) (by kernel_rfl) (by kernel_rfl) ((((b5.ext x8).upd1 u3 (by omega)).ext x9).upd1 u4 (by omega)) (by kernel_rfl) (by kernel_rfl) (by kernel_rfl) #[.int .i64 3, .int .i64 ((i : Nat) : Int), .string (s.extract i (stop (fun c => letterB c || digitB c) s i)), .int .i64 0] (by kernel_rfl) (fun w14 u5 b12 => ?_))
    have zw14 := u5.size
    refine Gx.pure [4] [5] [(5, .int .i64 ((stop (fun c => letterB c || digitB c) s i : Nat) : Int))] rfl (by kernel_rfl) ?_
    refine Gx.cons (Gx.op_store rfl (by kernel_rfl) rfl 0 (.agg #[.int .i64 0, .int .i64 0]) (by kernel_rfl) (by kernel_rfl) (((((b6.ext x8).upd1 u3 (by omega)).ext x9).upd1 u4 (by omega)).upd1 u5 (by omega)) (by kernel_rfl) (by kernel_rfl) (by kernel_rfl) #[.int .i64 0, .int .i64 0] (by kernel_rfl) (fun w15 u6 b13 => ?_))
    have zw15 := u6.size
    refine Gx.ops_end ?_
    refine wp_ret ?_
    refine Gx.ret (Gx.res_ctc (u := .agg #[.int .i64 3, .int .i64 ((i : Nat) : Int), .string (s.extract i (stop (fun c => letterB c || digitB c) s i)), .int .i64 0]) (v := .int .i64 ((stop (fun c => letterB c || digitB c) s i : Nat) : Int)) (x := .agg #[.int .i64 0, .int .i64 0]) rfl (by kernel_rfl) (by kernel_rfl) (b12.upd1 u6 (by omega)) (by kernel_rfl) (by kernel_rfl) b13 (by kernel_rfl)) ?_
    exact Gx.ret_as (v' := Nx.V (nameAt s i)) (by unfold nameAt; rw [if_neg (by omega)]; rw [if_pos h_c45]; rfl) (hK _ ((((((((Gx.Ext.refl w).trans x3).trans x8).upd1 u3 (by omega)).trans x9).upd1 u4 (by omega)).upd1 u5 (by omega)).upd1 u6 (by omega)))
  refine wp_skip ?_
  refine Gx.then_normal ?_
  refine Gx.seq_reg [0, 1, 2, 3, 4, 5] (by kernel_rfl) ?_
  refine Gx.cons (Gx.op_load rfl (by kernel_rfl) rfl 0 (.agg #[.int .i64 2, .int .i64 ((i : Nat) : Int), .string (s.extract i (stop (fun c => letterB c || digitB c) s i)), .int .i64 0]) (by kernel_rfl) (b10.ext x9) (by kernel_rfl) ?_)
  refine Gx.pure [1, 2] [3, 4, 5] [(49, .agg #[.int .i64 0, .int .i64 0]), (48, .int .i64 ((stop (fun c => letterB c || digitB c) s i : Nat) : Int))] rfl (by kernel_rfl) ?_
  have p_c45 := h_c45; try simp at p_c45
  refine Gx.cons (Gx.op_store rfl (by kernel_rfl) rfl 0 (.agg #[.int .i64 2, .int .i64 ((i : Nat) : Int), .string (s.extract i (stop (fun c => letterB c || digitB c) s i)), .int .i64 0]) (by kernel_rfl) (by kernel_rfl) (((b5.ext x8).upd1 u3 (by omega)).ext x9) (by kernel_rfl) (by kernel_rfl) (by kernel_rfl) #[.int .i64 2, .int .i64 ((i : Nat) : Int), .string (s.extract i (stop (fun c => letterB c || digitB c) s i)), .int .i64 0] (by kernel_rfl) (fun w16 u7 b14 => ?_))
  have zw16 := u7.size
  refine Gx.pure [4] [5] [(5, .int .i64 ((stop (fun c => letterB c || digitB c) s i : Nat) : Int))] rfl (by kernel_rfl) ?_
  refine Gx.cons (Gx.op_store rfl (by kernel_rfl) rfl 0 (.agg #[.int .i64 0, .int .i64 0]) (by kernel_rfl) (by kernel_rfl) ((((b6.ext x8).upd1 u3 (by omega)).ext x9).upd1 u7 (by omega)) (by kernel_rfl) (by kernel_rfl) (by kernel_rfl) #[.int .i64 0, .int .i64 0] (by kernel_rfl) (fun w17 u8 b15 => ?_))
  have zw17 := u8.size
  refine Gx.ops_end ?_
  refine wp_ret ?_
  refine Gx.ret (Gx.res_ctc (u := .agg #[.int .i64 2, .int .i64 ((i : Nat) : Int), .string (s.extract i (stop (fun c => letterB c || digitB c) s i)), .int .i64 0]) (v := .int .i64 ((stop (fun c => letterB c || digitB c) s i : Nat) : Int)) (x := .agg #[.int .i64 0, .int .i64 0]) rfl (by kernel_rfl) (by kernel_rfl) (b14.upd1 u8 (by omega)) (by kernel_rfl) (by kernel_rfl) b15 (by kernel_rfl)) ?_
  exact Gx.ret_as (v' := Nx.V (nameAt s i)) (by unfold nameAt; rw [if_neg (by omega)]; rw [if_neg (by rw [h_c45]; simp)]; rfl) (hK _ (((((((Gx.Ext.refl w).trans x3).trans x8).upd1 u3 (by omega)).trans x9).upd1 u7 (by omega)).upd1 u8 (by omega)))

set_option maxHeartbeats 1000000 in
set_option maxRecDepth 10000 in
theorem pnumber_c (s : ByteArray) (i : Nat) (w : World) (K : Ending → World → Prop) (hs : s.size ≤ 3000) (hi : i < s.size) (hK : ∀ w', Gx.Ext w w' → K (.returned (Nx.V (numAt s i))) w') :
    Calls Try.prog 13 #[.string s, .int .i64 ((i : Nat) : Int)] w K := by
  refine Gx.enter 68 Try.func13 rfl rfl (Nat.le_of_ble_eq_true rfl) ?_
  refine Gx.seq_reg [0, 1, 2] (by kernel_rfl) ?_
  refine Gx.cons (Gx.op_new (.cells #[.int .i64 0, .int .i64 0, .string (⟨#[]⟩ : ByteArray), .int .i64 0] 31) rfl (by kernel_rfl) (by kernel_rfl) (fun k1 w1 l1 x1 b1 => ?_))
  have zw1 := x1.size
  have tb1 := b1.lt
  refine Gx.pure [1] [2] [(5, .int .i64 0)] rfl (by kernel_rfl) ?_
  refine Gx.cons (Gx.op_new (.cells #[.int .i64 0, .int .i64 0] 25) rfl (by kernel_rfl) (by kernel_rfl) (fun k2 w2 l2 x2 b2 => ?_))
  have zw2 := x2.size
  have tb2 := b2.lt
  refine Gx.ops_end ?_
  refine Gx.seq_run [(9, .bool true), (8, .int .i64 ((s.size : Nat) : Int)), (7, .int .u64 0), (14, .int .i64 ((s.size : Nat) : Int)), (13, .string s)] (by kernel_rfl) ?_
  refine wp_seq ?_
  refine Gx.seq_reg [0, 1, 2, 3] (by kernel_rfl) ?_
  refine Gx.pure [0, 1] [2, 3] [(16, .int .i64 ((i : Nat) : Int)), (15, .string s)] rfl (by kernel_rfl) ?_
  refine Gx.cons (Gx.op_slice_str rfl (by kernel_rfl) rfl (by kernel_rfl) s i s.size (by kernel_rfl) (.inr ⟨.i64, (by kernel_rfl)⟩) (.inl ⟨rfl, rfl⟩) (by omega) (by omega) ?_)
  refine Gx.cons (Gx.op_new (.stringIter (s.extract i s.size) 0) rfl (by kernel_rfl) (by kernel_rfl) (fun k3 w3 l3 x3 b3 => ?_))
  have zw3 := x3.size
  have tb3 := b3.lt
  refine Gx.ops_end ?_
  refine wp_block ?_
  refine Gx.loop (n' := 68) (d' := []) (fun mz l' w' => ∃ (m : Nat) (v : Nat) (f : Bool), l' = [(0, .string s), (1, .int .i64 ((i : Nat) : Int)), (4, .pointer (some ⟨k1, 0, none⟩)), (6, .pointer (some ⟨k2, 0, none⟩)), (18, .pointer (some ⟨k3, 0, none⟩)), (7, .int .u64 ((v : Nat) : Int)), (8, .int .i64 ((s.size : Nat) : Int)), (9, .bool f)] ∧ mz = s.size - i - m ∧ Gx.Ext w w' ∧ Gx.Has w' k1 (.cells #[.int .i64 0, .int .i64 0, .string (⟨#[]⟩ : ByteArray), .int .i64 0] 31) ∧ Gx.Has w' k2 (.cells #[.int .i64 0, .int .i64 0] 25) ∧ Gx.Has w' k3 (.stringIter (s.extract i s.size) m) ∧ (i + m ≤ s.size) ∧ (stop digitB s (i + m) = stop digitB s i) ∧ (v ≤ 9223372036854775807) ∧ (f = decide (dval s i m ≤ maxInt)) ∧ (f = true → v = dval s i m)) _ _ [(0, .string s), (1, .int .i64 ((i : Nat) : Int)), (4, .pointer (some ⟨k1, 0, none⟩)), (6, .pointer (some ⟨k2, 0, none⟩)), (18, .pointer (some ⟨k3, 0, none⟩)), (7, .int .u64 ((0 : Nat) : Int)), (8, .int .i64 ((s.size : Nat) : Int)), (9, .bool true)] (Gx.forget [(0, .string s), (1, .int .i64 ((i : Nat) : Int)), (4, .pointer (some ⟨k1, 0, none⟩)), (6, .pointer (some ⟨k2, 0, none⟩)), (18, .pointer (some ⟨k3, 0, none⟩)), (7, .int .u64 ((0 : Nat) : Int)), (8, .int .i64 ((s.size : Nat) : Int)), (9, .bool true)] (by kernel_rfl)) ⟨0, 0, true, rfl, rfl, ((((Gx.Ext.refl w).trans x1).trans x2).trans x3), ((b1.ext x2).ext x3), (b2.ext x3), b3, (by omega), rfl, (by omega), (by simp [dval]), (fun _ => rfl)⟩ (fun bb1 m1 ll1 w4 hI1 K1 hK1 => ?_)
  obtain ⟨m, v, f, rfl, rfl, x4, b4, b5, b6, hm, hst, hvm, hf, hv⟩ := hI1
  have zw4 := x4.size
  have tb4 := b4.lt
  have tb5 := b5.lt
  have tb6 := b6.lt
  rcases num_cases s i m hm with hz | ⟨hz, hdg, hdec⟩ | ⟨hz, hdg, rc, wd, hdec⟩
  · skip
    have hend : stop digitB s i = s.size := by rw [← hst, stop_at (by omega)]; omega
    refine Gx.seq_reg [0, 1] (by kernel_rfl) ?_
    refine Gx.cons (Gx.op_next_end rfl (by kernel_rfl) rfl (s.extract i s.size) m (by kernel_rfl) b6 (by rw [size_ext (Nat.le_refl _)]; omega) ?_)
    refine Gx.pure [1] [] [(20, .bool false)] rfl (by kernel_rfl) ?_
    refine Gx.ops_end ?_
    refine wp_seq ?_
    refine Gx.cond_f (by kernel_rfl) ?_
    refine wp_exit ?_
    refine Gx.then_exit ?_
    refine Gx.then_exit ?_
    refine Gx.block_exit ?_
    refine Gx.then_normal ?_
    refine wp_seq ?_
    refine Gx.cut (d' := []) (n' := 68) (fun l' w' => l' = [(1, .int .i64 ((i : Nat) : Int)), (4, .pointer (some ⟨k1, 0, none⟩)), (6, .pointer (some ⟨k2, 0, none⟩)), (7, .int .u64 ((v : Nat) : Int)), (8, .int .i64 ((s.size : Nat) : Int)), (58, .bool ((!f) || ((decide ((((s.size : Nat) : Int) - ((i : Nat) : Int)) > (1 : Int))) && (((Gx.byteAt s i).toNat : Int) == (48 : Int)))))] ∧ w4 = w') (fun K2 hK2 => ?_) (fun bb2 ll2 w5 hI2 => ?_)
    · refine Gx.reg [0, 1, 2, 3, 4, 5, 6, 7, 8, 9, 10, 11, 12, 13] (by kernel_rfl) ?_
      refine Gx.pure [0, 1, 2] [3, 4, 5, 6, 7, 8, 9, 10, 11, 12, 13] [(47, .bool (!f)), (46, .bool (!f)), (45, .bool f)] rfl (by kernel_rfl) ?_
      refine Gx.split (!f) (fun h_g47 => ?_) (fun h_g47 => ?_)
      · rw [h_g47]
        refine Gx.pure [3, 4, 5, 6, 7, 8, 9, 10, 11, 12, 13] [] [(58, .bool true), (57, undef), (56, undef), (55, undef), (54, undef), (53, undef), (52, undef), (51, undef), (50, undef), (49, undef), (48, undef)] rfl (by kernel_rfl) ?_
        refine Gx.ops_end ?_
        rw [Gx.forget [(1, .int .i64 ((i : Nat) : Int)), (4, .pointer (some ⟨k1, 0, none⟩)), (6, .pointer (some ⟨k2, 0, none⟩)), (7, .int .u64 ((v : Nat) : Int)), (8, .int .i64 ((s.size : Nat) : Int)), (58, .bool ((!f) || ((decide ((((s.size : Nat) : Int) - ((i : Nat) : Int)) > (1 : Int))) && (((Gx.byteAt s i).toNat : Int) == (48 : Int)))))] (by rw [h_g47]; try kernel_rfl)]
        exact hK2 _ _ _ ⟨rfl, rfl⟩
      rw [h_g47]
      refine Gx.pure [3, 4] [5, 6, 7, 8, 9, 10, 11, 12, 13] [(49, .int .i64 ((i : Nat) : Int)), (48, .int .i64 ((s.size : Nat) : Int))] rfl (by kernel_rfl) ?_
      have p_g47 := h_g47; try simp at p_g47
      refine Gx.pure_eq [5] [6, 7, 8, 9, 10, 11, 12, 13] [(50, .int .i64 (IntKind.i64.wrap (((s.size : Nat) : Int) - ((i : Nat) : Int))))] [(50, .int .i64 (((s.size : Nat) : Int) - ((i : Nat) : Int)))] rfl (by kernel_rfl) (Gx.eqI (IntWalk.i64_in _ (by omega))) ?_
      refine Gx.pure [6, 7] [8, 9, 10, 11, 12, 13] [(52, .bool (decide ((((s.size : Nat) : Int) - ((i : Nat) : Int)) > (1 : Int)))), (51, .bool (decide ((((s.size : Nat) : Int) - ((i : Nat) : Int)) > (1 : Int))))] rfl (by kernel_rfl) ?_
      refine Gx.split (decide ((((s.size : Nat) : Int) - ((i : Nat) : Int)) > (1 : Int))) (fun h_g52 => ?_) (fun h_g52 => ?_)
      · rw [h_g52]
        refine Gx.pure [8, 9] [10, 11, 12, 13] [(54, .int .i64 ((i : Nat) : Int)), (53, .string s)] rfl (by kernel_rfl) ?_
        have p_g52 := h_g52; try simp at p_g52
        refine Gx.cons (Gx.op_index_str rfl (by kernel_rfl) rfl (by kernel_rfl) s .i64 i (by kernel_rfl) (by kernel_rfl) (by omega) ?_)
        refine Gx.pure [11, 12, 13] [] [(58, .bool (((Gx.byteAt s i).toNat : Int) == (48 : Int))), (57, .bool (((Gx.byteAt s i).toNat : Int) == (48 : Int))), (56, .bool (((Gx.byteAt s i).toNat : Int) == (48 : Int)))] rfl (by kernel_rfl) ?_
        refine Gx.ops_end ?_
        rw [Gx.forget [(1, .int .i64 ((i : Nat) : Int)), (4, .pointer (some ⟨k1, 0, none⟩)), (6, .pointer (some ⟨k2, 0, none⟩)), (7, .int .u64 ((v : Nat) : Int)), (8, .int .i64 ((s.size : Nat) : Int)), (58, .bool ((!f) || ((decide ((((s.size : Nat) : Int) - ((i : Nat) : Int)) > (1 : Int))) && (((Gx.byteAt s i).toNat : Int) == (48 : Int)))))] (by rw [h_g47, h_g52]; try kernel_rfl)]
        exact hK2 _ _ _ ⟨rfl, rfl⟩
      rw [h_g52]
      refine Gx.pure [8, 9, 10, 11, 12, 13] [] [(58, .bool false), (57, .bool false), (56, undef), (55, undef), (54, undef), (53, undef)] rfl (by kernel_rfl) ?_
      refine Gx.ops_end ?_
      rw [Gx.forget [(1, .int .i64 ((i : Nat) : Int)), (4, .pointer (some ⟨k1, 0, none⟩)), (6, .pointer (some ⟨k2, 0, none⟩)), (7, .int .u64 ((v : Nat) : Int)), (8, .int .i64 ((s.size : Nat) : Int)), (58, .bool ((!f) || ((decide ((((s.size : Nat) : Int) - ((i : Nat) : Int)) > (1 : Int))) && (((Gx.byteAt s i).toNat : Int) == (48 : Int)))))] (by rw [h_g47, h_g52]; try kernel_rfl)]
      exact hK2 _ _ _ ⟨rfl, rfl⟩
    obtain ⟨rfl, rfl⟩ := hI2
    refine Gx.cond ((!f) || ((decide ((((s.size : Nat) : Int) - ((i : Nat) : Int)) > (1 : Int))) && (((Gx.byteAt s i).toNat : Int) == (48 : Int)))) (by kernel_rfl) (fun h_c58 => ?_) (fun h_c58 => ?_)
    · skip
      refine Gx.seq_reg [0, 1, 2, 3, 4, 5] (by kernel_rfl) ?_
      refine Gx.pure [0, 1, 2] [3, 4, 5] [(61, .agg #[.int .i64 3, .int .i64 ((i : Nat) : Int)]), (60, .int .i64 ((i : Nat) : Int)), (59, .agg #[.int .i64 0, .int .i64 0, .string (⟨#[]⟩ : ByteArray), .int .i64 0])] rfl (by kernel_rfl) ?_
      refine Gx.cons (Gx.op_store rfl (by kernel_rfl) rfl 0 (.agg #[.int .i64 0, .int .i64 0, .string (⟨#[]⟩ : ByteArray), .int .i64 0]) (by kernel_rfl) (by kernel_rfl) b4 (by kernel_rfl) (by kernel_rfl) (by kernel_rfl) #[.int .i64 0, .int .i64 0, .string (⟨#[]⟩ : ByteArray), .int .i64 0] (by kernel_rfl) (fun w6 u1 b7 => ?_))
      have zw6 := u1.size
      refine Gx.pure [4] [5] [(5, .int .i64 0)] rfl (by kernel_rfl) ?_
      have p_c58 := h_c58; try simp at p_c58
      refine Gx.cons (Gx.op_store rfl (by kernel_rfl) rfl 0 (.agg #[.int .i64 3, .int .i64 ((i : Nat) : Int)]) (by kernel_rfl) (by kernel_rfl) (b5.upd1 u1 (by omega)) (by kernel_rfl) (by kernel_rfl) (by kernel_rfl) #[.int .i64 3, .int .i64 ((i : Nat) : Int)] (by kernel_rfl) (fun w7 u2 b8 => ?_))
      have zw7 := u2.size
      refine Gx.ops_end ?_
      refine wp_ret ?_
      refine Gx.then_ret ?_
      refine Gx.ret (Gx.res_ctc (u := .agg #[.int .i64 0, .int .i64 0, .string (⟨#[]⟩ : ByteArray), .int .i64 0]) (v := .int .i64 0) (x := .agg #[.int .i64 3, .int .i64 ((i : Nat) : Int)]) rfl (by kernel_rfl) (by kernel_rfl) (b7.upd1 u2 (by omega)) (by kernel_rfl) (by kernel_rfl) b8 (by kernel_rfl)) ?_
      exact Gx.ret_as (v' := Nx.V (numAt s i)) (by rw [numOk_eq (s := s) (i := i) (e := s.size) (by rw [hf]; congr; omega) (by omega)] at h_c58; unfold numAt; rw [hend, if_neg (by simpa using h_c58)]; rfl) (hK _ ((((Gx.Ext.refl w).trans x4).upd1 u1 (by omega)).upd1 u2 (by omega)))
    refine wp_skip ?_
    refine Gx.then_normal ?_
    refine Gx.seq_reg [0, 1, 2, 3, 4, 5, 6, 7, 8] (by kernel_rfl) ?_
    refine Gx.pure [0, 1] [2, 3, 4, 5, 6, 7, 8] [(63, .int .u64 ((v : Nat) : Int)), (62, .int .i64 ((i : Nat) : Int))] rfl (by kernel_rfl) ?_
    have p_c58 := h_c58; try simp at p_c58
    refine Gx.pure_eq [2] [3, 4, 5, 6, 7, 8] [(64, .int .i64 (IntKind.i64.wrap ((v : Nat) : Int)))] [(64, .int .i64 ((v : Nat) : Int))] rfl (by kernel_rfl) (Gx.eqI (IntWalk.i64_in _ (by omega))) ?_
    refine Gx.pure [3, 4, 5] [6, 7, 8] [(67, .agg #[.int .i64 0, .int .i64 0]), (66, .int .i64 ((s.size : Nat) : Int)), (65, .agg #[.int .i64 1, .int .i64 ((i : Nat) : Int), .string (⟨#[]⟩ : ByteArray), .int .i64 ((v : Nat) : Int)])] rfl (by kernel_rfl) ?_
    refine Gx.cons (Gx.op_store rfl (by kernel_rfl) rfl 0 (.agg #[.int .i64 1, .int .i64 ((i : Nat) : Int), .string (⟨#[]⟩ : ByteArray), .int .i64 ((v : Nat) : Int)]) (by kernel_rfl) (by kernel_rfl) b4 (by kernel_rfl) (by kernel_rfl) (by kernel_rfl) #[.int .i64 1, .int .i64 ((i : Nat) : Int), .string (⟨#[]⟩ : ByteArray), .int .i64 ((v : Nat) : Int)] (by kernel_rfl) (fun w8 u3 b9 => ?_))
    have zw8 := u3.size
    refine Gx.pure [7] [8] [(5, .int .i64 ((s.size : Nat) : Int))] rfl (by kernel_rfl) ?_
    refine Gx.cons (Gx.op_store rfl (by kernel_rfl) rfl 0 (.agg #[.int .i64 0, .int .i64 0]) (by kernel_rfl) (by kernel_rfl) (b5.upd1 u3 (by omega)) (by kernel_rfl) (by kernel_rfl) (by kernel_rfl) #[.int .i64 0, .int .i64 0] (by kernel_rfl) (fun w9 u4 b10 => ?_))
    have zw9 := u4.size
    refine Gx.ops_end ?_
    refine wp_ret ?_
    refine Gx.ret (Gx.res_ctc (u := .agg #[.int .i64 1, .int .i64 ((i : Nat) : Int), .string (⟨#[]⟩ : ByteArray), .int .i64 ((v : Nat) : Int)]) (v := .int .i64 ((s.size : Nat) : Int)) (x := .agg #[.int .i64 0, .int .i64 0]) rfl (by kernel_rfl) (by kernel_rfl) (b9.upd1 u4 (by omega)) (by kernel_rfl) (by kernel_rfl) b10 (by kernel_rfl)) ?_
    exact Gx.ret_as (v' := Nx.V (numAt s i)) (by have hq := h_c58; rw [numOk_eq (s := s) (i := i) (e := s.size) (by rw [hf]; congr; omega) (by omega)] at hq; have hft : f = true := (by revert h_c58; cases f <;> simp); unfold numAt; rw [hend, if_pos (by simpa using hq), hv hft, show s.size - i = m by omega]; rfl) (hK _ ((((Gx.Ext.refl w).trans x4).upd1 u3 (by omega)).upd1 u4 (by omega)))
  · skip
    refine Gx.seq_reg [0, 1] (by kernel_rfl) ?_
    refine Gx.cons (Gx.op_next_as rfl (by kernel_rfl) rfl (s.extract i s.size) m (by kernel_rfl) b6 (by rw [size_ext (Nat.le_refl _)]; omega) ((Gx.byteAt s (i + m)).toNat) 1 hdec (fun w10 u5 b11 => ?_))
    have zw10 := u5.size
    refine Gx.pure [1] [] [(20, .bool true)] rfl (by kernel_rfl) ?_
    refine Gx.ops_end ?_
    refine wp_seq ?_
    refine Gx.cond_t (by kernel_rfl) ?_
    refine wp_skip ?_
    refine Gx.then_normal ?_
    refine wp_block ?_
    refine Gx.seq_run [(10, .int .i64 ((m : Nat) : Int)), (21, .int .i64 ((m : Nat) : Int))] (by kernel_rfl) ?_
    refine Gx.seq_reg [0, 1, 2, 3, 4, 5] (by kernel_rfl) ?_
    refine Gx.pure [0, 1, 2] [3, 4, 5] [(24, .int .i64 ((m : Nat) : Int)), (23, .int .i64 ((i : Nat) : Int)), (22, .string s)] rfl (by kernel_rfl) ?_
    refine Gx.pure_eq [3] [4, 5] [(25, .int .i64 (IntKind.i64.wrap (((i : Nat) : Int) + ((m : Nat) : Int))))] [(25, .int .i64 ((i + m : Nat) : Int))] rfl (by kernel_rfl) (Gx.eqI (Gx.i64n (by omega) (by omega))) ?_
    refine Gx.cons (Gx.op_index_str rfl (by kernel_rfl) rfl (by kernel_rfl) s .i64 (i + m) (by kernel_rfl) (by kernel_rfl) (by omega) ?_)
    refine Gx.pure [5] [] [(11, .int .u8 ((Gx.byteAt s (i + m)).toNat : Int))] rfl (by kernel_rfl) ?_
    refine Gx.ops_end ?_
    refine wp_seq ?_
    refine Gx.seq_reg [0, 1, 2] (by kernel_rfl) ?_
    refine Gx.pure [0] [1, 2] [(27, .int .u8 ((Gx.byteAt s (i + m)).toNat : Int))] rfl (by kernel_rfl) ?_
    refine Gx.cons (Gx.op_call rfl (by kernel_rfl) (by kernel_rfl) (fun R hR => class_c (Gx.byteAt s (i + m)) _ R  (fun w11 x5  => hR _ _ ?_)))
    have zw11 := x5.size
    refine Gx.pure [2] [] [(29, .bool (((cls (Gx.byteAt s (i + m)) : Nat) : Int) != (3 : Int)))] rfl (by kernel_rfl) ?_
    refine Gx.ops_end ?_
    refine Gx.cond (((cls (Gx.byteAt s (i + m)) : Nat) : Int) != (3 : Int)) (by kernel_rfl) (fun h_c29 => ?_) (fun h_c29 => ?_)
    · skip
      have p_c29 := h_c29; try simp at p_c29
      exact absurd ((cls_digit _).2 hdg) (by omega)
    refine wp_skip ?_
    refine Gx.then_normal ?_
    have p_c29 := h_c29; try simp at p_c29
    have hd' := (digit_iff _).1 hdg
    refine Gx.seq_reg [0, 1, 2, 3] (by kernel_rfl) ?_
    refine Gx.pure [0] [1, 2, 3] [(33, .int .u8 ((Gx.byteAt s (i + m)).toNat : Int))] rfl (by kernel_rfl) ?_
    refine Gx.pure_eq [1] [2, 3] [(34, .int .u8 (IntKind.u8.wrap (((Gx.byteAt s (i + m)).toNat : Int) - (48 : Int))))] [(34, .int .u8 (((Gx.byteAt s (i + m)).toNat - 48 : Nat) : Int))] rfl (by kernel_rfl) (Gx.eqI ((by rw [IntWalk.u8_in _ (by omega)]; omega))) ?_
    refine Gx.pure_eq [2] [3] [(35, .int .u64 (IntKind.u64.wrap (((Gx.byteAt s (i + m)).toNat - 48 : Nat) : Int)))] [(35, .int .u64 (((Gx.byteAt s (i + m)).toNat - 48 : Nat) : Int))] rfl (by kernel_rfl) (Gx.eqI (IntWalk.u64_in _ (by omega))) ?_
    refine Gx.pure [3] [] [(12, .int .u64 (((Gx.byteAt s (i + m)).toNat - 48 : Nat) : Int))] rfl (by kernel_rfl) ?_
    refine Gx.ops_end ?_
    refine Gx.seq_reg [0, 1, 2, 3, 4] (by kernel_rfl) ?_
    refine Gx.pure [0, 1] [2, 3, 4] [(37, .int .u64 (((Gx.byteAt s (i + m)).toNat - 48 : Nat) : Int)), (36, .int .u64 ((v : Nat) : Int))] rfl (by kernel_rfl) ?_
    refine Gx.pure_eq [2] [3, 4] [(38, .int .u64 (IntKind.u64.wrap ((9223372036854775807 : Int) - (((Gx.byteAt s (i + m)).toNat - 48 : Nat) : Int))))] [(38, .int .u64 ((9223372036854775807 : Int) - (((Gx.byteAt s (i + m)).toNat - 48 : Nat) : Int)))] rfl (by kernel_rfl) (Gx.eqI (IntWalk.u64_in _ (by omega))) ?_
    refine Gx.pure_eq [3] [4] [(39, .int .u64 (IntKind.u64.wrap (Int.tdiv ((9223372036854775807 : Int) - (((Gx.byteAt s (i + m)).toNat - 48 : Nat) : Int)) (10 : Int))))] [(39, .int .u64 (((9223372036854775807 : Int) - (((Gx.byteAt s (i + m)).toNat - 48 : Nat) : Int)) / (10 : Int)))] rfl (by kernel_rfl) (Gx.eqI (IntWalk.u64_quo _ _ (by omega))) ?_
    refine Gx.pure [4] [] [(40, .bool (decide (((v : Nat) : Int) > (((9223372036854775807 : Int) - (((Gx.byteAt s (i + m)).toNat - 48 : Nat) : Int)) / (10 : Int)))))] rfl (by kernel_rfl) ?_
    refine Gx.ops_end ?_
    refine Gx.cond (decide (((v : Nat) : Int) > (((9223372036854775807 : Int) - (((Gx.byteAt s (i + m)).toNat - 48 : Nat) : Int)) / (10 : Int)))) (by kernel_rfl) (fun h_c40 => ?_) (fun h_c40 => ?_)
    · skip
      refine Gx.reg_run [(9, .bool false)] (by kernel_rfl) ?_
      refine Gx.block_normal ?_
      refine Gx.then_normal ?_
      have p_c40 := h_c40; try simp at p_c40
      rw [Gx.forget [(0, .string s), (1, .int .i64 ((i : Nat) : Int)), (4, .pointer (some ⟨k1, 0, none⟩)), (6, .pointer (some ⟨k2, 0, none⟩)), (18, .pointer (some ⟨k3, 0, none⟩)), (7, .int .u64 ((v : Nat) : Int)), (8, .int .i64 ((s.size : Nat) : Int)), (9, .bool false)] (by kernel_rfl)]
      exact hK1 _ _ _ _ (by omega) ⟨m + 1, v, false, rfl, rfl, ((((Gx.Ext.refl w).trans x4).upd1 u5 (by omega)).trans x5), ((b4.upd1 u5 (by omega)).ext x5), ((b5.upd1 u5 (by omega)).ext x5), (b11.ext x5), (by omega), (by rw [← hst, stop_go (p := digitB) (s := s) (k := i + m) (by omega) hdg]; rfl), hvm, (fits_no hf hv rfl (by omega) (by unfold maxInt; omega)), (fun q => by cases q)⟩
    refine Gx.reg [0, 1, 2, 3, 4] (by kernel_rfl) ?_
    refine Gx.pure [0] [1, 2, 3, 4] [(41, .int .u64 ((v : Nat) : Int))] rfl (by kernel_rfl) ?_
    have p_c40 := h_c40; try simp at p_c40
    refine Gx.pure_eq [1] [2, 3, 4] [(42, .int .u64 (IntKind.u64.wrap (((v : Nat) : Int) * (10 : Int))))] [(42, .int .u64 ((v * 10 : Nat) : Int))] rfl (by kernel_rfl) (Gx.eqI ((by rw [IntWalk.u64_in _ (by omega)]; omega))) ?_
    refine Gx.pure [2] [3, 4] [(43, .int .u64 (((Gx.byteAt s (i + m)).toNat - 48 : Nat) : Int))] rfl (by kernel_rfl) ?_
    refine Gx.pure_eq [3] [4] [(44, .int .u64 (IntKind.u64.wrap (((v * 10 : Nat) : Int) + (((Gx.byteAt s (i + m)).toNat - 48 : Nat) : Int))))] [(44, .int .u64 ((v * 10 + ((Gx.byteAt s (i + m)).toNat - 48) : Nat) : Int))] rfl (by kernel_rfl) (Gx.eqI ((by rw [IntWalk.u64_in _ (by omega)]; omega))) ?_
    refine Gx.pure [4] [] [(7, .int .u64 ((v * 10 + ((Gx.byteAt s (i + m)).toNat - 48) : Nat) : Int))] rfl (by kernel_rfl) ?_
    refine Gx.ops_nil ?_
    refine Gx.block_normal ?_
    refine Gx.then_normal ?_
    rw [Gx.forget [(0, .string s), (1, .int .i64 ((i : Nat) : Int)), (4, .pointer (some ⟨k1, 0, none⟩)), (6, .pointer (some ⟨k2, 0, none⟩)), (18, .pointer (some ⟨k3, 0, none⟩)), (7, .int .u64 ((v * 10 + ((Gx.byteAt s (i + m)).toNat - 48) : Nat) : Int)), (8, .int .i64 ((s.size : Nat) : Int)), (9, .bool f)] (by kernel_rfl)]
    exact hK1 _ _ _ _ (by omega) ⟨m + 1, v * 10 + ((Gx.byteAt s (i + m)).toNat - 48), f, rfl, rfl, ((((Gx.Ext.refl w).trans x4).upd1 u5 (by omega)).trans x5), ((b4.upd1 u5 (by omega)).ext x5), ((b5.upd1 u5 (by omega)).ext x5), (b11.ext x5), (by omega), (by rw [← hst, stop_go (p := digitB) (s := s) (k := i + m) (by omega) hdg]; rfl), (by omega), (fits_yes hf hv rfl (by omega) (by unfold maxInt; omega)).1, (fits_yes hf hv rfl (by omega) (by unfold maxInt; omega)).2⟩
  have hend : stop digitB s i = i + m := by rw [← hst, stop_at (fun q => hdg q.2)]
  refine Gx.seq_reg [0, 1] (by kernel_rfl) ?_
  refine Gx.cons (Gx.op_next_as rfl (by kernel_rfl) rfl (s.extract i s.size) m (by kernel_rfl) b6 (by rw [size_ext (Nat.le_refl _)]; omega) rc wd hdec (fun w12 u6 b12 => ?_))
  have zw12 := u6.size
  refine Gx.pure [1] [] [(20, .bool true)] rfl (by kernel_rfl) ?_
  refine Gx.ops_end ?_
  refine wp_seq ?_
  refine Gx.cond_t (by kernel_rfl) ?_
  refine wp_skip ?_
  refine Gx.then_normal ?_
  refine wp_block ?_
  refine Gx.seq_run [(10, .int .i64 ((m : Nat) : Int)), (21, .int .i64 ((m : Nat) : Int))] (by kernel_rfl) ?_
  refine Gx.seq_reg [0, 1, 2, 3, 4, 5] (by kernel_rfl) ?_
  refine Gx.pure [0, 1, 2] [3, 4, 5] [(24, .int .i64 ((m : Nat) : Int)), (23, .int .i64 ((i : Nat) : Int)), (22, .string s)] rfl (by kernel_rfl) ?_
  refine Gx.pure_eq [3] [4, 5] [(25, .int .i64 (IntKind.i64.wrap (((i : Nat) : Int) + ((m : Nat) : Int))))] [(25, .int .i64 ((i + m : Nat) : Int))] rfl (by kernel_rfl) (Gx.eqI (Gx.i64n (by omega) (by omega))) ?_
  refine Gx.cons (Gx.op_index_str rfl (by kernel_rfl) rfl (by kernel_rfl) s .i64 (i + m) (by kernel_rfl) (by kernel_rfl) (by omega) ?_)
  refine Gx.pure [5] [] [(11, .int .u8 ((Gx.byteAt s (i + m)).toNat : Int))] rfl (by kernel_rfl) ?_
  refine Gx.ops_end ?_
  refine wp_seq ?_
  refine Gx.seq_reg [0, 1, 2] (by kernel_rfl) ?_
  refine Gx.pure [0] [1, 2] [(27, .int .u8 ((Gx.byteAt s (i + m)).toNat : Int))] rfl (by kernel_rfl) ?_
  refine Gx.cons (Gx.op_call rfl (by kernel_rfl) (by kernel_rfl) (fun R hR => class_c (Gx.byteAt s (i + m)) _ R  (fun w13 x6  => hR _ _ ?_)))
  have zw13 := x6.size
  refine Gx.pure [2] [] [(29, .bool (((cls (Gx.byteAt s (i + m)) : Nat) : Int) != (3 : Int)))] rfl (by kernel_rfl) ?_
  refine Gx.ops_end ?_
  refine Gx.cond (((cls (Gx.byteAt s (i + m)) : Nat) : Int) != (3 : Int)) (by kernel_rfl) (fun h_c29 => ?_) (fun h_c29 => ?_)
  · skip
    refine Gx.seq_reg [0, 1, 2, 3] (by kernel_rfl) ?_
    refine Gx.pure [0, 1] [2, 3] [(31, .int .i64 ((m : Nat) : Int)), (30, .int .i64 ((i : Nat) : Int))] rfl (by kernel_rfl) ?_
    have p_c29 := h_c29; try simp at p_c29
    refine Gx.pure_eq [2] [3] [(32, .int .i64 (IntKind.i64.wrap (((i : Nat) : Int) + ((m : Nat) : Int))))] [(32, .int .i64 ((i + m : Nat) : Int))] rfl (by kernel_rfl) (Gx.eqI (Gx.i64n (by omega) (by omega))) ?_
    refine Gx.pure [3] [] [(8, .int .i64 ((i + m : Nat) : Int))] rfl (by kernel_rfl) ?_
    refine Gx.ops_end ?_
    refine wp_exit ?_
    refine Gx.then_exit ?_
    refine Gx.block_other (by kernel_rfl) ?_
    refine Gx.then_exit ?_
    refine Gx.block_exit ?_
    refine Gx.then_normal ?_
    refine wp_seq ?_
    refine Gx.cut (d' := []) (n' := 68) (fun l' w' => l' = [(1, .int .i64 ((i : Nat) : Int)), (4, .pointer (some ⟨k1, 0, none⟩)), (6, .pointer (some ⟨k2, 0, none⟩)), (7, .int .u64 ((v : Nat) : Int)), (8, .int .i64 ((i + m : Nat) : Int)), (58, .bool ((!f) || ((decide ((((i + m : Nat) : Int) - ((i : Nat) : Int)) > (1 : Int))) && (((Gx.byteAt s i).toNat : Int) == (48 : Int)))))] ∧ w13 = w') (fun K3 hK3 => ?_) (fun bb3 ll3 w14 hI3 => ?_)
    · refine Gx.reg [0, 1, 2, 3, 4, 5, 6, 7, 8, 9, 10, 11, 12, 13] (by kernel_rfl) ?_
      refine Gx.pure [0, 1, 2] [3, 4, 5, 6, 7, 8, 9, 10, 11, 12, 13] [(47, .bool (!f)), (46, .bool (!f)), (45, .bool f)] rfl (by kernel_rfl) ?_
      refine Gx.split (!f) (fun h_g47 => ?_) (fun h_g47 => ?_)
      · rw [h_g47]
        refine Gx.pure [3, 4, 5, 6, 7, 8, 9, 10, 11, 12, 13] [] [(58, .bool true), (57, undef), (56, undef), (55, undef), (54, undef), (53, undef), (52, undef), (51, undef), (50, undef), (49, undef), (48, undef)] rfl (by kernel_rfl) ?_
        refine Gx.ops_end ?_
        rw [Gx.forget [(1, .int .i64 ((i : Nat) : Int)), (4, .pointer (some ⟨k1, 0, none⟩)), (6, .pointer (some ⟨k2, 0, none⟩)), (7, .int .u64 ((v : Nat) : Int)), (8, .int .i64 ((i + m : Nat) : Int)), (58, .bool ((!f) || ((decide ((((i + m : Nat) : Int) - ((i : Nat) : Int)) > (1 : Int))) && (((Gx.byteAt s i).toNat : Int) == (48 : Int)))))] (by rw [h_g47]; try kernel_rfl)]
        exact hK3 _ _ _ ⟨rfl, rfl⟩
      rw [h_g47]
      refine Gx.pure [3, 4] [5, 6, 7, 8, 9, 10, 11, 12, 13] [(49, .int .i64 ((i : Nat) : Int)), (48, .int .i64 ((i + m : Nat) : Int))] rfl (by kernel_rfl) ?_
      have p_g47 := h_g47; try simp at p_g47
      refine Gx.pure_eq [5] [6, 7, 8, 9, 10, 11, 12, 13] [(50, .int .i64 (IntKind.i64.wrap (((i + m : Nat) : Int) - ((i : Nat) : Int))))] [(50, .int .i64 (((i + m : Nat) : Int) - ((i : Nat) : Int)))] rfl (by kernel_rfl) (Gx.eqI (IntWalk.i64_in _ (by omega))) ?_
      refine Gx.pure [6, 7] [8, 9, 10, 11, 12, 13] [(52, .bool (decide ((((i + m : Nat) : Int) - ((i : Nat) : Int)) > (1 : Int)))), (51, .bool (decide ((((i + m : Nat) : Int) - ((i : Nat) : Int)) > (1 : Int))))] rfl (by kernel_rfl) ?_
      refine Gx.split (decide ((((i + m : Nat) : Int) - ((i : Nat) : Int)) > (1 : Int))) (fun h_g52 => ?_) (fun h_g52 => ?_)
      · rw [h_g52]
        refine Gx.pure [8, 9] [10, 11, 12, 13] [(54, .int .i64 ((i : Nat) : Int)), (53, .string s)] rfl (by kernel_rfl) ?_
        have p_g52 := h_g52; try simp at p_g52
        refine Gx.cons (Gx.op_index_str rfl (by kernel_rfl) rfl (by kernel_rfl) s .i64 i (by kernel_rfl) (by kernel_rfl) (by omega) ?_)
        refine Gx.pure [11, 12, 13] [] [(58, .bool (((Gx.byteAt s i).toNat : Int) == (48 : Int))), (57, .bool (((Gx.byteAt s i).toNat : Int) == (48 : Int))), (56, .bool (((Gx.byteAt s i).toNat : Int) == (48 : Int)))] rfl (by kernel_rfl) ?_
        refine Gx.ops_end ?_
        rw [Gx.forget [(1, .int .i64 ((i : Nat) : Int)), (4, .pointer (some ⟨k1, 0, none⟩)), (6, .pointer (some ⟨k2, 0, none⟩)), (7, .int .u64 ((v : Nat) : Int)), (8, .int .i64 ((i + m : Nat) : Int)), (58, .bool ((!f) || ((decide ((((i + m : Nat) : Int) - ((i : Nat) : Int)) > (1 : Int))) && (((Gx.byteAt s i).toNat : Int) == (48 : Int)))))] (by rw [h_g47, h_g52]; try kernel_rfl)]
        exact hK3 _ _ _ ⟨rfl, rfl⟩
      rw [h_g52]
      refine Gx.pure [8, 9, 10, 11, 12, 13] [] [(58, .bool false), (57, .bool false), (56, undef), (55, undef), (54, undef), (53, undef)] rfl (by kernel_rfl) ?_
      refine Gx.ops_end ?_
      rw [Gx.forget [(1, .int .i64 ((i : Nat) : Int)), (4, .pointer (some ⟨k1, 0, none⟩)), (6, .pointer (some ⟨k2, 0, none⟩)), (7, .int .u64 ((v : Nat) : Int)), (8, .int .i64 ((i + m : Nat) : Int)), (58, .bool ((!f) || ((decide ((((i + m : Nat) : Int) - ((i : Nat) : Int)) > (1 : Int))) && (((Gx.byteAt s i).toNat : Int) == (48 : Int)))))] (by rw [h_g47, h_g52]; try kernel_rfl)]
      exact hK3 _ _ _ ⟨rfl, rfl⟩
    obtain ⟨rfl, rfl⟩ := hI3
    refine Gx.cond ((!f) || ((decide ((((i + m : Nat) : Int) - ((i : Nat) : Int)) > (1 : Int))) && (((Gx.byteAt s i).toNat : Int) == (48 : Int)))) (by kernel_rfl) (fun h_c58 => ?_) (fun h_c58 => ?_)
    · skip
      refine Gx.seq_reg [0, 1, 2, 3, 4, 5] (by kernel_rfl) ?_
      refine Gx.pure [0, 1, 2] [3, 4, 5] [(61, .agg #[.int .i64 3, .int .i64 ((i : Nat) : Int)]), (60, .int .i64 ((i : Nat) : Int)), (59, .agg #[.int .i64 0, .int .i64 0, .string (⟨#[]⟩ : ByteArray), .int .i64 0])] rfl (by kernel_rfl) ?_
      have p_c58 := h_c58; try simp at p_c58
      refine Gx.cons (Gx.op_store rfl (by kernel_rfl) rfl 0 (.agg #[.int .i64 0, .int .i64 0, .string (⟨#[]⟩ : ByteArray), .int .i64 0]) (by kernel_rfl) (by kernel_rfl) ((b4.upd1 u6 (by omega)).ext x6) (by kernel_rfl) (by kernel_rfl) (by kernel_rfl) #[.int .i64 0, .int .i64 0, .string (⟨#[]⟩ : ByteArray), .int .i64 0] (by kernel_rfl) (fun w15 u7 b13 => ?_))
      have zw15 := u7.size
      refine Gx.pure [4] [5] [(5, .int .i64 0)] rfl (by kernel_rfl) ?_
      refine Gx.cons (Gx.op_store rfl (by kernel_rfl) rfl 0 (.agg #[.int .i64 3, .int .i64 ((i : Nat) : Int)]) (by kernel_rfl) (by kernel_rfl) (((b5.upd1 u6 (by omega)).ext x6).upd1 u7 (by omega)) (by kernel_rfl) (by kernel_rfl) (by kernel_rfl) #[.int .i64 3, .int .i64 ((i : Nat) : Int)] (by kernel_rfl) (fun w16 u8 b14 => ?_))
      have zw16 := u8.size
      refine Gx.ops_end ?_
      refine wp_ret ?_
      refine Gx.then_ret ?_
      refine Gx.ret (Gx.res_ctc (u := .agg #[.int .i64 0, .int .i64 0, .string (⟨#[]⟩ : ByteArray), .int .i64 0]) (v := .int .i64 0) (x := .agg #[.int .i64 3, .int .i64 ((i : Nat) : Int)]) rfl (by kernel_rfl) (by kernel_rfl) (b13.upd1 u8 (by omega)) (by kernel_rfl) (by kernel_rfl) b14 (by kernel_rfl)) ?_
      exact Gx.ret_as (v' := Nx.V (numAt s i)) (by rw [numOk_eq (s := s) (i := i) (e := (i + m)) (by rw [hf]; congr; omega) (by omega)] at h_c58; unfold numAt; rw [hend, if_neg (by simpa using h_c58)]; rfl) (hK _ ((((((Gx.Ext.refl w).trans x4).upd1 u6 (by omega)).trans x6).upd1 u7 (by omega)).upd1 u8 (by omega)))
    refine wp_skip ?_
    refine Gx.then_normal ?_
    refine Gx.seq_reg [0, 1, 2, 3, 4, 5, 6, 7, 8] (by kernel_rfl) ?_
    refine Gx.pure [0, 1] [2, 3, 4, 5, 6, 7, 8] [(63, .int .u64 ((v : Nat) : Int)), (62, .int .i64 ((i : Nat) : Int))] rfl (by kernel_rfl) ?_
    have p_c58 := h_c58; try simp at p_c58
    refine Gx.pure_eq [2] [3, 4, 5, 6, 7, 8] [(64, .int .i64 (IntKind.i64.wrap ((v : Nat) : Int)))] [(64, .int .i64 ((v : Nat) : Int))] rfl (by kernel_rfl) (Gx.eqI (IntWalk.i64_in _ (by omega))) ?_
    refine Gx.pure [3, 4, 5] [6, 7, 8] [(67, .agg #[.int .i64 0, .int .i64 0]), (66, .int .i64 ((i + m : Nat) : Int)), (65, .agg #[.int .i64 1, .int .i64 ((i : Nat) : Int), .string (⟨#[]⟩ : ByteArray), .int .i64 ((v : Nat) : Int)])] rfl (by kernel_rfl) ?_
    refine Gx.cons (Gx.op_store rfl (by kernel_rfl) rfl 0 (.agg #[.int .i64 1, .int .i64 ((i : Nat) : Int), .string (⟨#[]⟩ : ByteArray), .int .i64 ((v : Nat) : Int)]) (by kernel_rfl) (by kernel_rfl) ((b4.upd1 u6 (by omega)).ext x6) (by kernel_rfl) (by kernel_rfl) (by kernel_rfl) #[.int .i64 1, .int .i64 ((i : Nat) : Int), .string (⟨#[]⟩ : ByteArray), .int .i64 ((v : Nat) : Int)] (by kernel_rfl) (fun w17 u9 b15 => ?_))
    have zw17 := u9.size
    refine Gx.pure [7] [8] [(5, .int .i64 ((i + m : Nat) : Int))] rfl (by kernel_rfl) ?_
    refine Gx.cons (Gx.op_store rfl (by kernel_rfl) rfl 0 (.agg #[.int .i64 0, .int .i64 0]) (by kernel_rfl) (by kernel_rfl) (((b5.upd1 u6 (by omega)).ext x6).upd1 u9 (by omega)) (by kernel_rfl) (by kernel_rfl) (by kernel_rfl) #[.int .i64 0, .int .i64 0] (by kernel_rfl) (fun w18 u10 b16 => ?_))
    have zw18 := u10.size
    refine Gx.ops_end ?_
    refine wp_ret ?_
    refine Gx.ret (Gx.res_ctc (u := .agg #[.int .i64 1, .int .i64 ((i : Nat) : Int), .string (⟨#[]⟩ : ByteArray), .int .i64 ((v : Nat) : Int)]) (v := .int .i64 ((i + m : Nat) : Int)) (x := .agg #[.int .i64 0, .int .i64 0]) rfl (by kernel_rfl) (by kernel_rfl) (b15.upd1 u10 (by omega)) (by kernel_rfl) (by kernel_rfl) b16 (by kernel_rfl)) ?_
    exact Gx.ret_as (v' := Nx.V (numAt s i)) (by have hq := h_c58; rw [numOk_eq (s := s) (i := i) (e := (i + m)) (by rw [hf]; congr; omega) (by omega)] at hq; have hft : f = true := (by revert h_c58; cases f <;> simp); unfold numAt; rw [hend, if_pos (by simpa using hq), hv hft, show (i + m) - i = m by omega]; rfl) (hK _ ((((((Gx.Ext.refl w).trans x4).upd1 u6 (by omega)).trans x6).upd1 u9 (by omega)).upd1 u10 (by omega)))
  have p_c29 := h_c29; try simp at p_c29
  exact absurd ((cls_digit _).1 (by omega)) hdg

end Go.Proofs.Ytiimlomgpmgecaa
