/- The walks of the lexer's functions, written by a program of ours (wip/gx/gx.py, wip/lexer/lexgen.py). -/
import Derived.Test.YtiimlomgpmgecaaRows
import Derived.Test.YtiimlomgpmgecaaGx
import Derived.Test.YtiimlomgpmgecaaLexPlain
import Derived.Test.YtiimlomgpmgecaaLexWalks1
namespace Go.Proofs.Ytiimlomgpmgecaa
open Go.RowKit Go.Lex
attribute [local irreducible] Go.wpOps Go.Code.wp Go.wpOp Go.wpAnyH Go.Calls
set_option maxHeartbeats 400000 in
set_option maxRecDepth 10000 in
theorem rNext_c (s : ByteArray) (i : Nat) (w : World) (K : Ending → World → Prop) (hs : s.size ≤ 3000) (hi : i ≤ s.size) (hK : ∀ w', Gx.Ext w w' → K (.returned (Nx.V (next s i))) w') :
    Calls Try.prog 11 #[.string s, .int .i64 ((i : Nat) : Int)] w K := by
  refine Gx.enter 144 Try.func11 rfl rfl (Nat.le_of_ble_eq_true rfl) ?_
  have hi1 := le_pass s i
  have hi2 := pass_le s i hi
  refine Gx.seq_reg [0, 1, 2] (by kernel_rfl) ?_
  refine Gx.cons (Gx.op_new (.cells #[.int .i64 0, .int .i64 0, .string (⟨#[]⟩ : ByteArray), .int .i64 0] 31) rfl (by kernel_rfl) (by kernel_rfl) (fun k1 w1 l1 x1 b1 => ?_))
  have zw1 := x1.size
  have tb1 := b1.lt
  refine Gx.pure [1] [2] [(5, .int .i64 0)] rfl (by kernel_rfl) ?_
  refine Gx.cons (Gx.op_new (.cells #[.int .i64 0, .int .i64 0] 25) rfl (by kernel_rfl) (by kernel_rfl) (fun k2 w2 l2 x2 b2 => ?_))
  have zw2 := x2.size
  have tb2 := b2.lt
  refine Gx.ops_end ?_
  refine Gx.seq_reg [0, 1, 2, 3] (by kernel_rfl) ?_
  refine Gx.pure [0, 1] [2, 3] [(14, .int .i64 ((i : Nat) : Int)), (13, .string s)] rfl (by kernel_rfl) ?_
  refine Gx.cons (Gx.op_call rfl (by kernel_rfl) (by kernel_rfl) (fun R hR => pass_c s i _ R hs (by omega) (fun w3 x3  => hR _ _ ?_)))
  have zw3 := x3.size
  refine Gx.pure [3] [] [(1, .int .i64 ((pass s i : Nat) : Int))] rfl (by kernel_rfl) ?_
  refine Gx.ops_end ?_
  refine wp_seq ?_
  refine Gx.seq_run [(19, .bool (decide (((pass s i : Nat) : Int) ≥ ((s.size : Nat) : Int)))), (18, .int .i64 ((s.size : Nat) : Int)), (17, .string s), (16, .int .i64 ((pass s i : Nat) : Int))] (by kernel_rfl) ?_
  refine Gx.cond (decide (((pass s i : Nat) : Int) ≥ ((s.size : Nat) : Int))) (by kernel_rfl) (fun h_c19 => ?_) (fun h_c19 => ?_)
  · skip
    refine Gx.seq_reg [0, 1, 2, 3, 4, 5, 6, 7, 8] (by kernel_rfl) ?_
    refine Gx.pure [0, 1, 2, 3, 4, 5] [6, 7, 8] [(25, .agg #[.int .i64 0, .int .i64 0]), (24, .int .i64 ((s.size : Nat) : Int)), (23, .string s), (22, .agg #[.int .i64 0, .int .i64 ((s.size : Nat) : Int), .string (⟨#[]⟩ : ByteArray), .int .i64 0]), (21, .int .i64 ((s.size : Nat) : Int)), (20, .string s)] rfl (by kernel_rfl) ?_
    refine Gx.cons (Gx.op_store rfl (by kernel_rfl) rfl 0 (.agg #[.int .i64 0, .int .i64 ((s.size : Nat) : Int), .string (⟨#[]⟩ : ByteArray), .int .i64 0]) (by kernel_rfl) (by kernel_rfl) ((b1.ext x2).ext x3) (by kernel_rfl) (by kernel_rfl) (by kernel_rfl) #[.int .i64 0, .int .i64 ((s.size : Nat) : Int), .string (⟨#[]⟩ : ByteArray), .int .i64 0] (by kernel_rfl) (fun w4 u1 b3 => ?_))
    have zw4 := u1.size
    refine Gx.pure [7] [8] [(5, .int .i64 ((s.size : Nat) : Int))] rfl (by kernel_rfl) ?_
    have p_c19 := h_c19; try simp at p_c19
    refine Gx.cons (Gx.op_store rfl (by kernel_rfl) rfl 0 (.agg #[.int .i64 0, .int .i64 0]) (by kernel_rfl) (by kernel_rfl) ((b2.ext x3).upd1 u1 (by omega)) (by kernel_rfl) (by kernel_rfl) (by kernel_rfl) #[.int .i64 0, .int .i64 0] (by kernel_rfl) (fun w5 u2 b4 => ?_))
    have zw5 := u2.size
    refine Gx.ops_end ?_
    refine wp_ret ?_
    refine Gx.then_ret ?_
    refine Gx.ret (Gx.res_ctc (u := .agg #[.int .i64 0, .int .i64 ((s.size : Nat) : Int), .string (⟨#[]⟩ : ByteArray), .int .i64 0]) (v := .int .i64 ((s.size : Nat) : Int)) (x := .agg #[.int .i64 0, .int .i64 0]) rfl (by kernel_rfl) (by kernel_rfl) (b3.upd1 u2 (by omega)) (by kernel_rfl) (by kernel_rfl) b4 (by kernel_rfl)) ?_
    exact Gx.ret_as (v' := Nx.V (next s i)) (by unfold next; rw [if_neg (show ¬ pass s i < s.size by omega)]; rfl) (hK _ ((((((Gx.Ext.refl w).trans x1).trans x2).trans x3).upd1 u1 (by omega)).upd1 u2 (by omega)))
  refine wp_skip ?_
  refine Gx.then_normal ?_
  refine Gx.seq_run [(7, .int .i64 ((pass s i : Nat) : Int)), (26, .int .i64 ((pass s i : Nat) : Int))] (by kernel_rfl) ?_
  refine wp_seq ?_
  refine Gx.seq_reg [0, 1, 2, 3] (by kernel_rfl) ?_
  refine Gx.pure [0, 1] [2, 3] [(28, .int .i64 ((pass s i : Nat) : Int)), (27, .string s)] rfl (by kernel_rfl) ?_
  have p_c19 := h_c19; try simp at p_c19
  refine Gx.cons (Gx.op_index_str rfl (by kernel_rfl) rfl (by kernel_rfl) s .i64 (pass s i) (by kernel_rfl) (by kernel_rfl) (by omega) ?_)
  refine Gx.cons (Gx.op_call rfl (by kernel_rfl) (by kernel_rfl) (fun R hR => digit_c (Gx.byteAt s (pass s i)) _ R  (hR _ _ ?_)))
  refine Gx.ops_end ?_
  refine Gx.cond (digitB (Gx.byteAt s (pass s i))) (by kernel_rfl) (fun h_c30 => ?_) (fun h_c30 => ?_)
  · skip
    refine Gx.cut (d' := []) (n' := 144) (fun l' w' => l' = [(0, .string s), (1, .int .i64 ((pass s i : Nat) : Int)), (4, .pointer (some ⟨k1, 0, none⟩)), (6, .pointer (some ⟨k2, 0, none⟩)), (7, .int .i64 ((stop digitB s (pass s i) : Nat) : Int))] ∧ Gx.Ext w w' ∧ Gx.Has w' k1 (.cells #[.int .i64 0, .int .i64 0, .string (⟨#[]⟩ : ByteArray), .int .i64 0] 31) ∧ Gx.Has w' k2 (.cells #[.int .i64 0, .int .i64 0] 25)) (fun K1 hK1 => ?_) (fun bb1 ll1 w6 hI1 => ?_)
    · skip
      refine wp_block ?_
      have p_c30 := h_c30; try simp at p_c30
      refine Gx.loop (n' := 144) (d' := []) (fun mz l' w' => ∃ (e : Nat), l' = [(0, .string s), (1, .int .i64 ((pass s i : Nat) : Int)), (4, .pointer (some ⟨k1, 0, none⟩)), (6, .pointer (some ⟨k2, 0, none⟩)), (7, .int .i64 ((e : Nat) : Int))] ∧ mz = s.size - e ∧ Gx.Ext w w' ∧ Gx.Has w' k1 (.cells #[.int .i64 0, .int .i64 0, .string (⟨#[]⟩ : ByteArray), .int .i64 0] 31) ∧ Gx.Has w' k2 (.cells #[.int .i64 0, .int .i64 0] 25) ∧ (pass s i ≤ e ∧ e ≤ s.size) ∧ (stop digitB s e = stop digitB s (pass s i))) _ _ [(0, .string s), (1, .int .i64 ((pass s i : Nat) : Int)), (4, .pointer (some ⟨k1, 0, none⟩)), (6, .pointer (some ⟨k2, 0, none⟩)), (7, .int .i64 ((pass s i : Nat) : Int))] (Gx.forget [(0, .string s), (1, .int .i64 ((pass s i : Nat) : Int)), (4, .pointer (some ⟨k1, 0, none⟩)), (6, .pointer (some ⟨k2, 0, none⟩)), (7, .int .i64 ((pass s i : Nat) : Int))] (by kernel_rfl)) ⟨pass s i, rfl, rfl, ((((Gx.Ext.refl w).trans x1).trans x2).trans x3), ((b1.ext x2).ext x3), (b2.ext x3), (by omega), rfl⟩ (fun bb2 m1 ll2 w7 hI2 K2 hK2 => ?_)
      obtain ⟨e, rfl, rfl, x5, b5, b6, he, hst⟩ := hI2
      have zw7 := x5.size
      have tb5 := b5.lt
      have tb6 := b6.lt
      refine wp_seq ?_
      refine Gx.cut (d' := []) (n' := 144) (fun l' w' => l' = [(0, .string s), (1, .int .i64 ((pass s i : Nat) : Int)), (4, .pointer (some ⟨k1, 0, none⟩)), (6, .pointer (some ⟨k2, 0, none⟩)), (7, .int .i64 ((e : Nat) : Int)), (40, .bool ((decide (((e : Nat) : Int) < ((s.size : Nat) : Int))) && (digitB (Gx.byteAt s e))))] ∧ w7 = w') (fun K3 hK3 => ?_) (fun bb3 ll3 w8 hI3 => ?_)
      · refine Gx.reg [0, 1, 2, 3, 4, 5, 6, 7, 8, 9] (by kernel_rfl) ?_
        refine Gx.pure [0, 1, 2, 3, 4] [5, 6, 7, 8, 9] [(35, .bool (decide (((e : Nat) : Int) < ((s.size : Nat) : Int)))), (34, .bool (decide (((e : Nat) : Int) < ((s.size : Nat) : Int)))), (33, .int .i64 ((s.size : Nat) : Int)), (32, .string s), (31, .int .i64 ((e : Nat) : Int))] rfl (by kernel_rfl) ?_
        refine Gx.split (decide (((e : Nat) : Int) < ((s.size : Nat) : Int))) (fun h_g35 => ?_) (fun h_g35 => ?_)
        · rw [h_g35]
          refine Gx.pure [5, 6] [7, 8, 9] [(37, .int .i64 ((e : Nat) : Int)), (36, .string s)] rfl (by kernel_rfl) ?_
          have p_g35 := h_g35; try simp at p_g35
          refine Gx.cons (Gx.op_index_str rfl (by kernel_rfl) rfl (by kernel_rfl) s .i64 e (by kernel_rfl) (by kernel_rfl) (by omega) ?_)
          refine Gx.cons (Gx.op_call rfl (by kernel_rfl) (by kernel_rfl) (fun R hR => digit_c (Gx.byteAt s e) _ R  (hR _ _ ?_)))
          refine Gx.pure [9] [] [(40, .bool (digitB (Gx.byteAt s e)))] rfl (by kernel_rfl) ?_
          refine Gx.ops_end ?_
          rw [Gx.forget [(0, .string s), (1, .int .i64 ((pass s i : Nat) : Int)), (4, .pointer (some ⟨k1, 0, none⟩)), (6, .pointer (some ⟨k2, 0, none⟩)), (7, .int .i64 ((e : Nat) : Int)), (40, .bool ((decide (((e : Nat) : Int) < ((s.size : Nat) : Int))) && (digitB (Gx.byteAt s e))))] (by rw [h_g35]; try kernel_rfl)]
          exact hK3 _ _ _ ⟨rfl, rfl⟩
        rw [h_g35]
        refine Gx.pure [5, 6, 7, 8, 9] [] [(40, .bool false), (39, undef), (38, undef), (37, undef), (36, undef)] rfl (by kernel_rfl) ?_
        refine Gx.ops_end ?_
        rw [Gx.forget [(0, .string s), (1, .int .i64 ((pass s i : Nat) : Int)), (4, .pointer (some ⟨k1, 0, none⟩)), (6, .pointer (some ⟨k2, 0, none⟩)), (7, .int .i64 ((e : Nat) : Int)), (40, .bool ((decide (((e : Nat) : Int) < ((s.size : Nat) : Int))) && (digitB (Gx.byteAt s e))))] (by rw [h_g35]; try kernel_rfl)]
        exact hK3 _ _ _ ⟨rfl, rfl⟩
      obtain ⟨rfl, rfl⟩ := hI3
      refine Gx.cond ((decide (((e : Nat) : Int) < ((s.size : Nat) : Int))) && (digitB (Gx.byteAt s e))) (by kernel_rfl) (fun h_c40 => ?_) (fun h_c40 => ?_)
      · skip
        refine wp_skip ?_
        refine Gx.then_normal ?_
        refine wp_block ?_
        refine Gx.reg [0, 1, 2] (by kernel_rfl) ?_
        refine Gx.pure [0] [1, 2] [(41, .int .i64 ((e : Nat) : Int))] rfl (by kernel_rfl) ?_
        have p_c40 := h_c40; try simp at p_c40
        refine Gx.pure_eq [1] [2] [(42, .int .i64 (IntKind.i64.wrap (((e : Nat) : Int) + (1 : Int))))] [(42, .int .i64 ((e + 1 : Nat) : Int))] rfl (by kernel_rfl) (Gx.eqI (Gx.i64n (by omega) (by omega))) ?_
        refine Gx.pure [2] [] [(7, .int .i64 ((e + 1 : Nat) : Int))] rfl (by kernel_rfl) ?_
        refine Gx.ops_nil ?_
        refine Gx.block_normal ?_
        refine Gx.then_normal ?_
        rw [Gx.forget [(0, .string s), (1, .int .i64 ((pass s i : Nat) : Int)), (4, .pointer (some ⟨k1, 0, none⟩)), (6, .pointer (some ⟨k2, 0, none⟩)), (7, .int .i64 ((e + 1 : Nat) : Int))] (by kernel_rfl)]
        exact hK2 _ _ _ _ (by omega) ⟨e + 1, rfl, rfl, ((Gx.Ext.refl w).trans x5), b5, b6, (by omega), (by rw [← hst, stop_go (p := digitB) (s := s) (k := e) (by omega) (by simpa using p_c40.2)])⟩
      refine wp_exit ?_
      refine Gx.then_exit ?_
      refine Gx.then_exit ?_
      refine Gx.block_exit ?_
      refine Gx.then_normal ?_
      have p_c40 := h_c40; try simp at p_c40
      rw [Gx.forget [(0, .string s), (1, .int .i64 ((pass s i : Nat) : Int)), (4, .pointer (some ⟨k1, 0, none⟩)), (6, .pointer (some ⟨k2, 0, none⟩)), (7, .int .i64 ((stop digitB s (pass s i) : Nat) : Int))] (by rw [show stop digitB s (pass s i) = e from hst.symm.trans (stop_at (by simpa using h_c40))]; kernel_rfl)]
      exact hK1 _ _ _ ⟨rfl, ((Gx.Ext.refl w).trans x5), b5, b6⟩
    obtain ⟨rfl, x4, b7, b8⟩ := hI1
    have zw6 := x4.size
    have tb7 := b7.lt
    have tb8 := b8.lt
    have hc1 := le_stop digitB s (pass s i)
    have hc2 := stop_le digitB s (pass s i) hi2
    refine Gx.seq_reg [0, 1, 2, 3, 4, 5, 6, 7, 8, 9] (by kernel_rfl) ?_
    refine Gx.pure [0, 1, 2] [3, 4, 5, 6, 7, 8, 9] [(46, .int .i64 ((stop digitB s (pass s i) : Nat) : Int)), (45, .int .i64 ((pass s i : Nat) : Int)), (44, .string s)] rfl (by kernel_rfl) ?_
    have p_c30 := h_c30; try simp at p_c30
    refine Gx.cons (Gx.op_slice_str rfl (by kernel_rfl) rfl (by kernel_rfl) s (pass s i) (stop digitB s (pass s i)) (by kernel_rfl) (.inr ⟨.i64, (by kernel_rfl)⟩) (.inr ⟨.i64, (by kernel_rfl)⟩) (by omega) (by omega) ?_)
    refine Gx.cons (Gx.op_call rfl (by kernel_rfl) (by kernel_rfl) (fun R hR => number_c (s.extract (pass s i) (stop digitB s (pass s i))) _ R (by rw [size_ext (stop_le digitB s (pass s i) hi2)]; omega) (digits_run s (pass s i) hi2) (fun w9 x6  => hR _ _ ?_)))
    have zw9 := x6.size
    refine Gx.pure [5, 6, 7, 8, 9] [] [(9, .bool (numOk (s.extract (pass s i) (stop digitB s (pass s i))) 0 (s.extract (pass s i) (stop digitB s (pass s i))).size)), (8, .int .i64 ((bif numOk (s.extract (pass s i) (stop digitB s (pass s i))) 0 (s.extract (pass s i) (stop digitB s (pass s i))).size then dval (s.extract (pass s i) (stop digitB s (pass s i))) 0 (s.extract (pass s i) (stop digitB s (pass s i))).size else 0 : Nat) : Int)), (50, .bool (numOk (s.extract (pass s i) (stop digitB s (pass s i))) 0 (s.extract (pass s i) (stop digitB s (pass s i))).size)), (49, .int .i64 ((bif numOk (s.extract (pass s i) (stop digitB s (pass s i))) 0 (s.extract (pass s i) (stop digitB s (pass s i))).size then dval (s.extract (pass s i) (stop digitB s (pass s i))) 0 (s.extract (pass s i) (stop digitB s (pass s i))).size else 0 : Nat) : Int)), (43, .tuple #[.int .i64 ((bif numOk (s.extract (pass s i) (stop digitB s (pass s i))) 0 (s.extract (pass s i) (stop digitB s (pass s i))).size then dval (s.extract (pass s i) (stop digitB s (pass s i))) 0 (s.extract (pass s i) (stop digitB s (pass s i))).size else 0 : Nat) : Int), .bool (numOk (s.extract (pass s i) (stop digitB s (pass s i))) 0 (s.extract (pass s i) (stop digitB s (pass s i))).size)])] rfl (by kernel_rfl) ?_
    refine Gx.ops_end ?_
    refine wp_seq ?_
    refine Gx.seq_run [(52, .bool (!(numOk (s.extract (pass s i) (stop digitB s (pass s i))) 0 (s.extract (pass s i) (stop digitB s (pass s i))).size))), (51, .bool (numOk (s.extract (pass s i) (stop digitB s (pass s i))) 0 (s.extract (pass s i) (stop digitB s (pass s i))).size))] (by kernel_rfl) ?_
    refine Gx.cond (!(numOk (s.extract (pass s i) (stop digitB s (pass s i))) 0 (s.extract (pass s i) (stop digitB s (pass s i))).size)) (by kernel_rfl) (fun h_c52 => ?_) (fun h_c52 => ?_)
    · skip
      refine Gx.seq_reg [0, 1, 2, 3, 4, 5] (by kernel_rfl) ?_
      refine Gx.pure [0, 1, 2] [3, 4, 5] [(55, .agg #[.int .i64 3, .int .i64 ((pass s i : Nat) : Int)]), (54, .int .i64 ((pass s i : Nat) : Int)), (53, .agg #[.int .i64 0, .int .i64 0, .string (⟨#[]⟩ : ByteArray), .int .i64 0])] rfl (by kernel_rfl) ?_
      refine Gx.cons (Gx.op_store rfl (by kernel_rfl) rfl 0 (.agg #[.int .i64 0, .int .i64 0, .string (⟨#[]⟩ : ByteArray), .int .i64 0]) (by kernel_rfl) (by kernel_rfl) (b7.ext x6) (by kernel_rfl) (by kernel_rfl) (by kernel_rfl) #[.int .i64 0, .int .i64 0, .string (⟨#[]⟩ : ByteArray), .int .i64 0] (by kernel_rfl) (fun w10 u3 b9 => ?_))
      have zw10 := u3.size
      refine Gx.pure [4] [5] [(5, .int .i64 0)] rfl (by kernel_rfl) ?_
      have p_c52 := h_c52; try simp at p_c52
      refine Gx.cons (Gx.op_store rfl (by kernel_rfl) rfl 0 (.agg #[.int .i64 3, .int .i64 ((pass s i : Nat) : Int)]) (by kernel_rfl) (by kernel_rfl) ((b8.ext x6).upd1 u3 (by omega)) (by kernel_rfl) (by kernel_rfl) (by kernel_rfl) #[.int .i64 3, .int .i64 ((pass s i : Nat) : Int)] (by kernel_rfl) (fun w11 u4 b10 => ?_))
      have zw11 := u4.size
      refine Gx.ops_end ?_
      refine wp_ret ?_
      refine Gx.then_ret ?_
      refine Gx.then_ret ?_
      refine Gx.ret (Gx.res_ctc (u := .agg #[.int .i64 0, .int .i64 0, .string (⟨#[]⟩ : ByteArray), .int .i64 0]) (v := .int .i64 0) (x := .agg #[.int .i64 3, .int .i64 ((pass s i : Nat) : Int)]) rfl (by kernel_rfl) (by kernel_rfl) (b9.upd1 u4 (by omega)) (by kernel_rfl) (by kernel_rfl) b10 (by kernel_rfl)) ?_
      exact Gx.ret_as (v' := Nx.V (next s i)) (by unfold next; rw [if_pos (show pass s i < s.size by omega)]; unfold tokAt; rw [if_pos h_c30]; unfold numAt; rw [if_neg (by rw [← numOk_extract (le_stop _ _ _) (stop_le digitB s (pass s i) hi2)]; simpa using h_c52)]; rfl) (hK _ (((((Gx.Ext.refl w).trans x4).trans x6).upd1 u3 (by omega)).upd1 u4 (by omega)))
    refine wp_skip ?_
    refine Gx.then_normal ?_
    refine Gx.seq_reg [0, 1, 2, 3, 4, 5, 6, 7] (by kernel_rfl) ?_
    refine Gx.pure [0, 1, 2, 3, 4] [5, 6, 7] [(60, .agg #[.int .i64 0, .int .i64 0]), (59, .int .i64 ((stop digitB s (pass s i) : Nat) : Int)), (58, .agg #[.int .i64 1, .int .i64 ((pass s i : Nat) : Int), .string (⟨#[]⟩ : ByteArray), .int .i64 ((bif numOk (s.extract (pass s i) (stop digitB s (pass s i))) 0 (s.extract (pass s i) (stop digitB s (pass s i))).size then dval (s.extract (pass s i) (stop digitB s (pass s i))) 0 (s.extract (pass s i) (stop digitB s (pass s i))).size else 0 : Nat) : Int)]), (57, .int .i64 ((bif numOk (s.extract (pass s i) (stop digitB s (pass s i))) 0 (s.extract (pass s i) (stop digitB s (pass s i))).size then dval (s.extract (pass s i) (stop digitB s (pass s i))) 0 (s.extract (pass s i) (stop digitB s (pass s i))).size else 0 : Nat) : Int)), (56, .int .i64 ((pass s i : Nat) : Int))] rfl (by kernel_rfl) ?_
    refine Gx.cons (Gx.op_store rfl (by kernel_rfl) rfl 0 (.agg #[.int .i64 1, .int .i64 ((pass s i : Nat) : Int), .string (⟨#[]⟩ : ByteArray), .int .i64 ((bif numOk (s.extract (pass s i) (stop digitB s (pass s i))) 0 (s.extract (pass s i) (stop digitB s (pass s i))).size then dval (s.extract (pass s i) (stop digitB s (pass s i))) 0 (s.extract (pass s i) (stop digitB s (pass s i))).size else 0 : Nat) : Int)]) (by kernel_rfl) (by kernel_rfl) (b7.ext x6) (by kernel_rfl) (by kernel_rfl) (by kernel_rfl) #[.int .i64 1, .int .i64 ((pass s i : Nat) : Int), .string (⟨#[]⟩ : ByteArray), .int .i64 ((bif numOk (s.extract (pass s i) (stop digitB s (pass s i))) 0 (s.extract (pass s i) (stop digitB s (pass s i))).size then dval (s.extract (pass s i) (stop digitB s (pass s i))) 0 (s.extract (pass s i) (stop digitB s (pass s i))).size else 0 : Nat) : Int)] (by kernel_rfl) (fun w12 u5 b11 => ?_))
    have zw12 := u5.size
    refine Gx.pure [6] [7] [(5, .int .i64 ((stop digitB s (pass s i) : Nat) : Int))] rfl (by kernel_rfl) ?_
    have p_c52 := h_c52; try simp at p_c52
    refine Gx.cons (Gx.op_store rfl (by kernel_rfl) rfl 0 (.agg #[.int .i64 0, .int .i64 0]) (by kernel_rfl) (by kernel_rfl) ((b8.ext x6).upd1 u5 (by omega)) (by kernel_rfl) (by kernel_rfl) (by kernel_rfl) #[.int .i64 0, .int .i64 0] (by kernel_rfl) (fun w13 u6 b12 => ?_))
    have zw13 := u6.size
    refine Gx.ops_end ?_
    refine wp_ret ?_
    refine Gx.then_ret ?_
    refine Gx.ret (Gx.res_ctc (u := .agg #[.int .i64 1, .int .i64 ((pass s i : Nat) : Int), .string (⟨#[]⟩ : ByteArray), .int .i64 ((bif numOk (s.extract (pass s i) (stop digitB s (pass s i))) 0 (s.extract (pass s i) (stop digitB s (pass s i))).size then dval (s.extract (pass s i) (stop digitB s (pass s i))) 0 (s.extract (pass s i) (stop digitB s (pass s i))).size else 0 : Nat) : Int)]) (v := .int .i64 ((stop digitB s (pass s i) : Nat) : Int)) (x := .agg #[.int .i64 0, .int .i64 0]) rfl (by kernel_rfl) (by kernel_rfl) (b11.upd1 u6 (by omega)) (by kernel_rfl) (by kernel_rfl) b12 (by kernel_rfl)) ?_
    exact Gx.ret_as (v' := Nx.V (next s i)) (by unfold next; rw [if_pos (show pass s i < s.size by omega)]; unfold tokAt; rw [if_pos h_c30]; unfold numAt; rw [if_pos (by rw [← numOk_extract (le_stop _ _ _) (stop_le digitB s (pass s i) hi2)]; simpa using h_c52)]; rw [numV_extract (le_stop _ _ _) (stop_le digitB s (pass s i) hi2) (by simpa using h_c52)]; rfl) (hK _ (((((Gx.Ext.refl w).trans x4).trans x6).upd1 u5 (by omega)).upd1 u6 (by omega)))
  refine wp_skip ?_
  refine Gx.then_normal ?_
  refine wp_seq ?_
  refine Gx.seq_reg [0, 1, 2, 3] (by kernel_rfl) ?_
  refine Gx.pure [0, 1] [2, 3] [(62, .int .i64 ((pass s i : Nat) : Int)), (61, .string s)] rfl (by kernel_rfl) ?_
  have p_c30 := h_c30; try simp at p_c30
  refine Gx.cons (Gx.op_index_str rfl (by kernel_rfl) rfl (by kernel_rfl) s .i64 (pass s i) (by kernel_rfl) (by kernel_rfl) (by omega) ?_)
  refine Gx.cons (Gx.op_call rfl (by kernel_rfl) (by kernel_rfl) (fun R hR => letter_c (Gx.byteAt s (pass s i)) _ R  (hR _ _ ?_)))
  refine Gx.ops_end ?_
  refine Gx.cond (letterB (Gx.byteAt s (pass s i))) (by kernel_rfl) (fun h_c64 => ?_) (fun h_c64 => ?_)
  · skip
    refine Gx.cut (d' := []) (n' := 144) (fun l' w' => l' = [(0, .string s), (1, .int .i64 ((pass s i : Nat) : Int)), (4, .pointer (some ⟨k1, 0, none⟩)), (6, .pointer (some ⟨k2, 0, none⟩)), (7, .int .i64 ((stop (fun c => letterB c || digitB c) s (pass s i) : Nat) : Int))] ∧ Gx.Ext w w' ∧ Gx.Has w' k1 (.cells #[.int .i64 0, .int .i64 0, .string (⟨#[]⟩ : ByteArray), .int .i64 0] 31) ∧ Gx.Has w' k2 (.cells #[.int .i64 0, .int .i64 0] 25)) (fun K4 hK4 => ?_) (fun bb4 ll4 w14 hI4 => ?_)
    · skip
      refine wp_block ?_
      have p_c64 := h_c64; try simp at p_c64
      refine Gx.loop (n' := 144) (d' := []) (fun mz l' w' => ∃ (e : Nat), l' = [(0, .string s), (1, .int .i64 ((pass s i : Nat) : Int)), (4, .pointer (some ⟨k1, 0, none⟩)), (6, .pointer (some ⟨k2, 0, none⟩)), (7, .int .i64 ((e : Nat) : Int))] ∧ mz = s.size - e ∧ Gx.Ext w w' ∧ Gx.Has w' k1 (.cells #[.int .i64 0, .int .i64 0, .string (⟨#[]⟩ : ByteArray), .int .i64 0] 31) ∧ Gx.Has w' k2 (.cells #[.int .i64 0, .int .i64 0] 25) ∧ (pass s i ≤ e ∧ e ≤ s.size) ∧ (stop (fun c => letterB c || digitB c) s e = stop (fun c => letterB c || digitB c) s (pass s i))) _ _ [(0, .string s), (1, .int .i64 ((pass s i : Nat) : Int)), (4, .pointer (some ⟨k1, 0, none⟩)), (6, .pointer (some ⟨k2, 0, none⟩)), (7, .int .i64 ((pass s i : Nat) : Int))] (Gx.forget [(0, .string s), (1, .int .i64 ((pass s i : Nat) : Int)), (4, .pointer (some ⟨k1, 0, none⟩)), (6, .pointer (some ⟨k2, 0, none⟩)), (7, .int .i64 ((pass s i : Nat) : Int))] (by kernel_rfl)) ⟨pass s i, rfl, rfl, ((((Gx.Ext.refl w).trans x1).trans x2).trans x3), ((b1.ext x2).ext x3), (b2.ext x3), (by omega), rfl⟩ (fun bb5 m2 ll5 w15 hI5 K5 hK5 => ?_)
      obtain ⟨e, rfl, rfl, x8, b13, b14, he, hst⟩ := hI5
      have zw15 := x8.size
      have tb13 := b13.lt
      have tb14 := b14.lt
      refine wp_seq ?_
      refine Gx.cut (d' := []) (n' := 144) (fun l' w' => l' = [(0, .string s), (1, .int .i64 ((pass s i : Nat) : Int)), (4, .pointer (some ⟨k1, 0, none⟩)), (6, .pointer (some ⟨k2, 0, none⟩)), (7, .int .i64 ((e : Nat) : Int)), (80, .bool ((decide (((e : Nat) : Int) < ((s.size : Nat) : Int))) && ((letterB (Gx.byteAt s e)) || (digitB (Gx.byteAt s e)))))] ∧ w15 = w') (fun K6 hK6 => ?_) (fun bb6 ll6 w16 hI6 => ?_)
      · refine Gx.reg [0, 1, 2, 3, 4, 5, 6, 7, 8, 9, 10, 11, 12, 13, 14, 15] (by kernel_rfl) ?_
        refine Gx.pure [0, 1, 2, 3, 4] [5, 6, 7, 8, 9, 10, 11, 12, 13, 14, 15] [(69, .bool (decide (((e : Nat) : Int) < ((s.size : Nat) : Int)))), (68, .bool (decide (((e : Nat) : Int) < ((s.size : Nat) : Int)))), (67, .int .i64 ((s.size : Nat) : Int)), (66, .string s), (65, .int .i64 ((e : Nat) : Int))] rfl (by kernel_rfl) ?_
        refine Gx.split (decide (((e : Nat) : Int) < ((s.size : Nat) : Int))) (fun h_g69 => ?_) (fun h_g69 => ?_)
        · rw [h_g69]
          refine Gx.pure [5, 6] [7, 8, 9, 10, 11, 12, 13, 14, 15] [(71, .int .i64 ((e : Nat) : Int)), (70, .string s)] rfl (by kernel_rfl) ?_
          have p_g69 := h_g69; try simp at p_g69
          refine Gx.cons (Gx.op_index_str rfl (by kernel_rfl) rfl (by kernel_rfl) s .i64 e (by kernel_rfl) (by kernel_rfl) (by omega) ?_)
          refine Gx.cons (Gx.op_call rfl (by kernel_rfl) (by kernel_rfl) (fun R hR => letter_c (Gx.byteAt s e) _ R  (hR _ _ ?_)))
          refine Gx.pure [9] [10, 11, 12, 13, 14, 15] [(74, .bool (letterB (Gx.byteAt s e)))] rfl (by kernel_rfl) ?_
          refine Gx.split (letterB (Gx.byteAt s e)) (fun h_g74 => ?_) (fun h_g74 => ?_)
          · rw [h_g74]
            refine Gx.pure [10, 11, 12, 13, 14, 15] [] [(80, .bool true), (79, .bool true), (78, undef), (77, undef), (76, undef), (75, undef)] rfl (by kernel_rfl) ?_
            refine Gx.ops_end ?_
            rw [Gx.forget [(0, .string s), (1, .int .i64 ((pass s i : Nat) : Int)), (4, .pointer (some ⟨k1, 0, none⟩)), (6, .pointer (some ⟨k2, 0, none⟩)), (7, .int .i64 ((e : Nat) : Int)), (80, .bool ((decide (((e : Nat) : Int) < ((s.size : Nat) : Int))) && ((letterB (Gx.byteAt s e)) || (digitB (Gx.byteAt s e)))))] (by rw [h_g69, h_g74]; try kernel_rfl)]
            exact hK6 _ _ _ ⟨rfl, rfl⟩
          rw [h_g74]
          refine Gx.pure [10, 11] [12, 13, 14, 15] [(76, .int .i64 ((e : Nat) : Int)), (75, .string s)] rfl (by kernel_rfl) ?_
          have p_g74 := h_g74; try simp at p_g74
          refine Gx.cons (Gx.op_index_str rfl (by kernel_rfl) rfl (by kernel_rfl) s .i64 e (by kernel_rfl) (by kernel_rfl) (by omega) ?_)
          refine Gx.cons (Gx.op_call rfl (by kernel_rfl) (by kernel_rfl) (fun R hR => digit_c (Gx.byteAt s e) _ R  (hR _ _ ?_)))
          refine Gx.pure [14, 15] [] [(80, .bool (digitB (Gx.byteAt s e))), (79, .bool (digitB (Gx.byteAt s e)))] rfl (by kernel_rfl) ?_
          refine Gx.ops_end ?_
          rw [Gx.forget [(0, .string s), (1, .int .i64 ((pass s i : Nat) : Int)), (4, .pointer (some ⟨k1, 0, none⟩)), (6, .pointer (some ⟨k2, 0, none⟩)), (7, .int .i64 ((e : Nat) : Int)), (80, .bool ((decide (((e : Nat) : Int) < ((s.size : Nat) : Int))) && ((letterB (Gx.byteAt s e)) || (digitB (Gx.byteAt s e)))))] (by rw [h_g69, h_g74]; try kernel_rfl)]
          exact hK6 _ _ _ ⟨rfl, rfl⟩
        rw [h_g69]
        refine Gx.pure [5, 6, 7, 8, 9, 10, 11, 12, 13, 14, 15] [] [(80, .bool false), (79, undef), (78, undef), (77, undef), (76, undef), (75, undef), (74, undef), (73, undef), (72, undef), (71, undef), (70, undef)] rfl (by kernel_rfl) ?_
        refine Gx.ops_end ?_
        rw [Gx.forget [(0, .string s), (1, .int .i64 ((pass s i : Nat) : Int)), (4, .pointer (some ⟨k1, 0, none⟩)), (6, .pointer (some ⟨k2, 0, none⟩)), (7, .int .i64 ((e : Nat) : Int)), (80, .bool ((decide (((e : Nat) : Int) < ((s.size : Nat) : Int))) && ((letterB (Gx.byteAt s e)) || (digitB (Gx.byteAt s e)))))] (by rw [h_g69]; try kernel_rfl)]
        exact hK6 _ _ _ ⟨rfl, rfl⟩
      obtain ⟨rfl, rfl⟩ := hI6
      refine Gx.cond ((decide (((e : Nat) : Int) < ((s.size : Nat) : Int))) && ((letterB (Gx.byteAt s e)) || (digitB (Gx.byteAt s e)))) (by kernel_rfl) (fun h_c80 => ?_) (fun h_c80 => ?_)
      · skip
        refine wp_skip ?_
        refine Gx.then_normal ?_
        refine wp_block ?_
        refine Gx.reg [0, 1, 2] (by kernel_rfl) ?_
        refine Gx.pure [0] [1, 2] [(81, .int .i64 ((e : Nat) : Int))] rfl (by kernel_rfl) ?_
        have p_c80 := h_c80; try simp at p_c80
        refine Gx.pure_eq [1] [2] [(82, .int .i64 (IntKind.i64.wrap (((e : Nat) : Int) + (1 : Int))))] [(82, .int .i64 ((e + 1 : Nat) : Int))] rfl (by kernel_rfl) (Gx.eqI (Gx.i64n (by omega) (by omega))) ?_
        refine Gx.pure [2] [] [(7, .int .i64 ((e + 1 : Nat) : Int))] rfl (by kernel_rfl) ?_
        refine Gx.ops_nil ?_
        refine Gx.block_normal ?_
        refine Gx.then_normal ?_
        rw [Gx.forget [(0, .string s), (1, .int .i64 ((pass s i : Nat) : Int)), (4, .pointer (some ⟨k1, 0, none⟩)), (6, .pointer (some ⟨k2, 0, none⟩)), (7, .int .i64 ((e + 1 : Nat) : Int))] (by kernel_rfl)]
        exact hK5 _ _ _ _ (by omega) ⟨e + 1, rfl, rfl, ((Gx.Ext.refl w).trans x8), b13, b14, (by omega), (by rw [← hst, stop_go (p := (fun c => letterB c || digitB c)) (s := s) (k := e) (by omega) (by simpa using p_c80.2)])⟩
      refine wp_exit ?_
      refine Gx.then_exit ?_
      refine Gx.then_exit ?_
      refine Gx.block_exit ?_
      refine Gx.then_normal ?_
      have p_c80 := h_c80; try simp at p_c80
      rw [Gx.forget [(0, .string s), (1, .int .i64 ((pass s i : Nat) : Int)), (4, .pointer (some ⟨k1, 0, none⟩)), (6, .pointer (some ⟨k2, 0, none⟩)), (7, .int .i64 ((stop (fun c => letterB c || digitB c) s (pass s i) : Nat) : Int))] (by rw [show stop (fun c => letterB c || digitB c) s (pass s i) = e from hst.symm.trans (stop_at (by simpa using h_c80))]; kernel_rfl)]
      exact hK4 _ _ _ ⟨rfl, ((Gx.Ext.refl w).trans x8), b13, b14⟩
    obtain ⟨rfl, x7, b15, b16⟩ := hI4
    have zw14 := x7.size
    have tb15 := b15.lt
    have tb16 := b16.lt
    refine wp_seq ?_
    have hc1 := le_stop (fun c => letterB c || digitB c) s (pass s i)
    have hc2 := stop_le (fun c => letterB c || digitB c) s (pass s i) hi2
    refine Gx.seq_reg [0, 1, 2, 3] (by kernel_rfl) ?_
    refine Gx.pure [0, 1] [2, 3] [(84, .int .i64 ((pass s i : Nat) : Int)), (83, .int .i64 ((stop (fun c => letterB c || digitB c) s (pass s i) : Nat) : Int))] rfl (by kernel_rfl) ?_
    have p_c64 := h_c64; try simp at p_c64
    refine Gx.pure_eq [2] [3] [(85, .int .i64 (IntKind.i64.wrap (((stop (fun c => letterB c || digitB c) s (pass s i) : Nat) : Int) - ((pass s i : Nat) : Int))))] [(85, .int .i64 (((stop (fun c => letterB c || digitB c) s (pass s i) : Nat) : Int) - ((pass s i : Nat) : Int)))] rfl (by kernel_rfl) (Gx.eqI (IntWalk.i64_in _ (by omega))) ?_
    refine Gx.pure [3] [] [(86, .bool (decide ((((stop (fun c => letterB c || digitB c) s (pass s i) : Nat) : Int) - ((pass s i : Nat) : Int)) > (20 : Int))))] rfl (by kernel_rfl) ?_
    refine Gx.ops_end ?_
    refine Gx.cond (decide ((((stop (fun c => letterB c || digitB c) s (pass s i) : Nat) : Int) - ((pass s i : Nat) : Int)) > (20 : Int))) (by kernel_rfl) (fun h_c86 => ?_) (fun h_c86 => ?_)
    · skip
      refine Gx.seq_reg [0, 1, 2, 3, 4, 5] (by kernel_rfl) ?_
      refine Gx.pure [0, 1, 2] [3, 4, 5] [(89, .agg #[.int .i64 3, .int .i64 ((pass s i : Nat) : Int)]), (88, .int .i64 ((pass s i : Nat) : Int)), (87, .agg #[.int .i64 0, .int .i64 0, .string (⟨#[]⟩ : ByteArray), .int .i64 0])] rfl (by kernel_rfl) ?_
      refine Gx.cons (Gx.op_store rfl (by kernel_rfl) rfl 0 (.agg #[.int .i64 0, .int .i64 0, .string (⟨#[]⟩ : ByteArray), .int .i64 0]) (by kernel_rfl) (by kernel_rfl) b15 (by kernel_rfl) (by kernel_rfl) (by kernel_rfl) #[.int .i64 0, .int .i64 0, .string (⟨#[]⟩ : ByteArray), .int .i64 0] (by kernel_rfl) (fun w17 u7 b17 => ?_))
      have zw17 := u7.size
      refine Gx.pure [4] [5] [(5, .int .i64 0)] rfl (by kernel_rfl) ?_
      have p_c86 := h_c86; try simp at p_c86
      refine Gx.cons (Gx.op_store rfl (by kernel_rfl) rfl 0 (.agg #[.int .i64 3, .int .i64 ((pass s i : Nat) : Int)]) (by kernel_rfl) (by kernel_rfl) (b16.upd1 u7 (by omega)) (by kernel_rfl) (by kernel_rfl) (by kernel_rfl) #[.int .i64 3, .int .i64 ((pass s i : Nat) : Int)] (by kernel_rfl) (fun w18 u8 b18 => ?_))
      have zw18 := u8.size
      refine Gx.ops_end ?_
      refine wp_ret ?_
      refine Gx.then_ret ?_
      refine Gx.then_ret ?_
      refine Gx.ret (Gx.res_ctc (u := .agg #[.int .i64 0, .int .i64 0, .string (⟨#[]⟩ : ByteArray), .int .i64 0]) (v := .int .i64 0) (x := .agg #[.int .i64 3, .int .i64 ((pass s i : Nat) : Int)]) rfl (by kernel_rfl) (by kernel_rfl) (b17.upd1 u8 (by omega)) (by kernel_rfl) (by kernel_rfl) b18 (by kernel_rfl)) ?_
      exact Gx.ret_as (v' := Nx.V (next s i)) (by unfold next; rw [if_pos (show pass s i < s.size by omega)]; unfold tokAt; rw [if_neg (by rw [h_c30]; simp)]; rw [if_pos h_c64]; unfold nameAt; rw [if_pos (by omega)]; rfl) (hK _ ((((Gx.Ext.refl w).trans x7).upd1 u7 (by omega)).upd1 u8 (by omega)))
    refine wp_skip ?_
    refine Gx.then_normal ?_
    refine Gx.seq_run [(10, .int .i64 2)] (by kernel_rfl) ?_
    refine wp_seq ?_
    refine Gx.seq_reg [0, 1, 2, 3, 4] (by kernel_rfl) ?_
    refine Gx.pure [0, 1, 2] [3, 4] [(92, .int .i64 ((stop (fun c => letterB c || digitB c) s (pass s i) : Nat) : Int)), (91, .int .i64 ((pass s i : Nat) : Int)), (90, .string s)] rfl (by kernel_rfl) ?_
    have p_c86 := h_c86; try simp at p_c86
    refine Gx.cons (Gx.op_slice_str rfl (by kernel_rfl) rfl (by kernel_rfl) s (pass s i) (stop (fun c => letterB c || digitB c) s (pass s i)) (by kernel_rfl) (.inr ⟨.i64, (by kernel_rfl)⟩) (.inr ⟨.i64, (by kernel_rfl)⟩) (by omega) (by omega) ?_)
    refine Gx.cons (Gx.op_call rfl (by kernel_rfl) (by kernel_rfl) (fun R hR => IsWord_c (s.extract (pass s i) (stop (fun c => letterB c || digitB c) s (pass s i))) _ R  (fun w19 x9  => hR _ _ ?_)))
    have zw19 := x9.size
    refine Gx.ops_end ?_
    refine Gx.cond (wordB (s.extract (pass s i) (stop (fun c => letterB c || digitB c) s (pass s i)))) (by kernel_rfl) (fun h_c94 => ?_) (fun h_c94 => ?_)
    · skip
      refine Gx.reg_run [(10, .int .i64 3)] (by kernel_rfl) ?_
      refine Gx.then_normal ?_
      refine Gx.seq_reg [0, 1, 2, 3, 4, 5, 6, 7, 8, 9, 10, 11] (by kernel_rfl) ?_
      refine Gx.pure [0, 1, 2, 3, 4] [5, 6, 7, 8, 9, 10, 11] [(99, .int .i64 ((stop (fun c => letterB c || digitB c) s (pass s i) : Nat) : Int)), (98, .int .i64 ((pass s i : Nat) : Int)), (97, .string s), (96, .int .i64 ((pass s i : Nat) : Int)), (95, .int .i64 3)] rfl (by kernel_rfl) ?_
      have p_c94 := h_c94; try simp at p_c94
      refine Gx.cons (Gx.op_slice_str rfl (by kernel_rfl) rfl (by kernel_rfl) s (pass s i) (stop (fun c => letterB c || digitB c) s (pass s i)) (by kernel_rfl) (.inr ⟨.i64, (by kernel_rfl)⟩) (.inr ⟨.i64, (by kernel_rfl)⟩) (by omega) (by omega) ?_)
      refine Gx.pure [6, 7, 8] [9, 10, 11] [(103, .agg #[.int .i64 0, .int .i64 0]), (102, .int .i64 ((stop (fun c => letterB c || digitB c) s (pass s i) : Nat) : Int)), (101, .agg #[.int .i64 3, .int .i64 ((pass s i : Nat) : Int), .string (s.extract (pass s i) (stop (fun c => letterB c || digitB c) s (pass s i))), .int .i64 0])] rfl (by kernel_rfl) ?_
      refine Gx.cons (Gx.op_store rfl (by kernel_rfl) rfl 0 (.agg #[.int .i64 3, .int .i64 ((pass s i : Nat) : Int), .string (s.extract (pass s i) (stop (fun c => letterB c || digitB c) s (pass s i))), .int .i64 0]) (by kernel_rfl) (by kernel_rfl) (b15.ext x9) (by kernel_rfl) (by kernel_rfl) (by kernel_rfl) #[.int .i64 3, .int .i64 ((pass s i : Nat) : Int), .string (s.extract (pass s i) (stop (fun c => letterB c || digitB c) s (pass s i))), .int .i64 0] (by kernel_rfl) (fun w20 u9 b19 => ?_))
      have zw20 := u9.size
      refine Gx.pure [10] [11] [(5, .int .i64 ((stop (fun c => letterB c || digitB c) s (pass s i) : Nat) : Int))] rfl (by kernel_rfl) ?_
      refine Gx.cons (Gx.op_store rfl (by kernel_rfl) rfl 0 (.agg #[.int .i64 0, .int .i64 0]) (by kernel_rfl) (by kernel_rfl) ((b16.ext x9).upd1 u9 (by omega)) (by kernel_rfl) (by kernel_rfl) (by kernel_rfl) #[.int .i64 0, .int .i64 0] (by kernel_rfl) (fun w21 u10 b20 => ?_))
      have zw21 := u10.size
      refine Gx.ops_end ?_
      refine wp_ret ?_
      refine Gx.then_ret ?_
      refine Gx.ret (Gx.res_ctc (u := .agg #[.int .i64 3, .int .i64 ((pass s i : Nat) : Int), .string (s.extract (pass s i) (stop (fun c => letterB c || digitB c) s (pass s i))), .int .i64 0]) (v := .int .i64 ((stop (fun c => letterB c || digitB c) s (pass s i) : Nat) : Int)) (x := .agg #[.int .i64 0, .int .i64 0]) rfl (by kernel_rfl) (by kernel_rfl) (b19.upd1 u10 (by omega)) (by kernel_rfl) (by kernel_rfl) b20 (by kernel_rfl)) ?_
      exact Gx.ret_as (v' := Nx.V (next s i)) (by unfold next; rw [if_pos (show pass s i < s.size by omega)]; unfold tokAt; rw [if_neg (by rw [h_c30]; simp)]; rw [if_pos h_c64]; unfold nameAt; rw [if_neg (by omega)]; rw [if_pos h_c94]; rfl) (hK _ (((((Gx.Ext.refl w).trans x7).trans x9).upd1 u9 (by omega)).upd1 u10 (by omega)))
    refine wp_skip ?_
    refine Gx.then_normal ?_
    refine Gx.seq_reg [0, 1, 2, 3, 4, 5, 6, 7, 8, 9, 10, 11] (by kernel_rfl) ?_
    refine Gx.pure [0, 1, 2, 3, 4] [5, 6, 7, 8, 9, 10, 11] [(99, .int .i64 ((stop (fun c => letterB c || digitB c) s (pass s i) : Nat) : Int)), (98, .int .i64 ((pass s i : Nat) : Int)), (97, .string s), (96, .int .i64 ((pass s i : Nat) : Int)), (95, .int .i64 2)] rfl (by kernel_rfl) ?_
    have p_c94 := h_c94; try simp at p_c94
    refine Gx.cons (Gx.op_slice_str rfl (by kernel_rfl) rfl (by kernel_rfl) s (pass s i) (stop (fun c => letterB c || digitB c) s (pass s i)) (by kernel_rfl) (.inr ⟨.i64, (by kernel_rfl)⟩) (.inr ⟨.i64, (by kernel_rfl)⟩) (by omega) (by omega) ?_)
    refine Gx.pure [6, 7, 8] [9, 10, 11] [(103, .agg #[.int .i64 0, .int .i64 0]), (102, .int .i64 ((stop (fun c => letterB c || digitB c) s (pass s i) : Nat) : Int)), (101, .agg #[.int .i64 2, .int .i64 ((pass s i : Nat) : Int), .string (s.extract (pass s i) (stop (fun c => letterB c || digitB c) s (pass s i))), .int .i64 0])] rfl (by kernel_rfl) ?_
    refine Gx.cons (Gx.op_store rfl (by kernel_rfl) rfl 0 (.agg #[.int .i64 2, .int .i64 ((pass s i : Nat) : Int), .string (s.extract (pass s i) (stop (fun c => letterB c || digitB c) s (pass s i))), .int .i64 0]) (by kernel_rfl) (by kernel_rfl) (b15.ext x9) (by kernel_rfl) (by kernel_rfl) (by kernel_rfl) #[.int .i64 2, .int .i64 ((pass s i : Nat) : Int), .string (s.extract (pass s i) (stop (fun c => letterB c || digitB c) s (pass s i))), .int .i64 0] (by kernel_rfl) (fun w22 u11 b21 => ?_))
    have zw22 := u11.size
    refine Gx.pure [10] [11] [(5, .int .i64 ((stop (fun c => letterB c || digitB c) s (pass s i) : Nat) : Int))] rfl (by kernel_rfl) ?_
    refine Gx.cons (Gx.op_store rfl (by kernel_rfl) rfl 0 (.agg #[.int .i64 0, .int .i64 0]) (by kernel_rfl) (by kernel_rfl) ((b16.ext x9).upd1 u11 (by omega)) (by kernel_rfl) (by kernel_rfl) (by kernel_rfl) #[.int .i64 0, .int .i64 0] (by kernel_rfl) (fun w23 u12 b22 => ?_))
    have zw23 := u12.size
    refine Gx.ops_end ?_
    refine wp_ret ?_
    refine Gx.then_ret ?_
    refine Gx.ret (Gx.res_ctc (u := .agg #[.int .i64 2, .int .i64 ((pass s i : Nat) : Int), .string (s.extract (pass s i) (stop (fun c => letterB c || digitB c) s (pass s i))), .int .i64 0]) (v := .int .i64 ((stop (fun c => letterB c || digitB c) s (pass s i) : Nat) : Int)) (x := .agg #[.int .i64 0, .int .i64 0]) rfl (by kernel_rfl) (by kernel_rfl) (b21.upd1 u12 (by omega)) (by kernel_rfl) (by kernel_rfl) b22 (by kernel_rfl)) ?_
    exact Gx.ret_as (v' := Nx.V (next s i)) (by unfold next; rw [if_pos (show pass s i < s.size by omega)]; unfold tokAt; rw [if_neg (by rw [h_c30]; simp)]; rw [if_pos h_c64]; unfold nameAt; rw [if_neg (by omega)]; rw [if_neg (by rw [h_c94]; simp)]; rfl) (hK _ (((((Gx.Ext.refl w).trans x7).trans x9).upd1 u11 (by omega)).upd1 u12 (by omega)))
  refine wp_skip ?_
  refine Gx.then_normal ?_
  refine Gx.seq_reg [0, 1] (by kernel_rfl) ?_
  refine Gx.cons (Gx.op_call rfl (by kernel_rfl) (by kernel_rfl) (fun R hR => signs_c  _ R  (fun w24 x10 k3 l3 b23 => hR _ _ ?_)))
  have zw24 := x10.size
  have tb23 := b23.lt
  refine Gx.pure [1] [] [(11, .slice (some ⟨k3, 0, none⟩) 20 20)] rfl (by kernel_rfl) ?_
  refine Gx.ops_end ?_
  refine wp_seq ?_
  refine Gx.seq_run [(12, .int .i64 0)] (by kernel_rfl) ?_
  refine wp_block ?_
  have p_c64 := h_c64; try simp at p_c64
  refine Gx.loop (n' := 144) (d' := []) (fun mz l' w' => ∃ (q : Nat), l' = [(0, .string s), (1, .int .i64 ((pass s i : Nat) : Int)), (4, .pointer (some ⟨k1, 0, none⟩)), (6, .pointer (some ⟨k2, 0, none⟩)), (11, .slice (some ⟨k3, 0, none⟩) 20 20), (12, .int .i64 ((q : Nat) : Int))] ∧ mz = 20 - q ∧ Gx.Ext w w' ∧ Gx.Has w' k1 (.cells #[.int .i64 0, .int .i64 0, .string (⟨#[]⟩ : ByteArray), .int .i64 0] 31) ∧ Gx.Has w' k2 (.cells #[.int .i64 0, .int .i64 0] 25) ∧ Gx.Has w' k3 (.cells (Gx.strA signsL) 9) ∧ (q ≤ 20) ∧ (∀ r, r < q → signAt s (pass s i) r = false)) _ _ [(0, .string s), (1, .int .i64 ((pass s i : Nat) : Int)), (4, .pointer (some ⟨k1, 0, none⟩)), (6, .pointer (some ⟨k2, 0, none⟩)), (11, .slice (some ⟨k3, 0, none⟩) 20 20), (12, .int .i64 ((0 : Nat) : Int))] (Gx.forget [(0, .string s), (1, .int .i64 ((pass s i : Nat) : Int)), (4, .pointer (some ⟨k1, 0, none⟩)), (6, .pointer (some ⟨k2, 0, none⟩)), (11, .slice (some ⟨k3, 0, none⟩) 20 20), (12, .int .i64 ((0 : Nat) : Int))] (by kernel_rfl)) ⟨0, rfl, rfl, (((((Gx.Ext.refl w).trans x1).trans x2).trans x3).trans x10), (((b1.ext x2).ext x3).ext x10), ((b2.ext x3).ext x10), b23, (by omega), (by intro r hr; omega)⟩ (fun bb7 m3 ll7 w25 hI7 K7 hK7 => ?_)
  obtain ⟨q, rfl, rfl, x11, b24, b25, b26, hq, hn⟩ := hI7
  have zw25 := x11.size
  have tb24 := b24.lt
  have tb25 := b25.lt
  have tb26 := b26.lt
  refine wp_seq ?_
  refine Gx.seq_run [(108, .bool (decide (((q : Nat) : Int) < (20 : Int)))), (107, .int .i64 20), (106, .slice (some ⟨k3, 0, none⟩) 20 20), (105, .int .i64 ((q : Nat) : Int))] (by kernel_rfl) ?_
  refine Gx.cond (decide (((q : Nat) : Int) < (20 : Int))) (by kernel_rfl) (fun h_c108 => ?_) (fun h_c108 => ?_)
  · skip
    refine wp_skip ?_
    refine Gx.then_normal ?_
    refine wp_seq ?_
    refine wp_block ?_
    have p_c108 := h_c108; try simp at p_c108
    have hsz : (Gx.gs signsL q).size ≤ 2 := by rw [signs_len q (by omega)]; split <;> omega
    refine Gx.seq_reg [0, 1, 2, 3, 4, 5, 6, 7] (by kernel_rfl) ?_
    refine Gx.pure [0, 1, 2] [3, 4, 5, 6, 7] [(113, .int .i64 ((q : Nat) : Int)), (112, .slice (some ⟨k3, 0, none⟩) 20 20), (111, .int .i64 ((pass s i : Nat) : Int))] rfl (by kernel_rfl) ?_
    refine Gx.cons (Gx.op_indexAddr (bk := k3) rfl (by kernel_rfl) rfl 9 1 (by kernel_rfl) (by kernel_rfl) 0 20 20 (by kernel_rfl) .i64 q (by kernel_rfl) (by omega) ?_)
    refine Gx.cons (Gx.op_load rfl (by kernel_rfl) rfl (0 + q * 1) (.string (Gx.gs signsL q)) (by kernel_rfl) b26 (Gx.loadB_strA (by kernel_rfl) (show q < 20 by omega)) ?_)
    refine Gx.pure [5] [6, 7] [(116, .int .i64 (((Gx.gs signsL q).size : Nat) : Int))] rfl (by kernel_rfl) ?_
    refine Gx.pure_eq [6] [7] [(117, .int .i64 (IntKind.i64.wrap (((pass s i : Nat) : Int) + (((Gx.gs signsL q).size : Nat) : Int))))] [(117, .int .i64 (((pass s i) + ((Gx.gs signsL q).size) : Nat) : Int))] rfl (by kernel_rfl) (Gx.eqI (Gx.i64n (by omega) (by omega))) ?_
    refine Gx.pure [7] [] [(7, .int .i64 (((pass s i) + ((Gx.gs signsL q).size) : Nat) : Int))] rfl (by kernel_rfl) ?_
    refine Gx.ops_end ?_
    refine wp_seq ?_
    refine Gx.splitC (decide ((((pass s i) + ((Gx.gs signsL q).size) : Nat) : Int) ≤ ((s.size : Nat) : Int))) (fun h_d1 => ?_) (fun h_d1 => ?_)
    · skip
      refine Gx.draw (S := fun w' => Gx.Has w' k3 (.cells (Gx.strA signsL) 9)) (by kernel_rfl) (fun w26 x12 => ?_)
      have zw26 := x12.size
      refine Gx.any_take 0 (.int .i64 (((pass s i) + ((Gx.gs signsL q).size) : Nat) : Int)) rfl (by kernel_rfl) (by kernel_rfl) (by kernel_rfl) (fun _ _ _ h => h) (b26.ext x12) (by kernel_rfl) (fun _ _ => (by kernel_rfl)) ?_
      refine Gx.any_take 1 (.string s) rfl (by kernel_rfl) (by kernel_rfl) (by kernel_rfl) (fun _ _ _ h => h) (b26.ext x12) (by kernel_rfl) (fun _ _ => (by kernel_rfl)) ?_
      refine Gx.any_take 2 (.int .i64 ((s.size : Nat) : Int)) rfl (by kernel_rfl) (by kernel_rfl) (by kernel_rfl) (fun _ _ _ h => h) (b26.ext x12) (by kernel_rfl) (fun _ _ => (by kernel_rfl)) ?_
      refine Gx.any_take_as 3 (.bool (decide ((((pass s i) + ((Gx.gs signsL q).size) : Nat) : Int) ≤ ((s.size : Nat) : Int)))) (.bool true) (by rw [h_d1]) rfl (by kernel_rfl) (by kernel_rfl) (by kernel_rfl) (fun _ _ _ h => h) (b26.ext x12) (by kernel_rfl) (fun _ _ => (by kernel_rfl)) ?_
      refine Gx.any_take 4 (.bool true) rfl (by kernel_rfl) (by kernel_rfl) (by kernel_rfl) (fun _ _ _ h => h) (b26.ext x12) (by kernel_rfl) (fun _ _ => (by kernel_rfl)) ?_
      refine Gx.any_take 5 (.string s) rfl (by kernel_rfl) (by kernel_rfl) (by kernel_rfl) (fun _ _ _ h => h) (b26.ext x12) (by kernel_rfl) (fun _ _ => (by kernel_rfl)) ?_
      refine Gx.any_take 6 (.int .i64 ((pass s i : Nat) : Int)) rfl (by kernel_rfl) (by kernel_rfl) (by kernel_rfl) (fun _ _ _ h => h) (b26.ext x12) (by kernel_rfl) (fun _ _ => (by kernel_rfl)) ?_
      refine Gx.any_take 7 (.int .i64 (((pass s i) + ((Gx.gs signsL q).size) : Nat) : Int)) rfl (by kernel_rfl) (by kernel_rfl) (by kernel_rfl) (fun _ _ _ h => h) (b26.ext x12) (by kernel_rfl) (fun _ _ => (by kernel_rfl)) ?_
      have p_d1 := h_d1; try simp at p_d1
      refine Gx.any_take 8 (.string (s.extract (pass s i) ((pass s i) + ((Gx.gs signsL q).size)))) rfl (by kernel_rfl) (by kernel_rfl) (by kernel_rfl) (fun _ _ _ h => h) (b26.ext x12) (by kernel_rfl) (fun _ _ => Gx.run_slice_str' rfl (by kernel_rfl) s (pass s i) ((pass s i) + ((Gx.gs signsL q).size)) (by kernel_rfl) (.inr ⟨.i64, (by kernel_rfl)⟩) (.inr ⟨.i64, (by kernel_rfl)⟩) (by omega) (by omega)) ?_
      refine Gx.any_take 9 (.slice (some ⟨k3, 0, none⟩) 20 20) rfl (by kernel_rfl) (by kernel_rfl) (by kernel_rfl) (fun _ _ _ h => h) (b26.ext x12) (by kernel_rfl) (fun _ _ => (by kernel_rfl)) ?_
      refine Gx.any_take 10 (.int .i64 ((q : Nat) : Int)) rfl (by kernel_rfl) (by kernel_rfl) (by kernel_rfl) (fun _ _ _ h => h) (b26.ext x12) (by kernel_rfl) (fun _ _ => (by kernel_rfl)) ?_
      refine Gx.any_take 11 (.pointer (some ⟨k3, 0 + q * 1, none⟩)) rfl (by kernel_rfl) (by kernel_rfl) (by kernel_rfl) (fun _ _ _ h => h) (b26.ext x12) (by kernel_rfl) (fun _ _ => Gx.run_indexAddr rfl 9 1 (by kernel_rfl) (by kernel_rfl) 0 20 20 (by kernel_rfl) .i64 q (by kernel_rfl) (by omega)) ?_
      refine Gx.any_take 12 (.string (Gx.gs signsL q)) rfl (by kernel_rfl) (by kernel_rfl) (by kernel_rfl) (fun _ _ _ h => h) (b26.ext x12) (by kernel_rfl) (fun _ hs => Gx.run_load rfl (0 + q * 1) (.string (Gx.gs signsL q)) (by kernel_rfl) hs (Gx.loadB_strA (by kernel_rfl) (show q < 20 by omega))) ?_
      refine Gx.any_take 13 (.bool ((s.extract (pass s i) ((pass s i) + ((Gx.gs signsL q).size))).toList == (Gx.gs signsL q).toList)) rfl (by kernel_rfl) (by kernel_rfl) (by kernel_rfl) (fun _ _ _ h => h) (b26.ext x12) (by kernel_rfl) (fun _ _ => (by kernel_rfl)) ?_
      refine Gx.any_take 14 (.bool ((s.extract (pass s i) ((pass s i) + ((Gx.gs signsL q).size))).toList == (Gx.gs signsL q).toList)) rfl (by kernel_rfl) (by kernel_rfl) (by kernel_rfl) (fun _ _ _ h => h) (b26.ext x12) (by kernel_rfl) (fun _ _ => (by kernel_rfl)) ?_
      refine Gx.any_done (by kernel_rfl) ?_
      refine Gx.then_normal ?_
      refine Gx.cond ((s.extract (pass s i) ((pass s i) + ((Gx.gs signsL q).size))).toList == (Gx.gs signsL q).toList) (by kernel_rfl) (fun h_c132 => ?_) (fun h_c132 => ?_)
      · skip
        refine Gx.seq_reg [0, 1, 2, 3, 4, 5, 6, 7, 8, 9, 10] (by kernel_rfl) ?_
        refine Gx.pure [0, 1, 2] [3, 4, 5, 6, 7, 8, 9, 10] [(135, .int .i64 ((q : Nat) : Int)), (134, .slice (some ⟨k3, 0, none⟩) 20 20), (133, .int .i64 ((pass s i : Nat) : Int))] rfl (by kernel_rfl) ?_
        have p_c132 := h_c132; try simp at p_c132
        refine Gx.cons (Gx.op_indexAddr (bk := k3) rfl (by kernel_rfl) rfl 9 1 (by kernel_rfl) (by kernel_rfl) 0 20 20 (by kernel_rfl) .i64 q (by kernel_rfl) (by omega) ?_)
        refine Gx.cons (Gx.op_load rfl (by kernel_rfl) rfl (0 + q * 1) (.string (Gx.gs signsL q)) (by kernel_rfl) (b26.ext x12) (Gx.loadB_strA (by kernel_rfl) (show q < 20 by omega)) ?_)
        refine Gx.pure [5, 6, 7] [8, 9, 10] [(140, .agg #[.int .i64 0, .int .i64 0]), (139, .int .i64 (((pass s i) + ((Gx.gs signsL q).size) : Nat) : Int)), (138, .agg #[.int .i64 4, .int .i64 ((pass s i : Nat) : Int), .string (Gx.gs signsL q), .int .i64 0])] rfl (by kernel_rfl) ?_
        refine Gx.cons (Gx.op_store rfl (by kernel_rfl) rfl 0 (.agg #[.int .i64 4, .int .i64 ((pass s i : Nat) : Int), .string (Gx.gs signsL q), .int .i64 0]) (by kernel_rfl) (by kernel_rfl) (b24.ext x12) (by kernel_rfl) (by kernel_rfl) (by kernel_rfl) #[.int .i64 4, .int .i64 ((pass s i : Nat) : Int), .string (Gx.gs signsL q), .int .i64 0] (by kernel_rfl) (fun w27 u13 b27 => ?_))
        have zw27 := u13.size
        refine Gx.pure [9] [10] [(5, .int .i64 (((pass s i) + ((Gx.gs signsL q).size) : Nat) : Int))] rfl (by kernel_rfl) ?_
        refine Gx.cons (Gx.op_store rfl (by kernel_rfl) rfl 0 (.agg #[.int .i64 0, .int .i64 0]) (by kernel_rfl) (by kernel_rfl) ((b25.ext x12).upd1 u13 (by omega)) (by kernel_rfl) (by kernel_rfl) (by kernel_rfl) #[.int .i64 0, .int .i64 0] (by kernel_rfl) (fun w28 u14 b28 => ?_))
        have zw28 := u14.size
        refine Gx.ops_end ?_
        refine wp_ret ?_
        refine Gx.block_ret ?_
        refine Gx.then_ret ?_
        refine Gx.then_ret ?_
        refine Gx.block_ret ?_
        refine Gx.then_ret ?_
        refine Gx.ret (Gx.res_ctc (u := .agg #[.int .i64 4, .int .i64 ((pass s i : Nat) : Int), .string (Gx.gs signsL q), .int .i64 0]) (v := .int .i64 (((pass s i) + ((Gx.gs signsL q).size) : Nat) : Int)) (x := .agg #[.int .i64 0, .int .i64 0]) rfl (by kernel_rfl) (by kernel_rfl) (b27.upd1 u14 (by omega)) (by kernel_rfl) (by kernel_rfl) b28 (by kernel_rfl)) ?_
        exact Gx.ret_as (v' := Nx.V (next s i)) (by have hy := sign_yes (s := s) (j := pass s i) (q := q) (by omega) hn (by unfold signAt; rw [h_d1, h_c132]; rfl); unfold next; rw [if_pos (show pass s i < s.size by omega)]; unfold tokAt; rw [if_neg (by rw [h_c30]; simp)]; rw [if_neg (by rw [h_c64]; simp)]; rw [if_pos hy.1, hy.2.1, hy.2.2]; rfl) (hK _ (((((Gx.Ext.refl w).trans x11).trans x12).upd1 u13 (by omega)).upd1 u14 (by omega)))
      refine wp_skip ?_
      refine Gx.block_normal ?_
      refine Gx.then_normal ?_
      refine Gx.reg [0, 1, 2] (by kernel_rfl) ?_
      refine Gx.pure [0] [1, 2] [(109, .int .i64 ((q : Nat) : Int))] rfl (by kernel_rfl) ?_
      have p_c132 := h_c132; try simp at p_c132
      refine Gx.pure_eq [1] [2] [(110, .int .i64 (IntKind.i64.wrap (((q : Nat) : Int) + (1 : Int))))] [(110, .int .i64 ((q + 1 : Nat) : Int))] rfl (by kernel_rfl) (Gx.eqI (Gx.i64n (by omega) (by omega))) ?_
      refine Gx.pure [2] [] [(12, .int .i64 ((q + 1 : Nat) : Int))] rfl (by kernel_rfl) ?_
      refine Gx.ops_nil ?_
      refine Gx.then_normal ?_
      rw [Gx.forget [(0, .string s), (1, .int .i64 ((pass s i : Nat) : Int)), (4, .pointer (some ⟨k1, 0, none⟩)), (6, .pointer (some ⟨k2, 0, none⟩)), (11, .slice (some ⟨k3, 0, none⟩) 20 20), (12, .int .i64 ((q + 1 : Nat) : Int))] (by kernel_rfl)]
      exact hK7 _ _ _ _ (by omega) ⟨q + 1, rfl, rfl, (((Gx.Ext.refl w).trans x11).trans x12), (b24.ext x12), (b25.ext x12), (b26.ext x12), (by omega), (fun r hr => by rcases Nat.lt_or_ge r q with h | h; exact hn r h; (have e : r = q := by omega); subst e; unfold signAt; rw [h_d1, h_c132]; rfl)⟩
    refine Gx.draw (S := fun w' => True) (by kernel_rfl) (fun w29 x13 => ?_)
    have zw29 := x13.size
    refine Gx.any_take 0 (.int .i64 (((pass s i) + ((Gx.gs signsL q).size) : Nat) : Int)) rfl (by kernel_rfl) (by kernel_rfl) (by kernel_rfl) (fun _ _ _ h => h) trivial (by kernel_rfl) (fun _ _ => (by kernel_rfl)) ?_
    refine Gx.any_take 1 (.string s) rfl (by kernel_rfl) (by kernel_rfl) (by kernel_rfl) (fun _ _ _ h => h) trivial (by kernel_rfl) (fun _ _ => (by kernel_rfl)) ?_
    refine Gx.any_take 2 (.int .i64 ((s.size : Nat) : Int)) rfl (by kernel_rfl) (by kernel_rfl) (by kernel_rfl) (fun _ _ _ h => h) trivial (by kernel_rfl) (fun _ _ => (by kernel_rfl)) ?_
    refine Gx.any_take_as 3 (.bool (decide ((((pass s i) + ((Gx.gs signsL q).size) : Nat) : Int) ≤ ((s.size : Nat) : Int)))) (.bool false) (by rw [h_d1]) rfl (by kernel_rfl) (by kernel_rfl) (by kernel_rfl) (fun _ _ _ h => h) trivial (by kernel_rfl) (fun _ _ => (by kernel_rfl)) ?_
    refine Gx.any_take 4 (.bool false) rfl (by kernel_rfl) (by kernel_rfl) (by kernel_rfl) (fun _ _ _ h => h) trivial (by kernel_rfl) (fun _ _ => (by kernel_rfl)) ?_
    refine Gx.any_skip 5 rfl (by kernel_rfl) (by kernel_rfl) (by kernel_rfl) (fun _ _ _ h => h) trivial (by kernel_rfl) ?_
    refine Gx.any_skip 6 rfl (by kernel_rfl) (by kernel_rfl) (by kernel_rfl) (fun _ _ _ h => h) trivial (by kernel_rfl) ?_
    refine Gx.any_skip 7 rfl (by kernel_rfl) (by kernel_rfl) (by kernel_rfl) (fun _ _ _ h => h) trivial (by kernel_rfl) ?_
    refine Gx.any_skip 8 rfl (by kernel_rfl) (by kernel_rfl) (by kernel_rfl) (fun _ _ _ h => h) trivial (by kernel_rfl) ?_
    refine Gx.any_skip 9 rfl (by kernel_rfl) (by kernel_rfl) (by kernel_rfl) (fun _ _ _ h => h) trivial (by kernel_rfl) ?_
    refine Gx.any_skip 10 rfl (by kernel_rfl) (by kernel_rfl) (by kernel_rfl) (fun _ _ _ h => h) trivial (by kernel_rfl) ?_
    refine Gx.any_skip 11 rfl (by kernel_rfl) (by kernel_rfl) (by kernel_rfl) (fun _ _ _ h => h) trivial (by kernel_rfl) ?_
    refine Gx.any_skip 12 rfl (by kernel_rfl) (by kernel_rfl) (by kernel_rfl) (fun _ _ _ h => h) trivial (by kernel_rfl) ?_
    refine Gx.any_skip 13 rfl (by kernel_rfl) (by kernel_rfl) (by kernel_rfl) (fun _ _ _ h => h) trivial (by kernel_rfl) ?_
    refine Gx.any_take 14 (.bool false) rfl (by kernel_rfl) (by kernel_rfl) (by kernel_rfl) (fun _ _ _ h => h) trivial (by kernel_rfl) (fun _ _ => (by kernel_rfl)) ?_
    refine Gx.any_done (by kernel_rfl) ?_
    refine Gx.then_normal ?_
    refine Gx.cond_f (by kernel_rfl) ?_
    refine wp_skip ?_
    refine Gx.block_normal ?_
    refine Gx.then_normal ?_
    refine Gx.reg [0, 1, 2] (by kernel_rfl) ?_
    refine Gx.pure [0] [1, 2] [(109, .int .i64 ((q : Nat) : Int))] rfl (by kernel_rfl) ?_
    have p_d1 := h_d1; try simp at p_d1
    refine Gx.pure_eq [1] [2] [(110, .int .i64 (IntKind.i64.wrap (((q : Nat) : Int) + (1 : Int))))] [(110, .int .i64 ((q + 1 : Nat) : Int))] rfl (by kernel_rfl) (Gx.eqI (Gx.i64n (by omega) (by omega))) ?_
    refine Gx.pure [2] [] [(12, .int .i64 ((q + 1 : Nat) : Int))] rfl (by kernel_rfl) ?_
    refine Gx.ops_nil ?_
    refine Gx.then_normal ?_
    rw [Gx.forget [(0, .string s), (1, .int .i64 ((pass s i : Nat) : Int)), (4, .pointer (some ⟨k1, 0, none⟩)), (6, .pointer (some ⟨k2, 0, none⟩)), (11, .slice (some ⟨k3, 0, none⟩) 20 20), (12, .int .i64 ((q + 1 : Nat) : Int))] (by kernel_rfl)]
    exact hK7 _ _ _ _ (by omega) ⟨q + 1, rfl, rfl, (((Gx.Ext.refl w).trans x11).trans x13), (b24.ext x13), (b25.ext x13), (b26.ext x13), (by omega), (fun r hr => by rcases Nat.lt_or_ge r q with h | h; exact hn r h; (have e : r = q := by omega); subst e; unfold signAt; rw [h_d1]; rfl)⟩
  refine wp_exit ?_
  refine Gx.then_exit ?_
  refine Gx.then_exit ?_
  refine Gx.block_exit ?_
  refine Gx.then_normal ?_
  refine Gx.seq_reg [0, 1, 2, 3, 4, 5] (by kernel_rfl) ?_
  refine Gx.pure [0, 1, 2] [3, 4, 5] [(143, .agg #[.int .i64 2, .int .i64 ((pass s i : Nat) : Int)]), (142, .int .i64 ((pass s i : Nat) : Int)), (141, .agg #[.int .i64 0, .int .i64 0, .string (⟨#[]⟩ : ByteArray), .int .i64 0])] rfl (by kernel_rfl) ?_
  refine Gx.cons (Gx.op_store rfl (by kernel_rfl) rfl 0 (.agg #[.int .i64 0, .int .i64 0, .string (⟨#[]⟩ : ByteArray), .int .i64 0]) (by kernel_rfl) (by kernel_rfl) b24 (by kernel_rfl) (by kernel_rfl) (by kernel_rfl) #[.int .i64 0, .int .i64 0, .string (⟨#[]⟩ : ByteArray), .int .i64 0] (by kernel_rfl) (fun w30 u15 b29 => ?_))
  have zw30 := u15.size
  refine Gx.pure [4] [5] [(5, .int .i64 0)] rfl (by kernel_rfl) ?_
  have p_c108 := h_c108; try simp at p_c108
  refine Gx.cons (Gx.op_store rfl (by kernel_rfl) rfl 0 (.agg #[.int .i64 2, .int .i64 ((pass s i : Nat) : Int)]) (by kernel_rfl) (by kernel_rfl) (b25.upd1 u15 (by omega)) (by kernel_rfl) (by kernel_rfl) (by kernel_rfl) #[.int .i64 2, .int .i64 ((pass s i : Nat) : Int)] (by kernel_rfl) (fun w31 u16 b30 => ?_))
  have zw31 := u16.size
  refine Gx.ops_end ?_
  refine wp_ret ?_
  refine Gx.ret (Gx.res_ctc (u := .agg #[.int .i64 0, .int .i64 0, .string (⟨#[]⟩ : ByteArray), .int .i64 0]) (v := .int .i64 0) (x := .agg #[.int .i64 2, .int .i64 ((pass s i : Nat) : Int)]) rfl (by kernel_rfl) (by kernel_rfl) (b29.upd1 u16 (by omega)) (by kernel_rfl) (by kernel_rfl) b30 (by kernel_rfl)) ?_
  exact Gx.ret_as (v' := Nx.V (next s i)) (by have hy := sign_no (s := s) (j := pass s i) (by omega) (fun r hr => hn r (by omega)); unfold next; rw [if_pos (show pass s i < s.size by omega)]; unfold tokAt; rw [if_neg (by rw [h_c30]; simp)]; rw [if_neg (by rw [h_c64]; simp)]; rw [if_neg (by rw [hy]; simp)]; rfl) (hK _ ((((Gx.Ext.refl w).trans x11).upd1 u15 (by omega)).upd1 u16 (by omega)))

end Go.Proofs.Ytiimlomgpmgecaa
