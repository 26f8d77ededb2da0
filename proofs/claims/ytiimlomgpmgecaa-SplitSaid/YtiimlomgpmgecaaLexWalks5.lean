/- The walks of the lexer's functions, written by a program of ours (wip/gx/gx.py, wip/lexer/lexgen.py). -/
import Derived.Test.YtiimlomgpmgecaaRows
import Derived.Test.YtiimlomgpmgecaaGx
import Derived.Test.YtiimlomgpmgecaaLexPlain
import Derived.Test.YtiimlomgpmgecaaLexWalks1
import Derived.Test.YtiimlomgpmgecaaLexWalks2
import Derived.Test.YtiimlomgpmgecaaLexWalks3
import Derived.Test.YtiimlomgpmgecaaLexWalks4
namespace Go.Proofs.Ytiimlomgpmgecaa
open Go.RowKit Go.Lex
attribute [local irreducible] Go.wpOps Go.Code.wp Go.wpOp Go.wpAnyH Go.Calls
set_option maxHeartbeats 1000000 in
set_option maxRecDepth 10000 in
theorem pTokens_c (s : ByteArray) (w : World) (K : Ending → World → Prop)  (hK : ∀ w', Gx.Ext w w' → ∀ v, w'.ownsRow w.heap.size 31 4 v (lex s).1.length (tokCells (lex s).1) → K (.returned (.tuple #[v, .agg #[.int .i64 (((lex s).2.1 : Nat) : Int), .int .i64 (((lex s).2.2 : Nat) : Int)]])) w') :
    Calls Try.prog 5 #[.string s] w K := by
  refine Gx.enter 34 Try.func5 rfl rfl (Nat.le_of_ble_eq_true rfl) ?_
  refine Gx.seq_reg [0, 1] (by kernel_rfl) ?_
  refine Gx.pure [0] [1] [(2, .slice none 0 0)] rfl (by kernel_rfl) ?_
  refine Gx.cons (Gx.op_new (.cells #[.int .i64 0, .int .i64 0] 25) rfl (by kernel_rfl) (by kernel_rfl) (fun k1 w1 l1 x1 b1 => ?_))
  have zw1 := x1.size
  have tb1 := b1.lt
  refine Gx.ops_end ?_
  refine wp_seq ?_
  refine Gx.seq_run [(11, .bool (decide (((s.size : Nat) : Int) > (3000 : Int)))), (10, .int .i64 ((s.size : Nat) : Int)), (9, .string s)] (by kernel_rfl) ?_
  refine Gx.cond (decide (((s.size : Nat) : Int) > (3000 : Int))) (by kernel_rfl) (fun h_c11 => ?_) (fun h_c11 => ?_)
  · skip
    refine Gx.seq_reg [0, 1, 2] (by kernel_rfl) ?_
    refine Gx.pure [0, 1] [2] [(2, .slice none 0 0), (12, .agg #[.int .i64 1, .int .i64 0])] rfl (by kernel_rfl) ?_
    refine Gx.cons (Gx.op_store rfl (by kernel_rfl) rfl 0 (.agg #[.int .i64 1, .int .i64 0]) (by kernel_rfl) (by kernel_rfl) b1 (by kernel_rfl) (by kernel_rfl) (by kernel_rfl) #[.int .i64 1, .int .i64 0] (by kernel_rfl) (fun w2 u1 b2 => ?_))
    have zw2 := u1.size
    refine Gx.ops_end ?_
    refine wp_ret ?_
    refine Gx.then_ret ?_
    refine Gx.ret (Gx.res_tc (v := .slice none 0 0) (u := .agg #[.int .i64 1, .int .i64 0]) rfl (by kernel_rfl) (by kernel_rfl) b2 (by kernel_rfl)) ?_
    have p_c11 := h_c11; try simp at p_c11
    have hr : lex s = ([], 1, 0) := by unfold lex; rw [if_pos (by omega)]
    rw [hr] at hK
    exact hK _ (((Gx.Ext.refl w).trans x1).upd1 u1 (by omega)) _ (World.ownsRow_nil _ _ _ _)
  refine wp_skip ?_
  refine Gx.then_normal ?_
  have p_c11 := h_c11; try simp at p_c11
  have hs : s.size ≤ 3000 := by omega
  refine Gx.seq_run [(4, .slice none 0 0)] (by kernel_rfl) ?_
  refine Gx.seq_run [(5, .int .i64 0)] (by kernel_rfl) ?_
  refine wp_block ?_
  refine Gx.loop (n' := 34) (d' := []) (fun mz l' w' => ∃ (i : Nat) (as_ : List Nx) (v : Value), l' = [(0, .string s), (3, .pointer (some ⟨k1, 0, none⟩)), (4, v), (5, .int .i64 ((i : Nat) : Int))] ∧ mz = s.size - i ∧ Gx.Ext w w' ∧ Gx.Has w' k1 (.cells #[.int .i64 0, .int .i64 0] 25) ∧ (i ≤ s.size) ∧ (w'.ownsRow (k1 + 1) 31 4 v as_.length (tokCells as_)) ∧ (toks s 0 = pre as_ (toks s i)) ∧ (as_.length ≤ i)) _ _ [(0, .string s), (3, .pointer (some ⟨k1, 0, none⟩)), (4, (.slice none 0 0)), (5, .int .i64 ((0 : Nat) : Int))] (Gx.forget [(0, .string s), (3, .pointer (some ⟨k1, 0, none⟩)), (4, (.slice none 0 0)), (5, .int .i64 ((0 : Nat) : Int))] (by kernel_rfl)) ⟨0, [], (.slice none 0 0), rfl, rfl, ((Gx.Ext.refl w).trans x1), b1, (by omega), (World.ownsRow_nil _ _ _ _), (pre_nil _ (toks_nil s 0)).symm, (by simp)⟩ (fun bb1 m1 ll1 w3 hI1 K1 hK1 => ?_)
  obtain ⟨i, as_, v, rfl, rfl, x2, b3, hi, hown, hTok, hlen⟩ := hI1
  have zw3 := x2.size
  have tb3 := b3.lt
  have hpr := next_prog (s := s) (i := i) hi
  refine wp_block ?_
  refine Gx.seq_reg [0, 1, 2, 3, 4, 5, 6, 7, 8, 9, 10, 11] (by kernel_rfl) ?_
  refine Gx.pure [0, 1] [2, 3, 4, 5, 6, 7, 8, 9, 10, 11] [(15, .int .i64 ((i : Nat) : Int)), (14, .string s)] rfl (by kernel_rfl) ?_
  refine Gx.cons (Gx.op_call rfl (by kernel_rfl) (by kernel_rfl) (fun R hR => pNext_c s i _ R hs (by omega) (fun w4 x3  => hR _ _ ?_)))
  have zw4 := x3.size
  refine Gx.pure [3, 4, 5, 6] [7, 8, 9, 10, 11] [(19, .agg #[.int .i64 (((next s i).fk : Nat) : Int), .int .i64 (((next s i).fa : Nat) : Int)]), (18, .int .i64 (((next s i).nx : Nat) : Int)), (17, .agg #[.int .i64 (((next s i).kind : Nat) : Int), .int .i64 (((next s i).at_ : Nat) : Int), .string ((next s i).text), .int .i64 (((next s i).n : Nat) : Int)]), (13, .tuple #[.agg #[.int .i64 (((next s i).kind : Nat) : Int), .int .i64 (((next s i).at_ : Nat) : Int), .string ((next s i).text), .int .i64 (((next s i).n : Nat) : Int)], .int .i64 (((next s i).nx : Nat) : Int), .agg #[.int .i64 (((next s i).fk : Nat) : Int), .int .i64 (((next s i).fa : Nat) : Int)]])] rfl (by kernel_rfl) ?_
  refine Gx.cons (Gx.op_new (.cells #[.int .i64 0, .int .i64 0, .string (⟨#[]⟩ : ByteArray), .int .i64 0] 31) rfl (by kernel_rfl) (by kernel_rfl) (fun k2 w5 l2 x4 b4 => ?_))
  have zw5 := x4.size
  have tb4 := b4.lt
  refine Gx.cons (Gx.op_new (.cells #[.int .i64 0, .int .i64 0] 25) rfl (by kernel_rfl) (by kernel_rfl) (fun k3 w6 l3 x5 b5 => ?_))
  have zw6 := x5.size
  have tb5 := b5.lt
  refine Gx.cons (Gx.op_store rfl (by kernel_rfl) rfl 0 (.agg #[.int .i64 (((next s i).kind : Nat) : Int), .int .i64 (((next s i).at_ : Nat) : Int), .string ((next s i).text), .int .i64 (((next s i).n : Nat) : Int)]) (by kernel_rfl) (by kernel_rfl) (b4.ext x5) (by kernel_rfl) (by kernel_rfl) (by kernel_rfl) #[.int .i64 (((next s i).kind : Nat) : Int), .int .i64 (((next s i).at_ : Nat) : Int), .string ((next s i).text), .int .i64 (((next s i).n : Nat) : Int)] (by kernel_rfl) (fun w7 u2 b6 => ?_))
  have zw7 := u2.size
  refine Gx.pure [10] [11] [(7, .int .i64 (((next s i).nx : Nat) : Int))] rfl (by kernel_rfl) ?_
  refine Gx.cons (Gx.op_store rfl (by kernel_rfl) rfl 0 (.agg #[.int .i64 (((next s i).fk : Nat) : Int), .int .i64 (((next s i).fa : Nat) : Int)]) (by kernel_rfl) (by kernel_rfl) (b5.upd1 u2 (by omega)) (by kernel_rfl) (by kernel_rfl) (by kernel_rfl) #[.int .i64 (((next s i).fk : Nat) : Int), .int .i64 (((next s i).fa : Nat) : Int)] (by kernel_rfl) (fun w8 u3 b7 => ?_))
  have zw8 := u3.size
  refine Gx.ops_end ?_
  refine wp_seq ?_
  refine Gx.seq_reg [0, 1, 2] (by kernel_rfl) ?_
  refine Gx.pure [0] [1, 2] [(20, .pointer (some ⟨k3, 0, none⟩))] rfl (by kernel_rfl) ?_
  refine Gx.cons (Gx.op_load rfl (by kernel_rfl) rfl 0 (.int .i64 (((next s i).fk : Nat) : Int)) (by kernel_rfl) b7 (by kernel_rfl) ?_)
  refine Gx.pure [2] [] [(22, .bool ((((next s i).fk : Nat) : Int) != (0 : Int)))] rfl (by kernel_rfl) ?_
  refine Gx.ops_end ?_
  refine Gx.cond ((((next s i).fk : Nat) : Int) != (0 : Int)) (by kernel_rfl) (fun h_c22 => ?_) (fun h_c22 => ?_)
  · skip
    refine wp_seq ?_
    refine Gx.draw (S := fun w' => Gx.Has w' k3 (.cells #[.int .i64 (((next s i).fk : Nat) : Int), .int .i64 (((next s i).fa : Nat) : Int)] 25)) (by kernel_rfl) (fun w9 x6 => ?_)
    have zw9 := x6.size
    refine Gx.any_take 0 (.agg #[.int .i64 (((next s i).fk : Nat) : Int), .int .i64 (((next s i).fa : Nat) : Int)]) rfl (by kernel_rfl) (by kernel_rfl) (by kernel_rfl) (fun _ _ _ h => h) (b7.ext x6) (by kernel_rfl) (fun _ hs => Gx.run_load rfl 0 (.agg #[.int .i64 (((next s i).fk : Nat) : Int), .int .i64 (((next s i).fa : Nat) : Int)]) (by kernel_rfl) hs (by kernel_rfl)) ?_
    refine Gx.any_take 1 (.slice none 0 0) rfl (by kernel_rfl) (by kernel_rfl) (by kernel_rfl) (fun _ _ _ h => h) (b7.ext x6) (by kernel_rfl) (fun _ _ => (by kernel_rfl)) ?_
    have p_c22 := h_c22; try simp at p_c22
    refine Gx.any_one 2 (by kernel_rfl) (Gx.op_store rfl (by kernel_rfl) rfl 0 (.agg #[.int .i64 (((next s i).fk : Nat) : Int), .int .i64 (((next s i).fa : Nat) : Int)]) (by kernel_rfl) (by kernel_rfl) ((((((b3.ext x3).ext x4).ext x5).upd1 u2 (by omega)).upd1 u3 (by omega)).ext x6) (by kernel_rfl) (by kernel_rfl) (by kernel_rfl) #[.int .i64 (((next s i).fk : Nat) : Int), .int .i64 (((next s i).fa : Nat) : Int)] (by kernel_rfl) (fun w10 u4 b8 => ⟨((b7.ext x6).upd1 u4 (by omega)), ?_⟩))
    have zw10 := u4.size
    refine Gx.any_done (by kernel_rfl) ?_
    refine Gx.then_normal ?_
    refine wp_ret ?_
    refine Gx.then_ret ?_
    refine Gx.block_ret ?_
    refine Gx.then_ret ?_
    refine Gx.block_ret ?_
    refine Gx.ret (Gx.res_tc (v := .slice none 0 0) (u := .agg #[.int .i64 (((next s i).fk : Nat) : Int), .int .i64 (((next s i).fa : Nat) : Int)]) rfl (by kernel_rfl) (by kernel_rfl) b8 (by kernel_rfl)) ?_
    have hr : lex s = ([], (next s i).fk, (next s i).fa) := by unfold lex; rw [if_neg (by omega), hTok, toks_fault (by omega)]; unfold pre; rw [if_neg (show ¬ (next s i).fk = 0 by omega)]
    rw [hr] at hK
    exact hK _ (((((((((Gx.Ext.refl w).trans x2).trans x3).trans x4).trans x5).upd1 u2 (by omega)).upd1 u3 (by omega)).trans x6).upd1 u4 (by omega)) _ (World.ownsRow_nil _ _ _ _)
  refine wp_skip ?_
  refine Gx.then_normal ?_
  refine Gx.seq_reg [0, 1, 2, 3, 4] (by kernel_rfl) ?_
  refine Gx.pure [0] [1, 2, 3, 4] [(24, v)] rfl (by kernel_rfl) ?_
  have p_c22 := h_c22; try simp at p_c22
  refine Gx.cons (Gx.op_load rfl (by kernel_rfl) rfl 0 (.agg #[.int .i64 (((next s i).kind : Nat) : Int), .int .i64 (((next s i).at_ : Nat) : Int), .string ((next s i).text), .int .i64 (((next s i).n : Nat) : Int)]) (by kernel_rfl) (b6.upd1 u3 (by omega)) (by kernel_rfl) ?_)
  refine Gx.cons (Gx.op_row (.cells #[.int .i64 (((next s i).kind : Nat) : Int), .int .i64 (((next s i).at_ : Nat) : Int), .string ((next s i).text), .int .i64 (((next s i).n : Nat) : Int)] 31) 1 1 rfl (by kernel_rfl) (by kernel_rfl) (fun k4 w11 l4 x7 b9 => ?_))
  have zw11 := x7.size
  have tb9 := b9.lt
  refine Gx.cons (Gx.op_append rfl (by kernel_rfl) rfl 31 4 40 (by kernel_rfl) (by kernel_rfl) (by kernel_rfl) (k1 + 1) (by kernel_rfl) (Gx.own_ext (Gx.own_upd1 (Gx.own_upd1 (Gx.own_ext (Gx.own_ext (Gx.own_ext hown x3) x4) x5) u2 (fun q e => by have := hown.lt q e; omega)) u3 (fun q e => by have := hown.lt q e; omega)) x7) 0 1 1 (by kernel_rfl) b9 [.int .i64 (((next s i).kind : Nat) : Int), .int .i64 (((next s i).at_ : Nat) : Int), .string ((next s i).text), .int .i64 (((next s i).n : Nat) : Int)] (by kernel_rfl) (by kernel_rfl) (by kernel_rfl) (by unfold maxLen; omega) (by omega) (by omega) (fun v1 w12 ow1 g1 nl1 => ?_))
  have zw12 := g1.size
  refine Gx.pure [4] [] [(4, v1)] rfl (by kernel_rfl) ?_
  refine Gx.ops_end ?_
  refine wp_seq ?_
  refine Gx.seq_reg [0, 1, 2] (by kernel_rfl) ?_
  refine Gx.pure [0] [1, 2] [(28, .pointer (some ⟨k2, 0, none⟩))] rfl (by kernel_rfl) ?_
  refine Gx.cons (Gx.op_load rfl (by kernel_rfl) rfl 0 (.int .i64 (((next s i).kind : Nat) : Int)) (by kernel_rfl) (((b6.upd1 u3 (by omega)).ext x7).upd g1 (fun e => by have := (hown).lt _ e.symm; omega)) (by kernel_rfl) ?_)
  refine Gx.pure [2] [] [(30, .bool ((((next s i).kind : Nat) : Int) == (0 : Int)))] rfl (by kernel_rfl) ?_
  refine Gx.ops_end ?_
  refine Gx.cond ((((next s i).kind : Nat) : Int) == (0 : Int)) (by kernel_rfl) (fun h_c30 => ?_) (fun h_c30 => ?_)
  · skip
    refine Gx.seq_reg [0, 1, 2, 3] (by kernel_rfl) ?_
    refine Gx.pure [0, 1, 2] [3] [(2, v1), (32, .agg #[.int .i64 0, .int .i64 0]), (31, v1)] rfl (by kernel_rfl) ?_
    have p_c30 := h_c30; try simp at p_c30
    refine Gx.cons (Gx.op_store rfl (by kernel_rfl) rfl 0 (.agg #[.int .i64 0, .int .i64 0]) (by kernel_rfl) (by kernel_rfl) (((((((b3.ext x3).ext x4).ext x5).upd1 u2 (by omega)).upd1 u3 (by omega)).ext x7).upd g1 (fun e => by have := (hown).lt _ e.symm; omega)) (by kernel_rfl) (by kernel_rfl) (by kernel_rfl) #[.int .i64 0, .int .i64 0] (by kernel_rfl) (fun w13 u5 b10 => ?_))
    have zw13 := u5.size
    refine Gx.ops_end ?_
    refine wp_ret ?_
    refine Gx.then_ret ?_
    refine Gx.block_ret ?_
    refine Gx.then_ret ?_
    refine Gx.block_ret ?_
    refine Gx.ret (Gx.res_tc (v := v1) (u := .agg #[.int .i64 0, .int .i64 0]) rfl (by kernel_rfl) (by kernel_rfl) b10 (by kernel_rfl)) ?_
    have hr : lex s = (as_ ++ [next s i], 0, 0) := by unfold lex; rw [if_neg (by omega), hTok, toks_end (by omega) (by omega)]; rfl
    rw [hr] at hK
    exact hK _ ((((((((((Gx.Ext.refl w).trans x2).trans x3).trans x4).trans x5).upd1 u2 (by omega)).upd1 u3 (by omega)).trans x7).upd g1 (fun j e => by have := (hown).lt j e; omega)).upd1 u5 (by omega)) _ (by rw [List.length_append, tokCells_snoc]; exact Gx.own_mono (Gx.own_upd1 ow1 u5 (fun q e => by have := ow1.lt q e; omega)) (by omega))
  refine wp_skip ?_
  refine Gx.then_normal ?_
  refine Gx.reg_run [(5, .int .i64 (((next s i).nx : Nat) : Int)), (33, .int .i64 (((next s i).nx : Nat) : Int))] (by kernel_rfl) ?_
  refine Gx.block_normal ?_
  refine Gx.then_normal ?_
  have p_c30 := h_c30; try simp at p_c30
  rw [Gx.forget [(0, .string s), (3, .pointer (some ⟨k1, 0, none⟩)), (4, v1), (5, .int .i64 (((next s i).nx : Nat) : Int))] (by kernel_rfl)]
  exact hK1 _ _ _ _ (by have := hpr (by omega) (by omega); omega) ⟨(next s i).nx, (as_ ++ [next s i]), v1, rfl, rfl, (((((((((Gx.Ext.refl w).trans x2).trans x3).trans x4).trans x5).upd1 u2 (by omega)).upd1 u3 (by omega)).trans x7).upd g1 (fun j e => by have := (hown).lt j e; omega)), (((((((b3.ext x3).ext x4).ext x5).upd1 u2 (by omega)).upd1 u3 (by omega)).ext x7).upd g1 (fun e => by have := (hown).lt _ e.symm; omega)), (by have := hpr (by omega) (by omega); omega), (by rw [List.length_append, tokCells_snoc]; exact ow1), (by rw [hTok, toks_go hi (by omega) (by omega), pre_add]), (by have := hpr (by omega) (by omega); rw [List.length_append]; show _ + 1 ≤ _; omega)⟩

set_option maxHeartbeats 1000000 in
set_option maxRecDepth 10000 in
theorem rTokens_c (s : ByteArray) (w : World) (K : Ending → World → Prop)  (hK : ∀ w', Gx.Ext w w' → ∀ v, w'.ownsRow w.heap.size 31 4 v (lex s).1.length (tokCells (lex s).1) → K (.returned (.tuple #[v, .agg #[.int .i64 (((lex s).2.1 : Nat) : Int), .int .i64 (((lex s).2.2 : Nat) : Int)]])) w') :
    Calls Try.prog 6 #[.string s] w K := by
  refine Gx.enter 34 Try.func6 rfl rfl (Nat.le_of_ble_eq_true rfl) ?_
  refine Gx.seq_reg [0, 1] (by kernel_rfl) ?_
  refine Gx.pure [0] [1] [(2, .slice none 0 0)] rfl (by kernel_rfl) ?_
  refine Gx.cons (Gx.op_new (.cells #[.int .i64 0, .int .i64 0] 25) rfl (by kernel_rfl) (by kernel_rfl) (fun k1 w1 l1 x1 b1 => ?_))
  have zw1 := x1.size
  have tb1 := b1.lt
  refine Gx.ops_end ?_
  refine wp_seq ?_
  refine Gx.seq_run [(11, .bool (decide (((s.size : Nat) : Int) > (3000 : Int)))), (10, .int .i64 ((s.size : Nat) : Int)), (9, .string s)] (by kernel_rfl) ?_
  refine Gx.cond (decide (((s.size : Nat) : Int) > (3000 : Int))) (by kernel_rfl) (fun h_c11 => ?_) (fun h_c11 => ?_)
  · skip
    refine Gx.seq_reg [0, 1, 2] (by kernel_rfl) ?_
    refine Gx.pure [0, 1] [2] [(2, .slice none 0 0), (12, .agg #[.int .i64 1, .int .i64 0])] rfl (by kernel_rfl) ?_
    refine Gx.cons (Gx.op_store rfl (by kernel_rfl) rfl 0 (.agg #[.int .i64 1, .int .i64 0]) (by kernel_rfl) (by kernel_rfl) b1 (by kernel_rfl) (by kernel_rfl) (by kernel_rfl) #[.int .i64 1, .int .i64 0] (by kernel_rfl) (fun w2 u1 b2 => ?_))
    have zw2 := u1.size
    refine Gx.ops_end ?_
    refine wp_ret ?_
    refine Gx.then_ret ?_
    refine Gx.ret (Gx.res_tc (v := .slice none 0 0) (u := .agg #[.int .i64 1, .int .i64 0]) rfl (by kernel_rfl) (by kernel_rfl) b2 (by kernel_rfl)) ?_
    have p_c11 := h_c11; try simp at p_c11
    have hr : lex s = ([], 1, 0) := by unfold lex; rw [if_pos (by omega)]
    rw [hr] at hK
    exact hK _ (((Gx.Ext.refl w).trans x1).upd1 u1 (by omega)) _ (World.ownsRow_nil _ _ _ _)
  refine wp_skip ?_
  refine Gx.then_normal ?_
  have p_c11 := h_c11; try simp at p_c11
  have hs : s.size ≤ 3000 := by omega
  refine Gx.seq_run [(4, .slice none 0 0)] (by kernel_rfl) ?_
  refine Gx.seq_run [(5, .int .i64 0)] (by kernel_rfl) ?_
  refine wp_block ?_
  refine Gx.loop (n' := 34) (d' := []) (fun mz l' w' => ∃ (i : Nat) (as_ : List Nx) (v : Value), l' = [(0, .string s), (3, .pointer (some ⟨k1, 0, none⟩)), (4, v), (5, .int .i64 ((i : Nat) : Int))] ∧ mz = s.size - i ∧ Gx.Ext w w' ∧ Gx.Has w' k1 (.cells #[.int .i64 0, .int .i64 0] 25) ∧ (i ≤ s.size) ∧ (w'.ownsRow (k1 + 1) 31 4 v as_.length (tokCells as_)) ∧ (toks s 0 = pre as_ (toks s i)) ∧ (as_.length ≤ i)) _ _ [(0, .string s), (3, .pointer (some ⟨k1, 0, none⟩)), (4, (.slice none 0 0)), (5, .int .i64 ((0 : Nat) : Int))] (Gx.forget [(0, .string s), (3, .pointer (some ⟨k1, 0, none⟩)), (4, (.slice none 0 0)), (5, .int .i64 ((0 : Nat) : Int))] (by kernel_rfl)) ⟨0, [], (.slice none 0 0), rfl, rfl, ((Gx.Ext.refl w).trans x1), b1, (by omega), (World.ownsRow_nil _ _ _ _), (pre_nil _ (toks_nil s 0)).symm, (by simp)⟩ (fun bb1 m1 ll1 w3 hI1 K1 hK1 => ?_)
  obtain ⟨i, as_, v, rfl, rfl, x2, b3, hi, hown, hTok, hlen⟩ := hI1
  have zw3 := x2.size
  have tb3 := b3.lt
  have hpr := next_prog (s := s) (i := i) hi
  refine wp_block ?_
  refine Gx.seq_reg [0, 1, 2, 3, 4, 5, 6, 7, 8, 9, 10, 11] (by kernel_rfl) ?_
  refine Gx.pure [0, 1] [2, 3, 4, 5, 6, 7, 8, 9, 10, 11] [(15, .int .i64 ((i : Nat) : Int)), (14, .string s)] rfl (by kernel_rfl) ?_
  refine Gx.cons (Gx.op_call rfl (by kernel_rfl) (by kernel_rfl) (fun R hR => rNext_c s i _ R hs (by omega) (fun w4 x3  => hR _ _ ?_)))
  have zw4 := x3.size
  refine Gx.pure [3, 4, 5, 6] [7, 8, 9, 10, 11] [(19, .agg #[.int .i64 (((next s i).fk : Nat) : Int), .int .i64 (((next s i).fa : Nat) : Int)]), (18, .int .i64 (((next s i).nx : Nat) : Int)), (17, .agg #[.int .i64 (((next s i).kind : Nat) : Int), .int .i64 (((next s i).at_ : Nat) : Int), .string ((next s i).text), .int .i64 (((next s i).n : Nat) : Int)]), (13, .tuple #[.agg #[.int .i64 (((next s i).kind : Nat) : Int), .int .i64 (((next s i).at_ : Nat) : Int), .string ((next s i).text), .int .i64 (((next s i).n : Nat) : Int)], .int .i64 (((next s i).nx : Nat) : Int), .agg #[.int .i64 (((next s i).fk : Nat) : Int), .int .i64 (((next s i).fa : Nat) : Int)]])] rfl (by kernel_rfl) ?_
  refine Gx.cons (Gx.op_new (.cells #[.int .i64 0, .int .i64 0, .string (⟨#[]⟩ : ByteArray), .int .i64 0] 31) rfl (by kernel_rfl) (by kernel_rfl) (fun k2 w5 l2 x4 b4 => ?_))
  have zw5 := x4.size
  have tb4 := b4.lt
  refine Gx.cons (Gx.op_new (.cells #[.int .i64 0, .int .i64 0] 25) rfl (by kernel_rfl) (by kernel_rfl) (fun k3 w6 l3 x5 b5 => ?_))
  have zw6 := x5.size
  have tb5 := b5.lt
  refine Gx.cons (Gx.op_store rfl (by kernel_rfl) rfl 0 (.agg #[.int .i64 (((next s i).kind : Nat) : Int), .int .i64 (((next s i).at_ : Nat) : Int), .string ((next s i).text), .int .i64 (((next s i).n : Nat) : Int)]) (by kernel_rfl) (by kernel_rfl) (b4.ext x5) (by kernel_rfl) (by kernel_rfl) (by kernel_rfl) #[.int .i64 (((next s i).kind : Nat) : Int), .int .i64 (((next s i).at_ : Nat) : Int), .string ((next s i).text), .int .i64 (((next s i).n : Nat) : Int)] (by kernel_rfl) (fun w7 u2 b6 => ?_))
  have zw7 := u2.size
  refine Gx.pure [10] [11] [(7, .int .i64 (((next s i).nx : Nat) : Int))] rfl (by kernel_rfl) ?_
  refine Gx.cons (Gx.op_store rfl (by kernel_rfl) rfl 0 (.agg #[.int .i64 (((next s i).fk : Nat) : Int), .int .i64 (((next s i).fa : Nat) : Int)]) (by kernel_rfl) (by kernel_rfl) (b5.upd1 u2 (by omega)) (by kernel_rfl) (by kernel_rfl) (by kernel_rfl) #[.int .i64 (((next s i).fk : Nat) : Int), .int .i64 (((next s i).fa : Nat) : Int)] (by kernel_rfl) (fun w8 u3 b7 => ?_))
  have zw8 := u3.size
  refine Gx.ops_end ?_
  refine wp_seq ?_
  refine Gx.seq_reg [0, 1, 2] (by kernel_rfl) ?_
  refine Gx.pure [0] [1, 2] [(20, .pointer (some ⟨k3, 0, none⟩))] rfl (by kernel_rfl) ?_
  refine Gx.cons (Gx.op_load rfl (by kernel_rfl) rfl 0 (.int .i64 (((next s i).fk : Nat) : Int)) (by kernel_rfl) b7 (by kernel_rfl) ?_)
  refine Gx.pure [2] [] [(22, .bool ((((next s i).fk : Nat) : Int) != (0 : Int)))] rfl (by kernel_rfl) ?_
  refine Gx.ops_end ?_
  refine Gx.cond ((((next s i).fk : Nat) : Int) != (0 : Int)) (by kernel_rfl) (fun h_c22 => ?_) (fun h_c22 => ?_)
  · skip
    refine wp_seq ?_
    refine Gx.draw (S := fun w' => Gx.Has w' k3 (.cells #[.int .i64 (((next s i).fk : Nat) : Int), .int .i64 (((next s i).fa : Nat) : Int)] 25)) (by kernel_rfl) (fun w9 x6 => ?_)
    have zw9 := x6.size
    refine Gx.any_take 0 (.agg #[.int .i64 (((next s i).fk : Nat) : Int), .int .i64 (((next s i).fa : Nat) : Int)]) rfl (by kernel_rfl) (by kernel_rfl) (by kernel_rfl) (fun _ _ _ h => h) (b7.ext x6) (by kernel_rfl) (fun _ hs => Gx.run_load rfl 0 (.agg #[.int .i64 (((next s i).fk : Nat) : Int), .int .i64 (((next s i).fa : Nat) : Int)]) (by kernel_rfl) hs (by kernel_rfl)) ?_
    refine Gx.any_take 1 (.slice none 0 0) rfl (by kernel_rfl) (by kernel_rfl) (by kernel_rfl) (fun _ _ _ h => h) (b7.ext x6) (by kernel_rfl) (fun _ _ => (by kernel_rfl)) ?_
    have p_c22 := h_c22; try simp at p_c22
    refine Gx.any_one 2 (by kernel_rfl) (Gx.op_store rfl (by kernel_rfl) rfl 0 (.agg #[.int .i64 (((next s i).fk : Nat) : Int), .int .i64 (((next s i).fa : Nat) : Int)]) (by kernel_rfl) (by kernel_rfl) ((((((b3.ext x3).ext x4).ext x5).upd1 u2 (by omega)).upd1 u3 (by omega)).ext x6) (by kernel_rfl) (by kernel_rfl) (by kernel_rfl) #[.int .i64 (((next s i).fk : Nat) : Int), .int .i64 (((next s i).fa : Nat) : Int)] (by kernel_rfl) (fun w10 u4 b8 => ⟨((b7.ext x6).upd1 u4 (by omega)), ?_⟩))
    have zw10 := u4.size
    refine Gx.any_done (by kernel_rfl) ?_
    refine Gx.then_normal ?_
    refine wp_ret ?_
    refine Gx.then_ret ?_
    refine Gx.block_ret ?_
    refine Gx.then_ret ?_
    refine Gx.block_ret ?_
    refine Gx.ret (Gx.res_tc (v := .slice none 0 0) (u := .agg #[.int .i64 (((next s i).fk : Nat) : Int), .int .i64 (((next s i).fa : Nat) : Int)]) rfl (by kernel_rfl) (by kernel_rfl) b8 (by kernel_rfl)) ?_
    have hr : lex s = ([], (next s i).fk, (next s i).fa) := by unfold lex; rw [if_neg (by omega), hTok, toks_fault (by omega)]; unfold pre; rw [if_neg (show ¬ (next s i).fk = 0 by omega)]
    rw [hr] at hK
    exact hK _ (((((((((Gx.Ext.refl w).trans x2).trans x3).trans x4).trans x5).upd1 u2 (by omega)).upd1 u3 (by omega)).trans x6).upd1 u4 (by omega)) _ (World.ownsRow_nil _ _ _ _)
  refine wp_skip ?_
  refine Gx.then_normal ?_
  refine Gx.seq_reg [0, 1, 2, 3, 4] (by kernel_rfl) ?_
  refine Gx.pure [0] [1, 2, 3, 4] [(24, v)] rfl (by kernel_rfl) ?_
  have p_c22 := h_c22; try simp at p_c22
  refine Gx.cons (Gx.op_load rfl (by kernel_rfl) rfl 0 (.agg #[.int .i64 (((next s i).kind : Nat) : Int), .int .i64 (((next s i).at_ : Nat) : Int), .string ((next s i).text), .int .i64 (((next s i).n : Nat) : Int)]) (by kernel_rfl) (b6.upd1 u3 (by omega)) (by kernel_rfl) ?_)
  refine Gx.cons (Gx.op_row (.cells #[.int .i64 (((next s i).kind : Nat) : Int), .int .i64 (((next s i).at_ : Nat) : Int), .string ((next s i).text), .int .i64 (((next s i).n : Nat) : Int)] 31) 1 1 rfl (by kernel_rfl) (by kernel_rfl) (fun k4 w11 l4 x7 b9 => ?_))
  have zw11 := x7.size
  have tb9 := b9.lt
  refine Gx.cons (Gx.op_append rfl (by kernel_rfl) rfl 31 4 40 (by kernel_rfl) (by kernel_rfl) (by kernel_rfl) (k1 + 1) (by kernel_rfl) (Gx.own_ext (Gx.own_upd1 (Gx.own_upd1 (Gx.own_ext (Gx.own_ext (Gx.own_ext hown x3) x4) x5) u2 (fun q e => by have := hown.lt q e; omega)) u3 (fun q e => by have := hown.lt q e; omega)) x7) 0 1 1 (by kernel_rfl) b9 [.int .i64 (((next s i).kind : Nat) : Int), .int .i64 (((next s i).at_ : Nat) : Int), .string ((next s i).text), .int .i64 (((next s i).n : Nat) : Int)] (by kernel_rfl) (by kernel_rfl) (by kernel_rfl) (by unfold maxLen; omega) (by omega) (by omega) (fun v1 w12 ow1 g1 nl1 => ?_))
  have zw12 := g1.size
  refine Gx.pure [4] [] [(4, v1)] rfl (by kernel_rfl) ?_
  refine Gx.ops_end ?_
  refine wp_seq ?_
  refine Gx.seq_reg [0, 1, 2] (by kernel_rfl) ?_
  refine Gx.pure [0] [1, 2] [(28, .pointer (some ⟨k2, 0, none⟩))] rfl (by kernel_rfl) ?_
  refine Gx.cons (Gx.op_load rfl (by kernel_rfl) rfl 0 (.int .i64 (((next s i).kind : Nat) : Int)) (by kernel_rfl) (((b6.upd1 u3 (by omega)).ext x7).upd g1 (fun e => by have := (hown).lt _ e.symm; omega)) (by kernel_rfl) ?_)
  refine Gx.pure [2] [] [(30, .bool ((((next s i).kind : Nat) : Int) == (0 : Int)))] rfl (by kernel_rfl) ?_
  refine Gx.ops_end ?_
  refine Gx.cond ((((next s i).kind : Nat) : Int) == (0 : Int)) (by kernel_rfl) (fun h_c30 => ?_) (fun h_c30 => ?_)
  · skip
    refine Gx.seq_reg [0, 1, 2, 3] (by kernel_rfl) ?_
    refine Gx.pure [0, 1, 2] [3] [(2, v1), (32, .agg #[.int .i64 0, .int .i64 0]), (31, v1)] rfl (by kernel_rfl) ?_
    have p_c30 := h_c30; try simp at p_c30
    refine Gx.cons (Gx.op_store rfl (by kernel_rfl) rfl 0 (.agg #[.int .i64 0, .int .i64 0]) (by kernel_rfl) (by kernel_rfl) (((((((b3.ext x3).ext x4).ext x5).upd1 u2 (by omega)).upd1 u3 (by omega)).ext x7).upd g1 (fun e => by have := (hown).lt _ e.symm; omega)) (by kernel_rfl) (by kernel_rfl) (by kernel_rfl) #[.int .i64 0, .int .i64 0] (by kernel_rfl) (fun w13 u5 b10 => ?_))
    have zw13 := u5.size
    refine Gx.ops_end ?_
    refine wp_ret ?_
    refine Gx.then_ret ?_
    refine Gx.block_ret ?_
    refine Gx.then_ret ?_
    refine Gx.block_ret ?_
    refine Gx.ret (Gx.res_tc (v := v1) (u := .agg #[.int .i64 0, .int .i64 0]) rfl (by kernel_rfl) (by kernel_rfl) b10 (by kernel_rfl)) ?_
    have hr : lex s = (as_ ++ [next s i], 0, 0) := by unfold lex; rw [if_neg (by omega), hTok, toks_end (by omega) (by omega)]; rfl
    rw [hr] at hK
    exact hK _ ((((((((((Gx.Ext.refl w).trans x2).trans x3).trans x4).trans x5).upd1 u2 (by omega)).upd1 u3 (by omega)).trans x7).upd g1 (fun j e => by have := (hown).lt j e; omega)).upd1 u5 (by omega)) _ (by rw [List.length_append, tokCells_snoc]; exact Gx.own_mono (Gx.own_upd1 ow1 u5 (fun q e => by have := ow1.lt q e; omega)) (by omega))
  refine wp_skip ?_
  refine Gx.then_normal ?_
  refine Gx.reg_run [(5, .int .i64 (((next s i).nx : Nat) : Int)), (33, .int .i64 (((next s i).nx : Nat) : Int))] (by kernel_rfl) ?_
  refine Gx.block_normal ?_
  refine Gx.then_normal ?_
  have p_c30 := h_c30; try simp at p_c30
  rw [Gx.forget [(0, .string s), (3, .pointer (some ⟨k1, 0, none⟩)), (4, v1), (5, .int .i64 (((next s i).nx : Nat) : Int))] (by kernel_rfl)]
  exact hK1 _ _ _ _ (by have := hpr (by omega) (by omega); omega) ⟨(next s i).nx, (as_ ++ [next s i]), v1, rfl, rfl, (((((((((Gx.Ext.refl w).trans x2).trans x3).trans x4).trans x5).upd1 u2 (by omega)).upd1 u3 (by omega)).trans x7).upd g1 (fun j e => by have := (hown).lt j e; omega)), (((((((b3.ext x3).ext x4).ext x5).upd1 u2 (by omega)).upd1 u3 (by omega)).ext x7).upd g1 (fun e => by have := (hown).lt _ e.symm; omega)), (by have := hpr (by omega) (by omega); omega), (by rw [List.length_append, tokCells_snoc]; exact ow1), (by rw [hTok, toks_go hi (by omega) (by omega), pre_add]), (by have := hpr (by omega) (by omega); rw [List.length_append]; show _ + 1 ≤ _; omega)⟩

end Go.Proofs.Ytiimlomgpmgecaa
