/- The walks of the encoders' functions, written by a program of ours (wip/gx/gx.py, wip/enc/encgen.py). -/
import Derived.Test.YtccjnoefjehmhaaRows
import Derived.Test.YtccjnoefjehmhaaGw
import Derived.Test.YtccjnoefjehmhaaEncPlain
namespace Go.Proofs.Ytccjnoefjehmhaa
open Go.RowKit Go.Enc
attribute [local irreducible] Go.wpOps Go.Code.wp Go.wpOp Go.wpAnyH Go.Calls
set_option maxHeartbeats 400000 in
set_option maxRecDepth 10000 in
theorem big_c (v : Int) (n : Nat) (w : World) (K : Ending → World → Prop) (hn : n ≤ 4096) (hK : ∀ w', Gx.Ext w w' → K (.returned (.string (bigB v n))) w') :
    Calls Try.prog 9 #[.int .i64 v, .int .i64 ((n : Nat) : Int)] w K := by
  refine Gx.enter 25 Try.func9 rfl rfl (Nat.le_of_ble_eq_true rfl) ?_
  refine Gx.seq_run [(4, .string (⟨#[]⟩ : ByteArray))] (by kernel_rfl) ?_
  refine Gx.seq_reg [0, 1, 2] (by kernel_rfl) ?_
  refine Gx.pure [0] [1, 2] [(7, .int .i64 ((n : Nat) : Int))] rfl (by kernel_rfl) ?_
  refine Gx.cons (Gx.op_make rfl (by kernel_rfl) rfl 5 1 (.int .u8 0) (by kernel_rfl) (by kernel_rfl) rfl .i64 .i64 n (by kernel_rfl) (by kernel_rfl) (by omega) (by omega) (fun k1 w1 cs1 l1 x1 hcz1 hcv1 b1 => ?_))
  have zw1 := x1.size
  have tb1 := b1.lt
  refine Gx.pure [2] [] [(5, .slice (some ⟨k1, 0, none⟩) n n)] rfl (by kernel_rfl) ?_
  refine Gx.ops_end ?_
  refine wp_seq ?_
  refine Gx.seq_reg [0, 1, 2] (by kernel_rfl) ?_
  refine Gx.pure [0] [1, 2] [(9, .int .i64 ((n : Nat) : Int))] rfl (by kernel_rfl) ?_
  refine Gx.pure_eq [1] [2] [(10, .int .i64 (IntKind.i64.wrap (((n : Nat) : Int) - (1 : Int))))] [(10, .int .i64 (((n : Nat) : Int) - 1))] rfl (by kernel_rfl) (Gx.eqI (IntWalk.i64_in _ (by omega))) ?_
  refine Gx.pure [2] [] [(6, .int .i64 (((n : Nat) : Int) - 1))] rfl (by kernel_rfl) ?_
  refine Gx.ops_end ?_
  refine wp_block ?_
  refine Gx.loop (n' := 25) (d' := []) (fun mz l' w' => ∃ (k : Nat) (u : Int) (cs : Array Value), l' = [(5, .slice (some ⟨k1, 0, none⟩) n n), (0, .int .i64 u), (6, .int .i64 (((k : Nat) : Int) - 1))] ∧ mz = 0 + k ∧ Gx.Ext w w' ∧ Gx.Has w' k1 (.cells cs 5) ∧ (k ≤ n) ∧ (u = v / 256 ^ (n - k)) ∧ (cs.size = n) ∧ (∀ p, k ≤ p → p < n → cs[p]? = some (.int .u8 ((byteI v (n - 1 - p) : Nat) : Int)))) _ _ [(5, .slice (some ⟨k1, 0, none⟩) n n), (0, .int .i64 v), (6, .int .i64 (((n : Nat) : Int) - 1))] (Gx.forget [(5, .slice (some ⟨k1, 0, none⟩) n n), (0, .int .i64 v), (6, .int .i64 (((n : Nat) : Int) - 1))] (by kernel_rfl)) ⟨n, v, cs1, rfl, rfl, ((Gx.Ext.refl w).trans x1), b1, (Nat.le_refl _), (by rw [Nat.sub_self]; exact (shift_zero v).symm), hcz1, (fun p h1 h2 => by omega)⟩ (fun bb1 m1 ll1 w2 hI1 K1 hK1 => ?_)
  obtain ⟨k, u, cs, rfl, rfl, x2, b2, hk, hu, hcs, hrow⟩ := hI1
  have zw2 := x2.size
  have tb2 := b2.lt
  rcases k with _ | k
  · skip
    rw [show (((0 : Nat) : Int) - 1) = (-1 : Int) from rfl]
    refine wp_seq ?_
    refine Gx.seq_run [(12, .bool false), (11, .int .i64 (-1))] (by kernel_rfl) ?_
    refine Gx.cond_f (by kernel_rfl) ?_
    refine wp_exit ?_
    refine Gx.then_exit ?_
    refine Gx.then_exit ?_
    refine Gx.block_exit ?_
    refine Gx.then_normal ?_
    refine Gx.seq_reg [0, 1, 2] (by kernel_rfl) ?_
    refine Gx.pure [0] [1, 2] [(23, .slice (some ⟨k1, 0, none⟩) n n)] rfl (by kernel_rfl) ?_
    refine Gx.cons (Gx.op_bstr rfl (by kernel_rfl) rfl 5 (by kernel_rfl) (by kernel_rfl) (by kernel_rfl) 0 n n (by kernel_rfl) b2 (bigL v n) (bigL_len v n) (fun j hj => by rw [Nat.zero_add, hrow j (by omega) hj, bigL_get v n j hj]) ?_)
    refine Gx.pure [2] [] [(4, .string (bigB v n))] rfl (by kernel_rfl) ?_
    refine Gx.ops_end ?_
    refine wp_ret ?_
    refine Gx.ret (v := .string (bigB v n)) (Gx.res1 rfl (by kernel_rfl)) ?_
    exact Gx.ret_as (v' := .string (bigB v n)) (by rfl) (hK _ ((Gx.Ext.refl w).trans x2))
  rw [show (((k + 1 : Nat) : Int) - 1) = ((k : Nat) : Int) by omega]
  refine wp_seq ?_
  refine Gx.seq_run [(12, .bool (decide (((k : Nat) : Int) ≥ (0 : Int)))), (11, .int .i64 ((k : Nat) : Int))] (by kernel_rfl) ?_
  refine Gx.cond (decide (((k : Nat) : Int) ≥ (0 : Int))) (by kernel_rfl) (fun h_c12 => ?_) (fun h_c12 => ?_)
  · skip
    refine wp_skip ?_
    refine Gx.then_normal ?_
    refine wp_seq ?_
    refine wp_block ?_
    refine Gx.seq_reg [0, 1, 2, 3, 4, 5, 6] (by kernel_rfl) ?_
    refine Gx.pure [0, 1, 2] [3, 4, 5, 6] [(17, .int .i64 u), (16, .int .i64 ((k : Nat) : Int)), (15, .slice (some ⟨k1, 0, none⟩) n n)] rfl (by kernel_rfl) ?_
    refine Gx.cons (Gx.op_and255 rfl (by kernel_rfl) rfl u (by kernel_rfl) (by kernel_rfl) ?_)
    have p_c12 := h_c12; try simp at p_c12
    refine Gx.pure_eq [4] [5, 6] [(19, .int .u8 (IntKind.u8.wrap (u % 256)))] [(19, .int .u8 ((byteI v (n - (k + 1)) : Nat) : Int))] rfl (by kernel_rfl) (Gx.eqI (by rw [IntWalk.u8_in _ (by omega), byteI_cast, ← hu])) ?_
    refine Gx.cons (Gx.op_indexAddr (bk := k1) rfl (by kernel_rfl) rfl 5 1 (by kernel_rfl) (by kernel_rfl) 0 n n (by kernel_rfl) .i64 k (by kernel_rfl) (by omega) ?_)
    refine Gx.cons (Gx.op_storeA rfl (by kernel_rfl) rfl (0 + k * 1) (.int .u8 ((byteI v (n - (k + 1)) : Nat) : Int)) (by kernel_rfl) (by kernel_rfl) b2 (by kernel_rfl) rfl rfl (by omega) (fun w3 u1 b3 => ?_))
    have zw3 := u1.size
    refine Gx.ops_end ?_
    refine Gx.reg [0, 1, 2] (by kernel_rfl) ?_
    refine Gx.pure [0] [1, 2] [(21, .int .i64 u)] rfl (by kernel_rfl) ?_
    refine Gx.cons (Gx.op_shr rfl (by kernel_rfl) rfl .i64 .u64 u 8 (by kernel_rfl) (by kernel_rfl) (by decide) (u / 2 ^ 8) rfl ?_)
    refine Gx.pure [2] [] [(0, .int .i64 (u / 2 ^ 8))] rfl (by kernel_rfl) ?_
    refine Gx.ops_nil ?_
    refine Gx.block_normal ?_
    refine Gx.then_normal ?_
    refine Gx.reg [0, 1, 2] (by kernel_rfl) ?_
    refine Gx.pure [0] [1, 2] [(13, .int .i64 ((k : Nat) : Int))] rfl (by kernel_rfl) ?_
    refine Gx.pure_eq [1] [2] [(14, .int .i64 (IntKind.i64.wrap (((k : Nat) : Int) - (1 : Int))))] [(14, .int .i64 (((k : Nat) : Int) - 1))] rfl (by kernel_rfl) (Gx.eqI (IntWalk.i64_in _ (by omega))) ?_
    refine Gx.pure [2] [] [(6, .int .i64 (((k : Nat) : Int) - 1))] rfl (by kernel_rfl) ?_
    refine Gx.ops_nil ?_
    refine Gx.then_normal ?_
    rw [Gx.forget [(5, .slice (some ⟨k1, 0, none⟩) n n), (0, .int .i64 (u / 2 ^ 8)), (6, .int .i64 (((k : Nat) : Int) - 1))] (by kernel_rfl)]
    exact hK1 _ _ _ _ (by omega) ⟨k, (u / 2 ^ 8), (cs.setIfInBounds (0 + k * 1) (.int .u8 ((byteI v (n - (k + 1)) : Nat) : Int))), rfl, rfl, (((Gx.Ext.refl w).trans x2).upd1 u1 (by omega)), b3, (by omega), (by rw [hu, shift_next, show n - (k + 1) + 1 = n - k by omega]), (by rw [Array.size_setIfInBounds]; exact hcs), (fun p h1 h2 => by rw [Array.getElem?_setIfInBounds]; rcases Nat.lt_or_ge k p with q | q; (rw [if_neg (by omega)]; exact hrow p (by omega) h2); (obtain rfl : p = k := by omega); rw [if_pos (by omega), if_pos (by omega), show n - 1 - p = n - (p + 1) by omega])⟩
  have p_c12 := h_c12; try simp at p_c12
  all_goals (exact absurd h_c12 (by simp))

end Go.Proofs.Ytccjnoefjehmhaa
