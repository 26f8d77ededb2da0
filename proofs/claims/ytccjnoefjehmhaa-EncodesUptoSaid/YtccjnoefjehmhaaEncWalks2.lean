/- The walks of the encoders' functions, written by a program of ours (wip/gx/gx.py, wip/enc/encgen.py). -/
import Derived.Test.YtccjnoefjehmhaaRows
import Derived.Test.YtccjnoefjehmhaaGw
import Derived.Test.YtccjnoefjehmhaaEncPlain
import Derived.Test.YtccjnoefjehmhaaEncWalks1
namespace Go.Proofs.Ytccjnoefjehmhaa
open Go.RowKit Go.Enc
attribute [local irreducible] Go.wpOps Go.Code.wp Go.wpOp Go.wpAnyH Go.Calls
set_option maxHeartbeats 400000 in
set_option maxRecDepth 10000 in
theorem number_c (B wb : Nat) (b : ByteArray) (bad : Bool) (n : Int) (sz : Nat) (w : World) (K : Ending → World → Prop) (hw : Wr 34 5 w B wb b bad) (hBw : B ≤ w.heap.size) (hbs : b.size ≤ 70368744177664) (hsz : sz = 1 ∨ sz = 2) (hn : -9223372036854775808 ≤ n ∧ n ≤ 9223372036854775807) (hK : ∀ w', Gx.Wx 5 B wb w w' → Wr 34 5 w' B wb (bif fitB n sz then b ++ bigB n sz else b) (bad || !fitB n sz) → K (.returned (.tuple #[])) w') :
    Calls Try.prog 6 #[.pointer (some ⟨wb, 0, none⟩), .int .i64 n, .int .i64 ((sz : Nat) : Int)] w K := by
  refine Gx.enter 39 Try.func6 rfl rfl (Nat.le_of_ble_eq_true rfl) ?_
  obtain ⟨v, hwb, hown, hB⟩ := hw
  refine wp_seq ?_
  refine Gx.cut (d' := []) (n' := 39) (fun l' w' => l' = [(0, .pointer (some ⟨wb, 0, none⟩)), (1, .int .i64 n), (2, .int .i64 ((sz : Nat) : Int)), (15, .bool ((decide (n < (0 : Int))) || (decide (n ≥ (256 ^ sz : Int)))))] ∧ w = w') (fun K1 hK1 => ?_) (fun bb1 ll1 w1 hI1 => ?_)
  · refine Gx.reg [0, 1, 2, 3, 4, 5, 6, 7, 8] (by kernel_rfl) ?_
    refine Gx.pure [0, 1, 2] [3, 4, 5, 6, 7, 8] [(9, .bool (decide (n < (0 : Int)))), (8, .bool (decide (n < (0 : Int)))), (7, .int .i64 n)] rfl (by kernel_rfl) ?_
    refine Gx.split (decide (n < (0 : Int))) (fun h_g9 => ?_) (fun h_g9 => ?_)
    · rw [h_g9]
      refine Gx.pure [3, 4, 5, 6, 7, 8] [] [(15, .bool true), (14, undef), (13, undef), (12, undef), (11, undef), (10, undef)] rfl (by kernel_rfl) ?_
      refine Gx.ops_end ?_
      rw [Gx.forget [(0, .pointer (some ⟨wb, 0, none⟩)), (1, .int .i64 n), (2, .int .i64 ((sz : Nat) : Int)), (15, .bool ((decide (n < (0 : Int))) || (decide (n ≥ (256 ^ sz : Int)))))] (by rw [h_g9]; try kernel_rfl)]
      exact hK1 _ _ _ ⟨rfl, rfl⟩
    rw [h_g9]
    refine Gx.pure [3, 4] [5, 6, 7, 8] [(11, .int .i64 ((sz : Nat) : Int)), (10, .int .i64 n)] rfl (by kernel_rfl) ?_
    have p_g9 := h_g9; try simp at p_g9
    refine Gx.pure_eq [5] [6, 7, 8] [(12, .int .i64 (IntKind.i64.wrap ((8 : Int) * ((sz : Nat) : Int))))] [(12, .int .i64 ((8 * sz : Nat) : Int))] rfl (by kernel_rfl) (Gx.eqI (Gx.i64n (by omega) (by omega))) ?_
    refine Gx.cons (Gx.op_shl rfl (by kernel_rfl) rfl .i64 .i64 (1 : Int) (8 * sz) (by kernel_rfl) (by kernel_rfl) (by show _ ≤ 64; omega) (256 ^ sz : Int) (by rcases hsz with rfl | rfl <;> decide) ?_)
    refine Gx.pure [7, 8] [] [(15, .bool (decide (n ≥ (256 ^ sz : Int)))), (14, .bool (decide (n ≥ (256 ^ sz : Int))))] rfl (by kernel_rfl) ?_
    refine Gx.ops_end ?_
    rw [Gx.forget [(0, .pointer (some ⟨wb, 0, none⟩)), (1, .int .i64 n), (2, .int .i64 ((sz : Nat) : Int)), (15, .bool ((decide (n < (0 : Int))) || (decide (n ≥ (256 ^ sz : Int)))))] (by rw [h_g9]; try kernel_rfl)]
    exact hK1 _ _ _ ⟨rfl, rfl⟩
  obtain ⟨rfl, rfl⟩ := hI1
  refine Gx.cond ((decide (n < (0 : Int))) || (decide (n ≥ (256 ^ sz : Int)))) (by kernel_rfl) (fun h_c15 => ?_) (fun h_c15 => ?_)
  · skip
    refine Gx.seq_reg [0, 1, 2, 3] (by kernel_rfl) ?_
    refine Gx.pure [0, 1, 2] [3] [(18, .pointer (some ⟨wb, 1, none⟩)), (17, .pointer (some ⟨wb, 0, none⟩)), (16, .pointer (some ⟨wb, 0, none⟩))] rfl (by kernel_rfl) ?_
    refine Gx.cons (Gx.op_store rfl (by kernel_rfl) rfl 1 (.bool true) (by kernel_rfl) (by kernel_rfl) hwb (by kernel_rfl) (by kernel_rfl) (by kernel_rfl) #[v, .bool true] (by kernel_rfl) (fun w2 u1 b1 => ?_))
    have zw2 := u1.size
    refine Gx.ops_end ?_
    refine wp_ret ?_
    refine Gx.then_ret ?_
    refine Gx.ret (Gx.res0 rfl) ?_
    have p_c15 := h_c15; try simp at p_c15
    have hf : fitB n sz = false := fit_no (by rcases hsz with rfl | rfl <;> simp at * <;> omega)
    rw [hf] at hK
    exact hK _ ((Gx.Wx.refl w hBw).upd u1 hB) ⟨_, by simpa using b1, (Gx.own_upd1M hown u1 (Gx.own_neM hown hwb (by decide))), hB⟩
  refine wp_skip ?_
  refine Gx.then_normal ?_
  refine Gx.seq_reg [0, 1, 2] (by kernel_rfl) ?_
  refine Gx.pure [0] [1, 2] [(19, .int .i64 ((sz : Nat) : Int))] rfl (by kernel_rfl) ?_
  have p_c15 := h_c15; try simp at p_c15
  refine Gx.pure_eq [1] [2] [(20, .int .i64 (IntKind.i64.wrap (((sz : Nat) : Int) - (1 : Int))))] [(20, .int .i64 (((sz : Nat) : Int) - 1))] rfl (by kernel_rfl) (Gx.eqI (IntWalk.i64_in _ (by omega))) ?_
  refine Gx.pure [2] [] [(6, .int .i64 (((sz : Nat) : Int) - 1))] rfl (by kernel_rfl) ?_
  refine Gx.ops_end ?_
  refine wp_block ?_
  refine Gx.loop (n' := 39) (d' := []) (fun mz l' w' => ∃ (k : Nat) (u : Value) (c : ByteArray), l' = [(0, .pointer (some ⟨wb, 0, none⟩)), (1, .int .i64 n), (6, .int .i64 (((k : Nat) : Int) - 1))] ∧ mz = 0 + k ∧ Gx.Wx 5 B wb w w' ∧ Gx.Has w' wb (.cells #[u, .bool bad] 34) ∧ (k ≤ sz) ∧ (Gx.ownsM w' B 5 u c.size (Lib.strCells c)) ∧ (c = b ++ ⟨((bigL n sz).take (sz - k)).toArray⟩) ∧ (c.size + k = b.size + sz)) _ _ [(0, .pointer (some ⟨wb, 0, none⟩)), (1, .int .i64 n), (6, .int .i64 (((sz : Nat) : Int) - 1))] (Gx.forget [(0, .pointer (some ⟨wb, 0, none⟩)), (1, .int .i64 n), (6, .int .i64 (((sz : Nat) : Int) - 1))] (by kernel_rfl)) ⟨sz, v, b, rfl, rfl, (Gx.Wx.refl w hBw), hwb, (Nat.le_refl _), hown, (num_zero b n sz), rfl⟩ (fun bb2 m1 ll2 w3 hI2 K2 hK2 => ?_)
  obtain ⟨k, u, c, rfl, rfl, x1, b2, hk, hown', hc, hcz⟩ := hI2
  have zw3 := x1.size
  have tb2 := b2.lt
  rcases k with _ | k
  · skip
    rw [show (((0 : Nat) : Int) - 1) = (-1 : Int) from rfl]
    refine wp_seq ?_
    refine Gx.seq_run [(22, .bool false), (21, .int .i64 (-1))] (by kernel_rfl) ?_
    refine Gx.cond_f (by kernel_rfl) ?_
    refine wp_exit ?_
    refine Gx.then_exit ?_
    refine Gx.then_exit ?_
    refine Gx.block_exit ?_
    refine Gx.ret_n (Gx.res0 rfl) ?_
    have hf : fitB n sz = true := fit_yes (by omega) (by rcases hsz with rfl | rfl <;> simp at * <;> omega)
    rw [hf, cond_true, ← num_done hc] at hK
    exact hK _ ((Gx.Wx.refl w hBw).trans x1) ⟨_, by simpa using b2, hown', hB⟩
  rw [show (((k + 1 : Nat) : Int) - 1) = ((k : Nat) : Int) by omega]
  refine wp_seq ?_
  refine Gx.seq_run [(22, .bool (decide (((k : Nat) : Int) ≥ (0 : Int)))), (21, .int .i64 ((k : Nat) : Int))] (by kernel_rfl) ?_
  refine Gx.cond (decide (((k : Nat) : Int) ≥ (0 : Int))) (by kernel_rfl) (fun h_c22 => ?_) (fun h_c22 => ?_)
  · skip
    refine wp_skip ?_
    refine Gx.then_normal ?_
    refine wp_seq ?_
    refine wp_block ?_
    refine Gx.drawE (S := fun w' => Gx.Has w' wb (.cells #[u, .bool bad] 34)) [14] (by kernel_rfl) (fun w4 x2 => ?_)
    have zw4 := x2.size
    refine Gx.anyE_take 0 (.pointer (some ⟨wb, 0, none⟩)) (.pointer (some ⟨wb, 0, none⟩)) rfl rfl (by kernel_rfl) (by kernel_rfl) (by kernel_rfl) (by kernel_rfl) (fun _ _ _ h => h) (fun _ => (b2.ext x2)) (by kernel_rfl) (fun _ => (by kernel_rfl)) ?_
    refine Gx.anyE_take 1 (.pointer (some ⟨wb, 0, none⟩)) (.pointer (some ⟨wb, 0, none⟩)) rfl rfl (by kernel_rfl) (by kernel_rfl) (by kernel_rfl) (by kernel_rfl) (fun _ _ _ h => h) (fun _ => (b2.ext x2)) (by kernel_rfl) (fun _ => (by kernel_rfl)) ?_
    refine Gx.anyE_take 2 (.pointer (some ⟨wb, 0, none⟩)) (.pointer (some ⟨wb, 0, none⟩)) rfl rfl (by kernel_rfl) (by kernel_rfl) (by kernel_rfl) (by kernel_rfl) (fun _ _ _ h => h) (fun _ => (b2.ext x2)) (by kernel_rfl) (fun _ => (by kernel_rfl)) ?_
    refine Gx.anyE_take 3 (.pointer (some ⟨wb, 0, none⟩)) (.pointer (some ⟨wb, 0, none⟩)) rfl rfl (by kernel_rfl) (by kernel_rfl) (by kernel_rfl) (by kernel_rfl) (fun _ _ _ h => h) (fun _ => (b2.ext x2)) (by kernel_rfl) (fun _ => (by kernel_rfl)) ?_
    refine Gx.anyE_takeS 4 [11, 12, 13, 14] (u) (u) rfl rfl (by kernel_rfl) (by kernel_rfl) (by kernel_rfl) (by kernel_rfl) (by kernel_rfl) (fun _ _ _ h => h) (b2.ext x2) (by kernel_rfl) (fun _ hs => Gx.run_load rfl 0 (u) (by kernel_rfl) hs (by kernel_rfl)) ?_
    refine Gx.anyE_take 5 (.int .i64 n) (.int .i64 n) rfl rfl (by kernel_rfl) (by kernel_rfl) (by kernel_rfl) (by kernel_rfl) (fun _ _ _ h => h) (fun _ => (b2.ext x2)) (by kernel_rfl) (fun _ => (by kernel_rfl)) ?_
    refine Gx.anyE_take 6 (.int .i64 ((k : Nat) : Int)) (.int .i64 ((k : Nat) : Int)) rfl rfl (by kernel_rfl) (by kernel_rfl) (by kernel_rfl) (by kernel_rfl) (fun _ _ _ h => h) (fun _ => (b2.ext x2)) (by kernel_rfl) (fun _ => (by kernel_rfl)) ?_
    have p_c22 := h_c22; try simp at p_c22
    refine Gx.anyE_take 7 (.int .i64 (IntKind.i64.wrap ((8 : Int) * ((k : Nat) : Int)))) (.int .i64 ((8 * k : Nat) : Int)) (congrArg (Value.int .i64) (Gx.i64n (by omega) (by omega))) rfl (by kernel_rfl) (by kernel_rfl) (by kernel_rfl) (by kernel_rfl) (fun _ _ _ h => h) (fun _ => (b2.ext x2)) (by kernel_rfl) (fun _ => (by kernel_rfl)) ?_
    refine Gx.anyE_take 8 (.int .i64 (n / 2 ^ (8 * k))) (.int .i64 (n / 2 ^ (8 * k))) rfl rfl (by kernel_rfl) (by kernel_rfl) (by kernel_rfl) (by kernel_rfl) (fun _ _ _ h => h) (fun _ => (b2.ext x2)) (by kernel_rfl) (fun _ => Gx.run_shr rfl .i64 .i64 n (8 * k) (by kernel_rfl) (by kernel_rfl) (by show 8 * k ≤ 64; omega) _ rfl) ?_
    refine Gx.anyE_take 9 (.int .u8 (IntKind.u8.wrap (n / 2 ^ (8 * k)))) (.int .u8 ((byteI n k : Nat) : Int)) (congrArg (Value.int .u8) (by rw [IntKind.wrap_u8, pow8, byteI_cast])) rfl (by kernel_rfl) (by kernel_rfl) (by kernel_rfl) (by kernel_rfl) (fun _ _ _ h => h) (fun _ => (b2.ext x2)) (by kernel_rfl) (fun _ => (by kernel_rfl)) ?_
    refine Gx.anyE_one 10 (by kernel_rfl) (Gx.op_row (.cells #[.int .u8 ((byteI n k : Nat) : Int)] 5) 1 1 rfl (by kernel_rfl) (by kernel_rfl) (fun k1 w5 l1 x3 b3 => ⟨(fun _ => ((b2.ext x2).ext x3)), ?_⟩))
    have zw5 := x3.size
    have tb3 := b3.lt
    refine Gx.anyE_one 11 (by kernel_rfl) (Gx.op_append1M rfl (by kernel_rfl) rfl 5 (by kernel_rfl) (by kernel_rfl) (B) (by kernel_rfl) (Gx.own_extM (Gx.own_extM hown' x2) x3) 1 (by kernel_rfl) (.int .u8 ((byteI n k : Nat) : Int)) b3 rfl (by omega) (by omega) (fun v1 w6 ow1 g1 => ⟨(fun _ => (((b2.ext x2).ext x3).upd g1 (fun e => Gx.own_neM (Gx.own_extM (Gx.own_extM hown' x2) x3) ((b2.ext x2).ext x3) (by decide) _ e.symm rfl))), ?_⟩))
    have zw6 := g1.size
    refine Gx.anyE_take 12 (.pointer (some ⟨wb, 0, none⟩)) (.pointer (some ⟨wb, 0, none⟩)) rfl rfl (by kernel_rfl) (by kernel_rfl) (by kernel_rfl) (by kernel_rfl) (fun _ _ _ h => h) (fun _ => (((b2.ext x2).ext x3).upd g1 (fun e => Gx.own_neM (Gx.own_extM (Gx.own_extM hown' x2) x3) ((b2.ext x2).ext x3) (by decide) _ e.symm rfl))) (by kernel_rfl) (fun _ => (by kernel_rfl)) ?_
    refine Gx.anyE_take 13 (.pointer (some ⟨wb, 0, none⟩)) (.pointer (some ⟨wb, 0, none⟩)) rfl rfl (by kernel_rfl) (by kernel_rfl) (by kernel_rfl) (by kernel_rfl) (fun _ _ _ h => h) (fun _ => (((b2.ext x2).ext x3).upd g1 (fun e => Gx.own_neM (Gx.own_extM (Gx.own_extM hown' x2) x3) ((b2.ext x2).ext x3) (by decide) _ e.symm rfl))) (by kernel_rfl) (fun _ => (by kernel_rfl)) ?_
    refine Gx.anyE_one 14 (by kernel_rfl) (Gx.op_storeO rfl (by kernel_rfl) rfl 0 (v1) (by kernel_rfl) (by kernel_rfl) (((b2.ext x2).ext x3).upd g1 (fun e => Gx.own_neM (Gx.own_extM (Gx.own_extM hown' x2) x3) ((b2.ext x2).ext x3) (by decide) _ e.symm rfl)) (by kernel_rfl) (Gx.own_cellsM ow1) (by kernel_rfl) #[v1, .bool bad] (by kernel_rfl) (fun w7 u2 b4 => ⟨(Gx.not_clear (by kernel_rfl)), ?_⟩))
    have zw7 := u2.size
    refine Gx.anyE_done (by kernel_rfl) ?_ _
    refine Gx.block_normal ?_
    refine Gx.then_normal ?_
    refine Gx.reg [0, 1, 2] (by kernel_rfl) ?_
    refine Gx.pure [0] [1, 2] [(23, .int .i64 ((k : Nat) : Int))] rfl (by kernel_rfl) ?_
    refine Gx.pure_eq [1] [2] [(24, .int .i64 (IntKind.i64.wrap (((k : Nat) : Int) - (1 : Int))))] [(24, .int .i64 (((k : Nat) : Int) - 1))] rfl (by kernel_rfl) (Gx.eqI (IntWalk.i64_in _ (by omega))) ?_
    refine Gx.pure [2] [] [(6, .int .i64 (((k : Nat) : Int) - 1))] rfl (by kernel_rfl) ?_
    refine Gx.ops_nil ?_
    refine Gx.then_normal ?_
    rw [Gx.forget [(0, .pointer (some ⟨wb, 0, none⟩)), (1, .int .i64 n), (6, .int .i64 (((k : Nat) : Int) - 1))] (by kernel_rfl)]
    exact hK2 _ _ _ _ (by omega) ⟨k, v1, (c ++ ⟨#[UInt8.ofNat (byteI n k)]⟩), rfl, rfl, ((((((Gx.Wx.refl w hBw).trans x1).ext x2).ext x3).appM g1 (Gx.own_extM (Gx.own_extM hown' x2) x3)).upd u2 hB), b4, (by omega), (by rw [ByteArray.size_append, strCells_append, strCells_one _ (byteI_lt n k)]; exact (Gx.own_upd1M ow1 u2 (Gx.own_neM ow1 (((b2.ext x2).ext x3).upd g1 (fun e => Gx.own_neM (Gx.own_extM (Gx.own_extM hown' x2) x3) ((b2.ext x2).ext x3) (by decide) _ e.symm rfl)) (by decide)))), (num_step (by omega) hc), (by rw [ByteArray.size_append]; show c.size + 1 + k = _; omega)⟩
  have p_c22 := h_c22; try simp at p_c22
  all_goals (exact absurd h_c22 (by simp))

end Go.Proofs.Ytccjnoefjehmhaa
