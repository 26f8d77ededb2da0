/- The walks of the encoders' functions, written by a program of ours (wip/gx/gx.py, wip/enc/encgen.py). -/
import Derived.Test.YtccjnoefjehmhaaRows
import Derived.Test.YtccjnoefjehmhaaGw
import Derived.Test.YtccjnoefjehmhaaEncPlain
import Derived.Test.YtccjnoefjehmhaaEncWalks1
import Derived.Test.YtccjnoefjehmhaaEncWalks2
import Derived.Test.YtccjnoefjehmhaaEncWalks3
namespace Go.Proofs.Ytccjnoefjehmhaa
open Go.RowKit Go.Enc
attribute [local irreducible] Go.wpOps Go.Code.wp Go.wpOp Go.wpAnyH Go.Calls
set_option maxHeartbeats 400000 in
set_option maxRecDepth 10000 in
theorem ins_8 (B wb : Nat) (p : List Ch) (x : InsP) (w : World) (K : Ending → World → Prop) (hw : Wr 34 5 w B wb (cat p) (bd p)) (hBw : B ≤ w.heap.size) (hbs : (cat p).size ≤ 70368744177000) (hf : form x.op = 8) (hx : I64 x.op ∧ I64 x.a ∧ I64 x.b ∧ I64 x.n) (hK : ∀ w' p', p' = p ++ insC x → Gx.Wx 5 B wb w w' → Wr 34 5 w' B wb (cat p') (bd p') → (cat p').size ≤ (cat p).size + 9 → K (.returned (.tuple #[])) w') :
    Calls Try.prog 8 #[.pointer (some ⟨wb, 0, none⟩), .agg #[.int .i64 x.op, .int .i64 x.a, .int .i64 x.b, .int .i64 x.n]] w K := by
  refine Gx.enter 89 Try.func8 rfl rfl (Nat.le_of_ble_eq_true rfl) ?_
  obtain ⟨v, hwb, hown, hB⟩ := hw
  have thwb := hwb.lt
  refine Gx.seq_reg [0] (by kernel_rfl) ?_
  refine Gx.cons (Gx.op_new (.cells #[.int .i64 x.op, .int .i64 x.a, .int .i64 x.b, .int .i64 x.n] 46) rfl (by kernel_rfl) (by kernel_rfl) (fun k1 w1 l1 x1 b1 => ?_))
  have zw1 := x1.size
  have tb1 := b1.lt
  refine Gx.ops_end ?_
  refine wp_seq ?_
  refine Gx.cut (d' := []) (n' := 89) (fun l' w' => l' = [(0, .pointer (some ⟨wb, 0, none⟩)), (3, .pointer (some ⟨k1, 0, none⟩)), (17, .bool ((decide (x.op < (0 : Int))) || (decide (x.op ≥ (23 : Int)))))] ∧ w1 = w') (fun K1 hK1 => ?_) (fun bb1 ll1 w2 hI1 => ?_)
  · refine Gx.reg [0, 1, 2, 3, 4, 5, 6, 7] (by kernel_rfl) ?_
    refine Gx.pure [0] [1, 2, 3, 4, 5, 6, 7] [(10, .pointer (some ⟨k1, 0, none⟩))] rfl (by kernel_rfl) ?_
    refine Gx.cons (Gx.op_load rfl (by kernel_rfl) rfl 0 (.int .i64 x.op) (by kernel_rfl) b1 (by kernel_rfl) ?_)
    refine Gx.pure [2, 3] [4, 5, 6, 7] [(13, .bool (decide (x.op < (0 : Int)))), (12, .bool (decide (x.op < (0 : Int))))] rfl (by kernel_rfl) ?_
    refine Gx.split (decide (x.op < (0 : Int))) (fun h_g13 => ?_) (fun h_g13 => ?_)
    · rw [h_g13]
      refine Gx.pure [4, 5, 6, 7] [] [(17, .bool true), (16, undef), (15, undef), (14, undef)] rfl (by kernel_rfl) ?_
      refine Gx.ops_end ?_
      rw [Gx.forget [(0, .pointer (some ⟨wb, 0, none⟩)), (3, .pointer (some ⟨k1, 0, none⟩)), (17, .bool ((decide (x.op < (0 : Int))) || (decide (x.op ≥ (23 : Int)))))] (by rw [h_g13]; try kernel_rfl)]
      exact hK1 _ _ _ ⟨rfl, rfl⟩
    rw [h_g13]
    refine Gx.pure [4] [5, 6, 7] [(14, .pointer (some ⟨k1, 0, none⟩))] rfl (by kernel_rfl) ?_
    refine Gx.cons (Gx.op_load rfl (by kernel_rfl) rfl 0 (.int .i64 x.op) (by kernel_rfl) b1 (by kernel_rfl) ?_)
    refine Gx.pure [6, 7] [] [(17, .bool (decide (x.op ≥ (23 : Int)))), (16, .bool (decide (x.op ≥ (23 : Int))))] rfl (by kernel_rfl) ?_
    refine Gx.ops_end ?_
    rw [Gx.forget [(0, .pointer (some ⟨wb, 0, none⟩)), (3, .pointer (some ⟨k1, 0, none⟩)), (17, .bool ((decide (x.op < (0 : Int))) || (decide (x.op ≥ (23 : Int)))))] (by rw [h_g13]; try kernel_rfl)]
    exact hK1 _ _ _ ⟨rfl, rfl⟩
  obtain ⟨rfl, rfl⟩ := hI1
  refine Gx.cond ((decide (x.op < (0 : Int))) || (decide (x.op ≥ (23 : Int)))) (by kernel_rfl) (fun h_c17 => ?_) (fun h_c17 => ?_)
  · skip
    refine Gx.seq_reg [0, 1, 2, 3] (by kernel_rfl) ?_
    refine Gx.pure [0, 1, 2] [3] [(20, .pointer (some ⟨wb, 1, none⟩)), (19, .pointer (some ⟨wb, 0, none⟩)), (18, .pointer (some ⟨wb, 0, none⟩))] rfl (by kernel_rfl) ?_
    refine Gx.cons (Gx.op_store rfl (by kernel_rfl) rfl 1 (.bool true) (by kernel_rfl) (by kernel_rfl) (hwb.ext x1) (by kernel_rfl) (by kernel_rfl) (by kernel_rfl) #[v, .bool true] (by kernel_rfl) (fun w3 u1 b2 => ?_))
    have zw3 := u1.size
    refine Gx.ops_end ?_
    refine wp_ret ?_
    refine Gx.then_ret ?_
    refine Gx.ret (Gx.res0 rfl) ?_
    have p_c17 := h_c17; try simp at p_c17
    obtain ⟨p1, hp1⟩ : ∃ q, q = p ++ [none] := ⟨_, rfl⟩
    have b3 : Gx.Has w3 wb (.cells #[v, .bool (bd p1)] 34) := by rw [hp1, bd_snoc, Option.isNone_none, Bool.or_true]; exact b2
    have ow1 : Gx.ownsM w3 B 5 v (cat p1).size (Lib.strCells (cat p1)) := by rw [hp1, cat_snoc]; show Gx.ownsM _ _ 5 _ (cat p ++ e0).size (Lib.strCells (cat p ++ e0)); rw [app_e0]; exact (Gx.own_upd1M (Gx.own_extM hown x1) u1 (Gx.own_neM (Gx.own_extM hown x1) (hwb.ext x1) (by decide)))
    have hz1 : (cat p1).size = (cat p).size := by rw [hp1, cat_snoc]; show (cat p ++ e0).size = _; rw [app_e0]
    exact hK _ p1 (by rw [hp1]; rw [insC, if_pos (by simpa using h_c17)]) (((Gx.Wx.refl w hBw).ext x1).upd u1 hB) ⟨_, b3, ow1, hB⟩ (by omega)
  refine wp_skip ?_
  refine Gx.then_normal ?_
  refine Gx.seq_reg [0, 1, 2, 3] (by kernel_rfl) ?_
  refine Gx.pure [0, 1] [2, 3] [(22, .pointer (some ⟨k1, 0, none⟩)), (21, .pointer (some ⟨wb, 0, none⟩))] rfl (by kernel_rfl) ?_
  refine Gx.cons (Gx.op_load rfl (by kernel_rfl) rfl 0 (.int .i64 x.op) (by kernel_rfl) b1 (by kernel_rfl) ?_)
  have p_c17 := h_c17; try simp at p_c17
  refine Gx.cons (Gx.op_call rfl (by kernel_rfl) (by kernel_rfl) (fun R hR => number_p B wb p x.op 1 _ R ⟨_, (hwb.ext x1), (Gx.own_extM hown x1), hB⟩ (by omega) (by omega) (by first | exact .inl rfl | exact .inr rfl) (by unfold I64 at *; omega) (fun w4 p2 hp2 x2 hw1 hz2 => hR _ _ ?_)))
  have zw4 := x2.size
  obtain ⟨v1, b4, ow2, _⟩ := hw1
  have tb4 := b4.lt
  refine Gx.ops_end ?_
  refine wp_seq ?_
  refine Gx.draw (S := fun w' => Gx.Has w' k1 (.cells #[.int .i64 x.op, .int .i64 x.a, .int .i64 x.b, .int .i64 x.n] 46)) (by kernel_rfl) (fun w5 x3 => ?_)
  have zw5 := x3.size
  refine Gx.any_take 0 (.pointer (some ⟨k1, 1, none⟩)) rfl (by kernel_rfl) (by kernel_rfl) (by kernel_rfl) (fun _ _ _ h => h) ((x2.has b1 (by omega) (by decide)).ext x3) (by kernel_rfl) (fun _ _ => (by kernel_rfl)) ?_
  refine Gx.any_take 1 (.int .i64 x.a) rfl (by kernel_rfl) (by kernel_rfl) (by kernel_rfl) (fun _ _ _ h => h) ((x2.has b1 (by omega) (by decide)).ext x3) (by kernel_rfl) (fun _ hs => Gx.run_load rfl 1 (.int .i64 x.a) (by kernel_rfl) hs (by kernel_rfl)) ?_
  refine Gx.any_take 2 (.pointer (some ⟨k1, 2, none⟩)) rfl (by kernel_rfl) (by kernel_rfl) (by kernel_rfl) (fun _ _ _ h => h) ((x2.has b1 (by omega) (by decide)).ext x3) (by kernel_rfl) (fun _ _ => (by kernel_rfl)) ?_
  refine Gx.any_take 3 (.int .i64 x.b) rfl (by kernel_rfl) (by kernel_rfl) (by kernel_rfl) (fun _ _ _ h => h) ((x2.has b1 (by omega) (by decide)).ext x3) (by kernel_rfl) (fun _ hs => Gx.run_load rfl 2 (.int .i64 x.b) (by kernel_rfl) hs (by kernel_rfl)) ?_
  refine Gx.any_take 4 (.pointer (some ⟨k1, 3, none⟩)) rfl (by kernel_rfl) (by kernel_rfl) (by kernel_rfl) (fun _ _ _ h => h) ((x2.has b1 (by omega) (by decide)).ext x3) (by kernel_rfl) (fun _ _ => (by kernel_rfl)) ?_
  refine Gx.any_take 5 (.int .i64 x.n) rfl (by kernel_rfl) (by kernel_rfl) (by kernel_rfl) (fun _ _ _ h => h) ((x2.has b1 (by omega) (by decide)).ext x3) (by kernel_rfl) (fun _ hs => Gx.run_load rfl 3 (.int .i64 x.n) (by kernel_rfl) hs (by kernel_rfl)) ?_
  refine Gx.any_take 6 (.int .i64 x.a) rfl (by kernel_rfl) (by kernel_rfl) (by kernel_rfl) (fun _ _ _ h => h) ((x2.has b1 (by omega) (by decide)).ext x3) (by kernel_rfl) (fun _ _ => (by kernel_rfl)) ?_
  refine Gx.any_take 7 (.int .i64 x.b) rfl (by kernel_rfl) (by kernel_rfl) (by kernel_rfl) (fun _ _ _ h => h) ((x2.has b1 (by omega) (by decide)).ext x3) (by kernel_rfl) (fun _ _ => (by kernel_rfl)) ?_
  refine Gx.any_take 8 (.int .i64 x.n) rfl (by kernel_rfl) (by kernel_rfl) (by kernel_rfl) (fun _ _ _ h => h) ((x2.has b1 (by omega) (by decide)).ext x3) (by kernel_rfl) (fun _ _ => (by kernel_rfl)) ?_
  refine Gx.any_done (by kernel_rfl) ?_
  refine Gx.then_normal ?_
  refine wp_seq ?_
  refine Gx.seq_reg [0, 1, 2, 3] (by kernel_rfl) ?_
  refine Gx.pure [0] [1, 2, 3] [(31, .pointer (some ⟨k1, 0, none⟩))] rfl (by kernel_rfl) ?_
  refine Gx.cons (Gx.op_load rfl (by kernel_rfl) rfl 0 (.int .i64 x.op) (by kernel_rfl) ((x2.has b1 (by omega) (by decide)).ext x3) (by kernel_rfl) ?_)
  refine Gx.cons (Gx.op_call rfl (by kernel_rfl) (by kernel_rfl) (fun R hR => operands_8 x.op _ R hf (hR _ _ ?_)))
  refine Gx.cons (Gx.op_new (.stringIter (⟨#[78]⟩ : ByteArray) 0) rfl (by kernel_rfl) (by kernel_rfl) (fun k2 w6 l2 x4 b5 => ?_))
  have zw6 := x4.size
  have tb5 := b5.lt
  refine Gx.ops_end ?_
  refine wp_block ?_
  refine wp_loop_rounds 3 ?_
  refine Gx.rounds_step ?_
  refine Gx.seq_reg [0, 1] (by kernel_rfl) ?_
  refine Gx.cons (Gx.op_next_as rfl (by kernel_rfl) rfl (⟨#[78]⟩ : ByteArray) 0 (by kernel_rfl) b5 (by decide) 78 1 (by decide +kernel) (fun w7 u2 b6 => ?_))
  have zw7 := u2.size
  refine Gx.pure [1] [] [(36, .bool true)] rfl (by kernel_rfl) ?_
  refine Gx.ops_end ?_
  refine wp_seq ?_
  refine Gx.cond_t (by kernel_rfl) ?_
  refine wp_skip ?_
  refine Gx.then_normal ?_
  refine wp_block ?_
  refine Gx.seq_run [(8, .int .i32 78), (37, .int .i32 78)] (by kernel_rfl) ?_
  refine Gx.seq_run [(38, .int .i32 78)] (by kernel_rfl) ?_
  refine wp_block ?_
  refine Gx.seq_run [(39, .bool true), (40, .bool true)] (by kernel_rfl) ?_
  refine Gx.cond_t (by kernel_rfl) ?_
  refine wp_seq ?_
  refine Gx.seq_run [(9, .int .i64 7)] (by kernel_rfl) ?_
  refine wp_block ?_
  refine Gx.loop (n' := 89) (d' := []) (fun mz l' w' => ∃ (k : Nat) (u : Value) (c : ByteArray), l' = [(0, .pointer (some ⟨wb, 0, none⟩)), (4, .int .i64 x.a), (5, .int .i64 x.b), (6, .int .i64 x.n), (34, .pointer (some ⟨k2, 0, none⟩)), (9, .int .i64 (((k : Nat) : Int) - 1))] ∧ mz = 0 + k ∧ Gx.Wx 5 B wb w w' ∧ Gx.Has w' wb (.cells #[u, .bool (bd p2)] 34) ∧ Gx.Has w' k1 (.cells #[.int .i64 x.op, .int .i64 x.a, .int .i64 x.b, .int .i64 x.n] 46) ∧ Gx.Has w' k2 (.stringIter (⟨#[78]⟩ : ByteArray) 1) ∧ (k ≤ 8) ∧ (Gx.ownsM w' B 5 u c.size (Lib.strCells c)) ∧ (c = cat p2 ++ ⟨((bigL x.n 8).take (8 - k)).toArray⟩) ∧ (c.size + k = (cat p2).size + 8)) _ _ [(0, .pointer (some ⟨wb, 0, none⟩)), (4, .int .i64 x.a), (5, .int .i64 x.b), (6, .int .i64 x.n), (34, .pointer (some ⟨k2, 0, none⟩)), (9, .int .i64 (((8 : Nat) : Int) - 1))] (Gx.forget [(0, .pointer (some ⟨wb, 0, none⟩)), (4, .int .i64 x.a), (5, .int .i64 x.b), (6, .int .i64 x.n), (34, .pointer (some ⟨k2, 0, none⟩)), (9, .int .i64 (((8 : Nat) : Int) - 1))] (by kernel_rfl)) ⟨8, v1, (cat p2), rfl, rfl, ((((((Gx.Wx.refl w hBw).ext x1).trans x2).ext x3).ext x4).upd_new u2 (by omega)), (((b4.ext x3).ext x4).upd1 u2 (by omega)), ((((x2.has b1 (by omega) (by decide)).ext x3).ext x4).upd1 u2 (by omega)), b6, (Nat.le_refl _), (Gx.own_upd1M (Gx.own_extM (Gx.own_extM ow2 x3) x4) u2 (Gx.own_neMO (Gx.own_extM (Gx.own_extM ow2 x3) x4) b5 (fun _ _ q => by cases q))), (num_zero (cat p2) x.n 8), rfl⟩ (fun bb2 m1 ll2 w8 hI2 K2 hK2 => ?_)
  obtain ⟨k, u, c, rfl, rfl, x5, b7, b8, b9, hk, hown', hc, hcz⟩ := hI2
  have zw8 := x5.size
  have tb7 := b7.lt
  have tb8 := b8.lt
  have tb9 := b9.lt
  rcases k with _ | k
  · skip
    rw [show (((0 : Nat) : Int) - 1) = (-1 : Int) from rfl]
    refine wp_seq ?_
    refine Gx.seq_run [(42, .bool false), (41, .int .i64 (-1))] (by kernel_rfl) ?_
    refine Gx.cond_f (by kernel_rfl) ?_
    refine wp_exit ?_
    refine Gx.then_exit ?_
    refine Gx.then_exit ?_
    refine Gx.block_exit ?_
    refine Gx.then_normal ?_
    have hc' := num_done hc
    subst hc'
    obtain ⟨p3, hp3⟩ : ∃ q, q = p2 ++ [some (bigB x.n 8)] := ⟨_, rfl⟩
    have b10 : Gx.Has w8 wb (.cells #[u, .bool (bd p3)] 34) := by rw [hp3, bd_snoc]; simpa using b7
    have ow3 : Gx.ownsM w8 B 5 u (cat p3).size (Lib.strCells (cat p3)) := by rw [hp3, cat_snoc]; show Gx.ownsM _ _ 5 _ (cat p2 ++ (bigB x.n 8)).size (Lib.strCells (cat p2 ++ (bigB x.n 8))); exact hown'
    have hz3 : (cat p3).size = (cat p2).size + (bigB x.n 8).size := by rw [hp3, cat_snoc]; exact ByteArray.size_append
    have hbz := bigB_size x.n 8
    refine Gx.reg_run [(6, .int .i64 0)] (by kernel_rfl) ?_
    refine Gx.block_normal ?_
    refine Gx.block_normal ?_
    refine Gx.then_normal ?_
    refine Gx.rounds_step ?_
    refine Gx.seq_reg [0, 1] (by kernel_rfl) ?_
    refine Gx.cons (Gx.op_next_end rfl (by kernel_rfl) rfl (⟨#[78]⟩ : ByteArray) 1 (by kernel_rfl) b9 (by decide) ?_)
    refine Gx.pure [1] [] [(36, .bool false)] rfl (by kernel_rfl) ?_
    refine Gx.ops_end ?_
    refine wp_seq ?_
    refine Gx.cond_f (by kernel_rfl) ?_
    refine wp_exit ?_
    refine Gx.then_exit ?_
    refine Gx.then_exit ?_
    refine Gx.block_exit ?_
    refine Gx.then_normal ?_
    refine Gx.reg [0, 1, 2, 3, 4, 5, 6, 7, 8, 9, 10, 11, 12, 13, 14, 15, 16, 17, 18, 19] (by kernel_rfl) ?_
    refine Gx.pure [0, 1, 2, 3] [4, 5, 6, 7, 8, 9, 10, 11, 12, 13, 14, 15, 16, 17, 18, 19] [(73, .pointer (some ⟨wb, 1, none⟩)), (72, .pointer (some ⟨wb, 0, none⟩)), (71, .pointer (some ⟨wb, 0, none⟩)), (70, .pointer (some ⟨wb, 0, none⟩))] rfl (by kernel_rfl) ?_
    refine Gx.cons (Gx.op_load rfl (by kernel_rfl) rfl 1 (.bool (bd p3)) (by kernel_rfl) b10 (by kernel_rfl) ?_)
    refine Gx.pure [5] [6, 7, 8, 9, 10, 11, 12, 13, 14, 15, 16, 17, 18, 19] [(75, .bool (bd p3))] rfl (by kernel_rfl) ?_
    refine Gx.split (bd p3) (fun h_g75 => ?_) (fun h_g75 => ?_)
    · rw [h_g75]
      refine Gx.pure [6, 7, 8, 9, 10, 11, 12, 13, 14, 15, 16, 17, 18] [19] [(88, .pointer (some ⟨wb, 1, none⟩)), (87, .pointer (some ⟨wb, 0, none⟩)), (86, .bool true), (85, undef), (84, undef), (83, .bool true), (82, .bool true), (81, undef), (80, undef), (79, .bool true), (78, .bool true), (77, undef), (76, undef)] rfl (by kernel_rfl) ?_
      refine Gx.cons (Gx.op_store rfl (by kernel_rfl) rfl 1 (.bool true) (by kernel_rfl) (by kernel_rfl) b10 (by kernel_rfl) (by kernel_rfl) (by kernel_rfl) #[u, .bool true] (by kernel_rfl) (fun w9 u3 b11 => ?_))
      have zw9 := u3.size
      refine Gx.ops_nil ?_
      refine Gx.ret_n (Gx.res0 rfl) ?_
      have p_g75 := h_g75; try simp at p_g75
      obtain ⟨p4, hp4⟩ : ∃ q, q = p3 ++ [markC (over x)] := ⟨_, rfl⟩
      have b12 : Gx.Has w9 wb (.cells #[u, .bool (bd p4)] 34) := by rw [hp4, bd_snoc, markC_none, show (bd p3 || over x) = true by simp [over, hf, h_g75]]; exact b11
      have ow4 : Gx.ownsM w9 B 5 u (cat p4).size (Lib.strCells (cat p4)) := by rw [hp4, cat_snoc]; rw [markC_e0, app_e0]; exact (Gx.own_upd1M ow3 u3 (Gx.own_neM ow3 b10 (by decide)))
      have hz4 : (cat p4).size = (cat p3).size := by rw [hp4, cat_snoc]; rw [markC_e0, app_e0]
      exact hK _ p4 (by rw [hp4, hp3, hp2]; rw [insC, if_neg (by simpa using h_c17), hf]; simp) (((Gx.Wx.refl w hBw).trans x5).upd u3 hB) ⟨_, b12, ow4, hB⟩ (by omega)
    rw [h_g75]
    refine Gx.pure [6, 7, 8, 9] [10, 11, 12, 13, 14, 15, 16, 17, 18, 19] [(79, .bool (x.a != (0 : Int))), (78, .bool (x.a != (0 : Int))), (77, .bool (x.a != (0 : Int))), (76, .int .i64 x.a)] rfl (by kernel_rfl) ?_
    refine Gx.split (x.a != (0 : Int)) (fun h_g79 => ?_) (fun h_g79 => ?_)
    · rw [h_g79]
      refine Gx.pure [10, 11, 12, 13, 14, 15, 16, 17, 18] [19] [(88, .pointer (some ⟨wb, 1, none⟩)), (87, .pointer (some ⟨wb, 0, none⟩)), (86, .bool true), (85, undef), (84, undef), (83, .bool true), (82, .bool true), (81, undef), (80, undef)] rfl (by kernel_rfl) ?_
      refine Gx.cons (Gx.op_store rfl (by kernel_rfl) rfl 1 (.bool true) (by kernel_rfl) (by kernel_rfl) b10 (by kernel_rfl) (by kernel_rfl) (by kernel_rfl) #[u, .bool true] (by kernel_rfl) (fun w10 u4 b13 => ?_))
      have zw10 := u4.size
      refine Gx.ops_nil ?_
      refine Gx.ret_n (Gx.res0 rfl) ?_
      have p_g75 := h_g75; try simp at p_g75
      have p_g79 := h_g79; try simp at p_g79
      obtain ⟨p5, hp5⟩ : ∃ q, q = p3 ++ [markC (over x)] := ⟨_, rfl⟩
      have b14 : Gx.Has w10 wb (.cells #[u, .bool (bd p5)] 34) := by rw [hp5, bd_snoc, markC_none, show (bd p3 || over x) = true by simp [over, hf, h_g75, h_g79]]; exact b13
      have ow5 : Gx.ownsM w10 B 5 u (cat p5).size (Lib.strCells (cat p5)) := by rw [hp5, cat_snoc]; rw [markC_e0, app_e0]; exact (Gx.own_upd1M ow3 u4 (Gx.own_neM ow3 b10 (by decide)))
      have hz5 : (cat p5).size = (cat p3).size := by rw [hp5, cat_snoc]; rw [markC_e0, app_e0]
      exact hK _ p5 (by rw [hp5, hp3, hp2]; rw [insC, if_neg (by simpa using h_c17), hf]; simp) (((Gx.Wx.refl w hBw).trans x5).upd u4 hB) ⟨_, b14, ow5, hB⟩ (by omega)
    rw [h_g79]
    refine Gx.pure [10, 11, 12, 13] [14, 15, 16, 17, 18, 19] [(83, .bool (x.b != (0 : Int))), (82, .bool (x.b != (0 : Int))), (81, .bool (x.b != (0 : Int))), (80, .int .i64 x.b)] rfl (by kernel_rfl) ?_
    refine Gx.split (x.b != (0 : Int)) (fun h_g83 => ?_) (fun h_g83 => ?_)
    · rw [h_g83]
      refine Gx.pure [14, 15, 16, 17, 18] [19] [(88, .pointer (some ⟨wb, 1, none⟩)), (87, .pointer (some ⟨wb, 0, none⟩)), (86, .bool true), (85, undef), (84, undef)] rfl (by kernel_rfl) ?_
      refine Gx.cons (Gx.op_store rfl (by kernel_rfl) rfl 1 (.bool true) (by kernel_rfl) (by kernel_rfl) b10 (by kernel_rfl) (by kernel_rfl) (by kernel_rfl) #[u, .bool true] (by kernel_rfl) (fun w11 u5 b15 => ?_))
      have zw11 := u5.size
      refine Gx.ops_nil ?_
      refine Gx.ret_n (Gx.res0 rfl) ?_
      have p_g75 := h_g75; try simp at p_g75
      have p_g79 := h_g79; try simp at p_g79
      have p_g83 := h_g83; try simp at p_g83
      obtain ⟨p6, hp6⟩ : ∃ q, q = p3 ++ [markC (over x)] := ⟨_, rfl⟩
      have b16 : Gx.Has w11 wb (.cells #[u, .bool (bd p6)] 34) := by rw [hp6, bd_snoc, markC_none, show (bd p3 || over x) = true by simp [over, hf, h_g75, h_g79, h_g83]]; exact b15
      have ow6 : Gx.ownsM w11 B 5 u (cat p6).size (Lib.strCells (cat p6)) := by rw [hp6, cat_snoc]; rw [markC_e0, app_e0]; exact (Gx.own_upd1M ow3 u5 (Gx.own_neM ow3 b10 (by decide)))
      have hz6 : (cat p6).size = (cat p3).size := by rw [hp6, cat_snoc]; rw [markC_e0, app_e0]
      exact hK _ p6 (by rw [hp6, hp3, hp2]; rw [insC, if_neg (by simpa using h_c17), hf]; simp) (((Gx.Wx.refl w hBw).trans x5).upd u5 hB) ⟨_, b16, ow6, hB⟩ (by omega)
    rw [h_g83]
    refine Gx.pure [14, 15, 16, 17, 18] [19] [(88, .pointer (some ⟨wb, 1, none⟩)), (87, .pointer (some ⟨wb, 0, none⟩)), (86, .bool false), (85, .bool false), (84, .int .i64 0)] rfl (by kernel_rfl) ?_
    refine Gx.cons (Gx.op_store rfl (by kernel_rfl) rfl 1 (.bool false) (by kernel_rfl) (by kernel_rfl) b10 (by kernel_rfl) (by kernel_rfl) (by kernel_rfl) #[u, .bool false] (by kernel_rfl) (fun w12 u6 b17 => ?_))
    have zw12 := u6.size
    refine Gx.ops_nil ?_
    refine Gx.ret_n (Gx.res0 rfl) ?_
    have p_g75 := h_g75; try simp at p_g75
    have p_g79 := h_g79; try simp at p_g79
    have p_g83 := h_g83; try simp at p_g83
    obtain ⟨p7, hp7⟩ : ∃ q, q = p3 ++ [markC (over x)] := ⟨_, rfl⟩
    have b18 : Gx.Has w12 wb (.cells #[u, .bool (bd p7)] 34) := by rw [hp7, bd_snoc, markC_none, show (bd p3 || over x) = false by simp [over, hf, h_g75, h_g79, h_g83]]; exact b17
    have ow7 : Gx.ownsM w12 B 5 u (cat p7).size (Lib.strCells (cat p7)) := by rw [hp7, cat_snoc]; rw [markC_e0, app_e0]; exact (Gx.own_upd1M ow3 u6 (Gx.own_neM ow3 b10 (by decide)))
    have hz7 : (cat p7).size = (cat p3).size := by rw [hp7, cat_snoc]; rw [markC_e0, app_e0]
    exact hK _ p7 (by rw [hp7, hp3, hp2]; rw [insC, if_neg (by simpa using h_c17), hf]; simp) (((Gx.Wx.refl w hBw).trans x5).upd u6 hB) ⟨_, b18, ow7, hB⟩ (by omega)
  rw [show (((k + 1 : Nat) : Int) - 1) = ((k : Nat) : Int) by omega]
  refine wp_seq ?_
  refine Gx.seq_run [(42, .bool (decide (((k : Nat) : Int) ≥ (0 : Int)))), (41, .int .i64 ((k : Nat) : Int))] (by kernel_rfl) ?_
  refine Gx.cond (decide (((k : Nat) : Int) ≥ (0 : Int))) (by kernel_rfl) (fun h_c42 => ?_) (fun h_c42 => ?_)
  · skip
    refine wp_skip ?_
    refine Gx.then_normal ?_
    refine wp_seq ?_
    refine wp_block ?_
    refine Gx.drawE (S := fun w' => Gx.Has w' wb (.cells #[u, .bool (bd p2)] 34)) [15] (by kernel_rfl) (fun w13 x6 => ?_)
    have zw13 := x6.size
    refine Gx.anyE_take 0 (.pointer (some ⟨wb, 0, none⟩)) (.pointer (some ⟨wb, 0, none⟩)) rfl rfl (by kernel_rfl) (by kernel_rfl) (by kernel_rfl) (by kernel_rfl) (fun _ _ _ h => h) (fun _ => (b7.ext x6)) (by kernel_rfl) (fun _ => (by kernel_rfl)) ?_
    refine Gx.anyE_take 1 (.pointer (some ⟨wb, 0, none⟩)) (.pointer (some ⟨wb, 0, none⟩)) rfl rfl (by kernel_rfl) (by kernel_rfl) (by kernel_rfl) (by kernel_rfl) (fun _ _ _ h => h) (fun _ => (b7.ext x6)) (by kernel_rfl) (fun _ => (by kernel_rfl)) ?_
    refine Gx.anyE_take 2 (.pointer (some ⟨wb, 0, none⟩)) (.pointer (some ⟨wb, 0, none⟩)) rfl rfl (by kernel_rfl) (by kernel_rfl) (by kernel_rfl) (by kernel_rfl) (fun _ _ _ h => h) (fun _ => (b7.ext x6)) (by kernel_rfl) (fun _ => (by kernel_rfl)) ?_
    refine Gx.anyE_take 3 (.pointer (some ⟨wb, 0, none⟩)) (.pointer (some ⟨wb, 0, none⟩)) rfl rfl (by kernel_rfl) (by kernel_rfl) (by kernel_rfl) (by kernel_rfl) (fun _ _ _ h => h) (fun _ => (b7.ext x6)) (by kernel_rfl) (fun _ => (by kernel_rfl)) ?_
    refine Gx.anyE_takeS 4 [12, 13, 14, 15] (u) (u) rfl rfl (by kernel_rfl) (by kernel_rfl) (by kernel_rfl) (by kernel_rfl) (by kernel_rfl) (fun _ _ _ h => h) (b7.ext x6) (by kernel_rfl) (fun _ hs => Gx.run_load rfl 0 (u) (by kernel_rfl) hs (by kernel_rfl)) ?_
    refine Gx.anyE_take 5 (.int .i64 x.n) (.int .i64 x.n) rfl rfl (by kernel_rfl) (by kernel_rfl) (by kernel_rfl) (by kernel_rfl) (fun _ _ _ h => h) (fun _ => (b7.ext x6)) (by kernel_rfl) (fun _ => (by kernel_rfl)) ?_
    have p_c42 := h_c42; try simp at p_c42
    refine Gx.anyE_take 6 (.int .u64 (IntKind.u64.wrap x.n)) (.int .u64 (x.n % 18446744073709551616)) (congrArg (Value.int .u64) (IntKind.wrap_u64 _)) rfl (by kernel_rfl) (by kernel_rfl) (by kernel_rfl) (by kernel_rfl) (fun _ _ _ h => h) (fun _ => (b7.ext x6)) (by kernel_rfl) (fun _ => (by kernel_rfl)) ?_
    refine Gx.anyE_take 7 (.int .i64 ((k : Nat) : Int)) (.int .i64 ((k : Nat) : Int)) rfl rfl (by kernel_rfl) (by kernel_rfl) (by kernel_rfl) (by kernel_rfl) (fun _ _ _ h => h) (fun _ => (b7.ext x6)) (by kernel_rfl) (fun _ => (by kernel_rfl)) ?_
    refine Gx.anyE_take 8 (.int .i64 (IntKind.i64.wrap ((8 : Int) * ((k : Nat) : Int)))) (.int .i64 ((8 * k : Nat) : Int)) (congrArg (Value.int .i64) (Gx.i64n (by omega) (by omega))) rfl (by kernel_rfl) (by kernel_rfl) (by kernel_rfl) (by kernel_rfl) (fun _ _ _ h => h) (fun _ => (b7.ext x6)) (by kernel_rfl) (fun _ => (by kernel_rfl)) ?_
    refine Gx.anyE_take 9 (.int .u64 (x.n % 18446744073709551616 / 2 ^ (8 * k))) (.int .u64 (x.n % 18446744073709551616 / 2 ^ (8 * k))) rfl rfl (by kernel_rfl) (by kernel_rfl) (by kernel_rfl) (by kernel_rfl) (fun _ _ _ h => h) (fun _ => (b7.ext x6)) (by kernel_rfl) (fun _ => Gx.run_shr rfl .u64 .i64 (x.n % 18446744073709551616) (8 * k) (by kernel_rfl) (by kernel_rfl) (by show 8 * k ≤ 64; omega) _ rfl) ?_
    refine Gx.anyE_take 10 (.int .u8 (IntKind.u8.wrap (x.n % 18446744073709551616 / 2 ^ (8 * k)))) (.int .u8 ((byteI x.n k : Nat) : Int)) (congrArg (Value.int .u8) (by rw [IntKind.wrap_u8, byte_u64 _ _ (by omega)])) rfl (by kernel_rfl) (by kernel_rfl) (by kernel_rfl) (by kernel_rfl) (fun _ _ _ h => h) (fun _ => (b7.ext x6)) (by kernel_rfl) (fun _ => (by kernel_rfl)) ?_
    refine Gx.anyE_one 11 (by kernel_rfl) (Gx.op_row (.cells #[.int .u8 ((byteI x.n k : Nat) : Int)] 5) 1 1 rfl (by kernel_rfl) (by kernel_rfl) (fun k3 w14 l3 x7 b19 => ⟨(fun _ => ((b7.ext x6).ext x7)), ?_⟩))
    have zw14 := x7.size
    have tb19 := b19.lt
    refine Gx.anyE_one 12 (by kernel_rfl) (Gx.op_append1M rfl (by kernel_rfl) rfl 5 (by kernel_rfl) (by kernel_rfl) (B) (by kernel_rfl) (Gx.own_extM (Gx.own_extM hown' x6) x7) 1 (by kernel_rfl) (.int .u8 ((byteI x.n k : Nat) : Int)) b19 rfl (by omega) (by omega) (fun v2 w15 ow8 g1 => ⟨(fun _ => (((b7.ext x6).ext x7).upd g1 (fun e => Gx.own_neM (Gx.own_extM (Gx.own_extM hown' x6) x7) ((b7.ext x6).ext x7) (by decide) _ e.symm rfl))), ?_⟩))
    have zw15 := g1.size
    refine Gx.anyE_take 13 (.pointer (some ⟨wb, 0, none⟩)) (.pointer (some ⟨wb, 0, none⟩)) rfl rfl (by kernel_rfl) (by kernel_rfl) (by kernel_rfl) (by kernel_rfl) (fun _ _ _ h => h) (fun _ => (((b7.ext x6).ext x7).upd g1 (fun e => Gx.own_neM (Gx.own_extM (Gx.own_extM hown' x6) x7) ((b7.ext x6).ext x7) (by decide) _ e.symm rfl))) (by kernel_rfl) (fun _ => (by kernel_rfl)) ?_
    refine Gx.anyE_take 14 (.pointer (some ⟨wb, 0, none⟩)) (.pointer (some ⟨wb, 0, none⟩)) rfl rfl (by kernel_rfl) (by kernel_rfl) (by kernel_rfl) (by kernel_rfl) (fun _ _ _ h => h) (fun _ => (((b7.ext x6).ext x7).upd g1 (fun e => Gx.own_neM (Gx.own_extM (Gx.own_extM hown' x6) x7) ((b7.ext x6).ext x7) (by decide) _ e.symm rfl))) (by kernel_rfl) (fun _ => (by kernel_rfl)) ?_
    refine Gx.anyE_one 15 (by kernel_rfl) (Gx.op_storeO rfl (by kernel_rfl) rfl 0 (v2) (by kernel_rfl) (by kernel_rfl) (((b7.ext x6).ext x7).upd g1 (fun e => Gx.own_neM (Gx.own_extM (Gx.own_extM hown' x6) x7) ((b7.ext x6).ext x7) (by decide) _ e.symm rfl)) (by kernel_rfl) (Gx.own_cellsM ow8) (by kernel_rfl) #[v2, .bool (bd p2)] (by kernel_rfl) (fun w16 u7 b20 => ⟨(Gx.not_clear (by kernel_rfl)), ?_⟩))
    have zw16 := u7.size
    refine Gx.anyE_done (by kernel_rfl) ?_ _
    refine Gx.block_normal ?_
    refine Gx.then_normal ?_
    refine Gx.reg [0, 1, 2] (by kernel_rfl) ?_
    refine Gx.pure [0] [1, 2] [(43, .int .i64 ((k : Nat) : Int))] rfl (by kernel_rfl) ?_
    refine Gx.pure_eq [1] [2] [(44, .int .i64 (IntKind.i64.wrap (((k : Nat) : Int) - (1 : Int))))] [(44, .int .i64 (((k : Nat) : Int) - 1))] rfl (by kernel_rfl) (Gx.eqI (IntWalk.i64_in _ (by omega))) ?_
    refine Gx.pure [2] [] [(9, .int .i64 (((k : Nat) : Int) - 1))] rfl (by kernel_rfl) ?_
    refine Gx.ops_nil ?_
    refine Gx.then_normal ?_
    rw [Gx.forget [(0, .pointer (some ⟨wb, 0, none⟩)), (4, .int .i64 x.a), (5, .int .i64 x.b), (6, .int .i64 x.n), (34, .pointer (some ⟨k2, 0, none⟩)), (9, .int .i64 (((k : Nat) : Int) - 1))] (by kernel_rfl)]
    exact hK2 _ _ _ _ (by omega) ⟨k, v2, (c ++ ⟨#[UInt8.ofNat (byteI x.n k)]⟩), rfl, rfl, ((((((Gx.Wx.refl w hBw).trans x5).ext x6).ext x7).appM g1 (Gx.own_extM (Gx.own_extM hown' x6) x7)).upd u7 hB), b20, ((((b8.ext x6).ext x7).upd g1 (fun e => Gx.own_neM (Gx.own_extM (Gx.own_extM hown' x6) x7) ((b8.ext x6).ext x7) (by decide) _ e.symm rfl)).upd1 u7 (by omega)), ((((b9.ext x6).ext x7).upd g1 (fun e => Gx.own_neMO (Gx.own_extM (Gx.own_extM hown' x6) x7) ((b9.ext x6).ext x7) (fun _ _ q => by cases q) _ e.symm rfl)).upd1 u7 (by omega)), (by omega), (by rw [ByteArray.size_append, strCells_append, strCells_one _ (byteI_lt x.n k)]; exact (Gx.own_upd1M ow8 u7 (Gx.own_neM ow8 (((b7.ext x6).ext x7).upd g1 (fun e => Gx.own_neM (Gx.own_extM (Gx.own_extM hown' x6) x7) ((b7.ext x6).ext x7) (by decide) _ e.symm rfl)) (by decide)))), (num_step (by omega) hc), (by rw [ByteArray.size_append]; show c.size + 1 + k = _; omega)⟩
  have p_c42 := h_c42; try simp at p_c42
  all_goals (exact absurd h_c42 (by simp))

set_option maxHeartbeats 400000 in
set_option maxRecDepth 10000 in
theorem ins_1 (B wb : Nat) (p : List Ch) (x : InsP) (w : World) (K : Ending → World → Prop) (hw : Wr 34 5 w B wb (cat p) (bd p)) (hBw : B ≤ w.heap.size) (hbs : (cat p).size ≤ 70368744177000) (hf : form x.op = 1) (hx : I64 x.op ∧ I64 x.a ∧ I64 x.b ∧ I64 x.n) (hK : ∀ w' p', p' = p ++ insC x → Gx.Wx 5 B wb w w' → Wr 34 5 w' B wb (cat p') (bd p') → (cat p').size ≤ (cat p).size + 9 → K (.returned (.tuple #[])) w') :
    Calls Try.prog 8 #[.pointer (some ⟨wb, 0, none⟩), .agg #[.int .i64 x.op, .int .i64 x.a, .int .i64 x.b, .int .i64 x.n]] w K := by
  refine Gx.enter 89 Try.func8 rfl rfl (Nat.le_of_ble_eq_true rfl) ?_
  obtain ⟨v, hwb, hown, hB⟩ := hw
  have thwb := hwb.lt
  refine Gx.seq_reg [0] (by kernel_rfl) ?_
  refine Gx.cons (Gx.op_new (.cells #[.int .i64 x.op, .int .i64 x.a, .int .i64 x.b, .int .i64 x.n] 46) rfl (by kernel_rfl) (by kernel_rfl) (fun k1 w1 l1 x1 b1 => ?_))
  have zw1 := x1.size
  have tb1 := b1.lt
  refine Gx.ops_end ?_
  refine wp_seq ?_
  refine Gx.cut (d' := []) (n' := 89) (fun l' w' => l' = [(0, .pointer (some ⟨wb, 0, none⟩)), (3, .pointer (some ⟨k1, 0, none⟩)), (17, .bool ((decide (x.op < (0 : Int))) || (decide (x.op ≥ (23 : Int)))))] ∧ w1 = w') (fun K1 hK1 => ?_) (fun bb1 ll1 w2 hI1 => ?_)
  · refine Gx.reg [0, 1, 2, 3, 4, 5, 6, 7] (by kernel_rfl) ?_
    refine Gx.pure [0] [1, 2, 3, 4, 5, 6, 7] [(10, .pointer (some ⟨k1, 0, none⟩))] rfl (by kernel_rfl) ?_
    refine Gx.cons (Gx.op_load rfl (by kernel_rfl) rfl 0 (.int .i64 x.op) (by kernel_rfl) b1 (by kernel_rfl) ?_)
    refine Gx.pure [2, 3] [4, 5, 6, 7] [(13, .bool (decide (x.op < (0 : Int)))), (12, .bool (decide (x.op < (0 : Int))))] rfl (by kernel_rfl) ?_
    refine Gx.split (decide (x.op < (0 : Int))) (fun h_g13 => ?_) (fun h_g13 => ?_)
    · rw [h_g13]
      refine Gx.pure [4, 5, 6, 7] [] [(17, .bool true), (16, undef), (15, undef), (14, undef)] rfl (by kernel_rfl) ?_
      refine Gx.ops_end ?_
      rw [Gx.forget [(0, .pointer (some ⟨wb, 0, none⟩)), (3, .pointer (some ⟨k1, 0, none⟩)), (17, .bool ((decide (x.op < (0 : Int))) || (decide (x.op ≥ (23 : Int)))))] (by rw [h_g13]; try kernel_rfl)]
      exact hK1 _ _ _ ⟨rfl, rfl⟩
    rw [h_g13]
    refine Gx.pure [4] [5, 6, 7] [(14, .pointer (some ⟨k1, 0, none⟩))] rfl (by kernel_rfl) ?_
    refine Gx.cons (Gx.op_load rfl (by kernel_rfl) rfl 0 (.int .i64 x.op) (by kernel_rfl) b1 (by kernel_rfl) ?_)
    refine Gx.pure [6, 7] [] [(17, .bool (decide (x.op ≥ (23 : Int)))), (16, .bool (decide (x.op ≥ (23 : Int))))] rfl (by kernel_rfl) ?_
    refine Gx.ops_end ?_
    rw [Gx.forget [(0, .pointer (some ⟨wb, 0, none⟩)), (3, .pointer (some ⟨k1, 0, none⟩)), (17, .bool ((decide (x.op < (0 : Int))) || (decide (x.op ≥ (23 : Int)))))] (by rw [h_g13]; try kernel_rfl)]
    exact hK1 _ _ _ ⟨rfl, rfl⟩
  obtain ⟨rfl, rfl⟩ := hI1
  refine Gx.cond ((decide (x.op < (0 : Int))) || (decide (x.op ≥ (23 : Int)))) (by kernel_rfl) (fun h_c17 => ?_) (fun h_c17 => ?_)
  · skip
    refine Gx.seq_reg [0, 1, 2, 3] (by kernel_rfl) ?_
    refine Gx.pure [0, 1, 2] [3] [(20, .pointer (some ⟨wb, 1, none⟩)), (19, .pointer (some ⟨wb, 0, none⟩)), (18, .pointer (some ⟨wb, 0, none⟩))] rfl (by kernel_rfl) ?_
    refine Gx.cons (Gx.op_store rfl (by kernel_rfl) rfl 1 (.bool true) (by kernel_rfl) (by kernel_rfl) (hwb.ext x1) (by kernel_rfl) (by kernel_rfl) (by kernel_rfl) #[v, .bool true] (by kernel_rfl) (fun w3 u1 b2 => ?_))
    have zw3 := u1.size
    refine Gx.ops_end ?_
    refine wp_ret ?_
    refine Gx.then_ret ?_
    refine Gx.ret (Gx.res0 rfl) ?_
    have p_c17 := h_c17; try simp at p_c17
    obtain ⟨p1, hp1⟩ : ∃ q, q = p ++ [none] := ⟨_, rfl⟩
    have b3 : Gx.Has w3 wb (.cells #[v, .bool (bd p1)] 34) := by rw [hp1, bd_snoc, Option.isNone_none, Bool.or_true]; exact b2
    have ow1 : Gx.ownsM w3 B 5 v (cat p1).size (Lib.strCells (cat p1)) := by rw [hp1, cat_snoc]; show Gx.ownsM _ _ 5 _ (cat p ++ e0).size (Lib.strCells (cat p ++ e0)); rw [app_e0]; exact (Gx.own_upd1M (Gx.own_extM hown x1) u1 (Gx.own_neM (Gx.own_extM hown x1) (hwb.ext x1) (by decide)))
    have hz1 : (cat p1).size = (cat p).size := by rw [hp1, cat_snoc]; show (cat p ++ e0).size = _; rw [app_e0]
    exact hK _ p1 (by rw [hp1]; rw [insC, if_pos (by simpa using h_c17)]) (((Gx.Wx.refl w hBw).ext x1).upd u1 hB) ⟨_, b3, ow1, hB⟩ (by omega)
  refine wp_skip ?_
  refine Gx.then_normal ?_
  refine Gx.seq_reg [0, 1, 2, 3] (by kernel_rfl) ?_
  refine Gx.pure [0, 1] [2, 3] [(22, .pointer (some ⟨k1, 0, none⟩)), (21, .pointer (some ⟨wb, 0, none⟩))] rfl (by kernel_rfl) ?_
  refine Gx.cons (Gx.op_load rfl (by kernel_rfl) rfl 0 (.int .i64 x.op) (by kernel_rfl) b1 (by kernel_rfl) ?_)
  have p_c17 := h_c17; try simp at p_c17
  refine Gx.cons (Gx.op_call rfl (by kernel_rfl) (by kernel_rfl) (fun R hR => number_p B wb p x.op 1 _ R ⟨_, (hwb.ext x1), (Gx.own_extM hown x1), hB⟩ (by omega) (by omega) (by first | exact .inl rfl | exact .inr rfl) (by unfold I64 at *; omega) (fun w4 p2 hp2 x2 hw1 hz2 => hR _ _ ?_)))
  have zw4 := x2.size
  obtain ⟨v1, b4, ow2, _⟩ := hw1
  have tb4 := b4.lt
  refine Gx.ops_end ?_
  refine wp_seq ?_
  refine Gx.draw (S := fun w' => Gx.Has w' k1 (.cells #[.int .i64 x.op, .int .i64 x.a, .int .i64 x.b, .int .i64 x.n] 46)) (by kernel_rfl) (fun w5 x3 => ?_)
  have zw5 := x3.size
  refine Gx.any_take 0 (.pointer (some ⟨k1, 1, none⟩)) rfl (by kernel_rfl) (by kernel_rfl) (by kernel_rfl) (fun _ _ _ h => h) ((x2.has b1 (by omega) (by decide)).ext x3) (by kernel_rfl) (fun _ _ => (by kernel_rfl)) ?_
  refine Gx.any_take 1 (.int .i64 x.a) rfl (by kernel_rfl) (by kernel_rfl) (by kernel_rfl) (fun _ _ _ h => h) ((x2.has b1 (by omega) (by decide)).ext x3) (by kernel_rfl) (fun _ hs => Gx.run_load rfl 1 (.int .i64 x.a) (by kernel_rfl) hs (by kernel_rfl)) ?_
  refine Gx.any_take 2 (.pointer (some ⟨k1, 2, none⟩)) rfl (by kernel_rfl) (by kernel_rfl) (by kernel_rfl) (fun _ _ _ h => h) ((x2.has b1 (by omega) (by decide)).ext x3) (by kernel_rfl) (fun _ _ => (by kernel_rfl)) ?_
  refine Gx.any_take 3 (.int .i64 x.b) rfl (by kernel_rfl) (by kernel_rfl) (by kernel_rfl) (fun _ _ _ h => h) ((x2.has b1 (by omega) (by decide)).ext x3) (by kernel_rfl) (fun _ hs => Gx.run_load rfl 2 (.int .i64 x.b) (by kernel_rfl) hs (by kernel_rfl)) ?_
  refine Gx.any_take 4 (.pointer (some ⟨k1, 3, none⟩)) rfl (by kernel_rfl) (by kernel_rfl) (by kernel_rfl) (fun _ _ _ h => h) ((x2.has b1 (by omega) (by decide)).ext x3) (by kernel_rfl) (fun _ _ => (by kernel_rfl)) ?_
  refine Gx.any_take 5 (.int .i64 x.n) rfl (by kernel_rfl) (by kernel_rfl) (by kernel_rfl) (fun _ _ _ h => h) ((x2.has b1 (by omega) (by decide)).ext x3) (by kernel_rfl) (fun _ hs => Gx.run_load rfl 3 (.int .i64 x.n) (by kernel_rfl) hs (by kernel_rfl)) ?_
  refine Gx.any_take 6 (.int .i64 x.a) rfl (by kernel_rfl) (by kernel_rfl) (by kernel_rfl) (fun _ _ _ h => h) ((x2.has b1 (by omega) (by decide)).ext x3) (by kernel_rfl) (fun _ _ => (by kernel_rfl)) ?_
  refine Gx.any_take 7 (.int .i64 x.b) rfl (by kernel_rfl) (by kernel_rfl) (by kernel_rfl) (fun _ _ _ h => h) ((x2.has b1 (by omega) (by decide)).ext x3) (by kernel_rfl) (fun _ _ => (by kernel_rfl)) ?_
  refine Gx.any_take 8 (.int .i64 x.n) rfl (by kernel_rfl) (by kernel_rfl) (by kernel_rfl) (fun _ _ _ h => h) ((x2.has b1 (by omega) (by decide)).ext x3) (by kernel_rfl) (fun _ _ => (by kernel_rfl)) ?_
  refine Gx.any_done (by kernel_rfl) ?_
  refine Gx.then_normal ?_
  refine wp_seq ?_
  refine Gx.seq_reg [0, 1, 2, 3] (by kernel_rfl) ?_
  refine Gx.pure [0] [1, 2, 3] [(31, .pointer (some ⟨k1, 0, none⟩))] rfl (by kernel_rfl) ?_
  refine Gx.cons (Gx.op_load rfl (by kernel_rfl) rfl 0 (.int .i64 x.op) (by kernel_rfl) ((x2.has b1 (by omega) (by decide)).ext x3) (by kernel_rfl) ?_)
  refine Gx.cons (Gx.op_call rfl (by kernel_rfl) (by kernel_rfl) (fun R hR => operands_1 x.op _ R hf (hR _ _ ?_)))
  refine Gx.cons (Gx.op_new (.stringIter (⟨#[65]⟩ : ByteArray) 0) rfl (by kernel_rfl) (by kernel_rfl) (fun k2 w6 l2 x4 b5 => ?_))
  have zw6 := x4.size
  have tb5 := b5.lt
  refine Gx.ops_end ?_
  refine wp_block ?_
  refine wp_loop_rounds 3 ?_
  refine Gx.rounds_step ?_
  refine Gx.seq_reg [0, 1] (by kernel_rfl) ?_
  refine Gx.cons (Gx.op_next_as rfl (by kernel_rfl) rfl (⟨#[65]⟩ : ByteArray) 0 (by kernel_rfl) b5 (by decide) 65 1 (by decide +kernel) (fun w7 u2 b6 => ?_))
  have zw7 := u2.size
  refine Gx.pure [1] [] [(36, .bool true)] rfl (by kernel_rfl) ?_
  refine Gx.ops_end ?_
  refine wp_seq ?_
  refine Gx.cond_t (by kernel_rfl) ?_
  refine wp_skip ?_
  refine Gx.then_normal ?_
  refine wp_block ?_
  refine Gx.seq_run [(8, .int .i32 65), (37, .int .i32 65)] (by kernel_rfl) ?_
  refine Gx.seq_run [(38, .int .i32 65)] (by kernel_rfl) ?_
  refine wp_block ?_
  refine Gx.seq_run [(39, .bool false), (40, .bool false)] (by kernel_rfl) ?_
  refine Gx.cond_f (by kernel_rfl) ?_
  refine Gx.seq_run [(60, .bool true), (61, .bool true)] (by kernel_rfl) ?_
  refine Gx.cond_t (by kernel_rfl) ?_
  refine Gx.seq_reg [0, 1, 2] (by kernel_rfl) ?_
  refine Gx.pure [0, 1] [2] [(63, .int .i64 x.a), (62, .pointer (some ⟨wb, 0, none⟩))] rfl (by kernel_rfl) ?_
  refine Gx.cons (Gx.op_call rfl (by kernel_rfl) (by kernel_rfl) (fun R hR => number_p B wb p2 x.a 2 _ R ⟨_, (((b4.ext x3).ext x4).upd1 u2 (by omega)), (Gx.own_upd1M (Gx.own_extM (Gx.own_extM ow2 x3) x4) u2 (Gx.own_neMO (Gx.own_extM (Gx.own_extM ow2 x3) x4) b5 (fun _ _ q => by cases q))), hB⟩ (by omega) (by omega) (by first | exact .inl rfl | exact .inr rfl) (by unfold I64 at *; omega) (fun w8 p3 hp3 x5 hw2 hz3 => hR _ _ ?_)))
  have zw8 := x5.size
  obtain ⟨v2, b7, ow3, _⟩ := hw2
  have tb7 := b7.lt
  refine Gx.ops_end ?_
  refine Gx.reg_run [(4, .int .i64 0)] (by kernel_rfl) ?_
  refine Gx.block_normal ?_
  refine Gx.block_normal ?_
  refine Gx.then_normal ?_
  refine Gx.rounds_step ?_
  refine Gx.seq_reg [0, 1] (by kernel_rfl) ?_
  refine Gx.cons (Gx.op_next_end rfl (by kernel_rfl) rfl (⟨#[65]⟩ : ByteArray) 1 (by kernel_rfl) (x5.iter b6 (by omega)) (by decide) ?_)
  refine Gx.pure [1] [] [(36, .bool false)] rfl (by kernel_rfl) ?_
  refine Gx.ops_end ?_
  refine wp_seq ?_
  refine Gx.cond_f (by kernel_rfl) ?_
  refine wp_exit ?_
  refine Gx.then_exit ?_
  refine Gx.then_exit ?_
  refine Gx.block_exit ?_
  refine Gx.then_normal ?_
  refine Gx.reg [0, 1, 2, 3, 4, 5, 6, 7, 8, 9, 10, 11, 12, 13, 14, 15, 16, 17, 18, 19] (by kernel_rfl) ?_
  refine Gx.pure [0, 1, 2, 3] [4, 5, 6, 7, 8, 9, 10, 11, 12, 13, 14, 15, 16, 17, 18, 19] [(73, .pointer (some ⟨wb, 1, none⟩)), (72, .pointer (some ⟨wb, 0, none⟩)), (71, .pointer (some ⟨wb, 0, none⟩)), (70, .pointer (some ⟨wb, 0, none⟩))] rfl (by kernel_rfl) ?_
  refine Gx.cons (Gx.op_load rfl (by kernel_rfl) rfl 1 (.bool (bd p3)) (by kernel_rfl) b7 (by kernel_rfl) ?_)
  refine Gx.pure [5] [6, 7, 8, 9, 10, 11, 12, 13, 14, 15, 16, 17, 18, 19] [(75, .bool (bd p3))] rfl (by kernel_rfl) ?_
  refine Gx.split (bd p3) (fun h_g75 => ?_) (fun h_g75 => ?_)
  · rw [h_g75]
    refine Gx.pure [6, 7, 8, 9, 10, 11, 12, 13, 14, 15, 16, 17, 18] [19] [(88, .pointer (some ⟨wb, 1, none⟩)), (87, .pointer (some ⟨wb, 0, none⟩)), (86, .bool true), (85, undef), (84, undef), (83, .bool true), (82, .bool true), (81, undef), (80, undef), (79, .bool true), (78, .bool true), (77, undef), (76, undef)] rfl (by kernel_rfl) ?_
    refine Gx.cons (Gx.op_store rfl (by kernel_rfl) rfl 1 (.bool true) (by kernel_rfl) (by kernel_rfl) b7 (by kernel_rfl) (by kernel_rfl) (by kernel_rfl) #[v2, .bool true] (by kernel_rfl) (fun w9 u3 b8 => ?_))
    have zw9 := u3.size
    refine Gx.ops_nil ?_
    refine Gx.ret_n (Gx.res0 rfl) ?_
    have p_g75 := h_g75; try simp at p_g75
    obtain ⟨p4, hp4⟩ : ∃ q, q = p3 ++ [markC (over x)] := ⟨_, rfl⟩
    have b9 : Gx.Has w9 wb (.cells #[v2, .bool (bd p4)] 34) := by rw [hp4, bd_snoc, markC_none, show (bd p3 || over x) = true by simp [over, hf, h_g75]]; exact b8
    have ow4 : Gx.ownsM w9 B 5 v2 (cat p4).size (Lib.strCells (cat p4)) := by rw [hp4, cat_snoc]; rw [markC_e0, app_e0]; exact (Gx.own_upd1M ow3 u3 (Gx.own_neM ow3 b7 (by decide)))
    have hz4 : (cat p4).size = (cat p3).size := by rw [hp4, cat_snoc]; rw [markC_e0, app_e0]
    exact hK _ p4 (by rw [hp4, hp3, hp2]; rw [insC, if_neg (by simpa using h_c17), hf]; simp) ((((((((Gx.Wx.refl w hBw).ext x1).trans x2).ext x3).ext x4).upd_new u2 (by omega)).trans x5).upd u3 hB) ⟨_, b9, ow4, hB⟩ (by omega)
  rw [h_g75]
  refine Gx.pure [6, 7, 8, 9, 10, 11, 12, 13] [14, 15, 16, 17, 18, 19] [(83, .bool (x.b != (0 : Int))), (82, .bool (x.b != (0 : Int))), (81, .bool (x.b != (0 : Int))), (80, .int .i64 x.b), (79, .bool false), (78, .bool false), (77, .bool false), (76, .int .i64 0)] rfl (by kernel_rfl) ?_
  refine Gx.split (x.b != (0 : Int)) (fun h_g83 => ?_) (fun h_g83 => ?_)
  · rw [h_g83]
    refine Gx.pure [14, 15, 16, 17, 18] [19] [(88, .pointer (some ⟨wb, 1, none⟩)), (87, .pointer (some ⟨wb, 0, none⟩)), (86, .bool true), (85, undef), (84, undef)] rfl (by kernel_rfl) ?_
    refine Gx.cons (Gx.op_store rfl (by kernel_rfl) rfl 1 (.bool true) (by kernel_rfl) (by kernel_rfl) b7 (by kernel_rfl) (by kernel_rfl) (by kernel_rfl) #[v2, .bool true] (by kernel_rfl) (fun w10 u4 b10 => ?_))
    have zw10 := u4.size
    refine Gx.ops_nil ?_
    refine Gx.ret_n (Gx.res0 rfl) ?_
    have p_g75 := h_g75; try simp at p_g75
    have p_g83 := h_g83; try simp at p_g83
    obtain ⟨p5, hp5⟩ : ∃ q, q = p3 ++ [markC (over x)] := ⟨_, rfl⟩
    have b11 : Gx.Has w10 wb (.cells #[v2, .bool (bd p5)] 34) := by rw [hp5, bd_snoc, markC_none, show (bd p3 || over x) = true by simp [over, hf, h_g75, h_g83]]; exact b10
    have ow5 : Gx.ownsM w10 B 5 v2 (cat p5).size (Lib.strCells (cat p5)) := by rw [hp5, cat_snoc]; rw [markC_e0, app_e0]; exact (Gx.own_upd1M ow3 u4 (Gx.own_neM ow3 b7 (by decide)))
    have hz5 : (cat p5).size = (cat p3).size := by rw [hp5, cat_snoc]; rw [markC_e0, app_e0]
    exact hK _ p5 (by rw [hp5, hp3, hp2]; rw [insC, if_neg (by simpa using h_c17), hf]; simp) ((((((((Gx.Wx.refl w hBw).ext x1).trans x2).ext x3).ext x4).upd_new u2 (by omega)).trans x5).upd u4 hB) ⟨_, b11, ow5, hB⟩ (by omega)
  rw [h_g83]
  refine Gx.pure [14, 15, 16, 17, 18] [19] [(88, .pointer (some ⟨wb, 1, none⟩)), (87, .pointer (some ⟨wb, 0, none⟩)), (86, .bool (x.n != (0 : Int))), (85, .bool (x.n != (0 : Int))), (84, .int .i64 x.n)] rfl (by kernel_rfl) ?_
  refine Gx.cons (Gx.op_store rfl (by kernel_rfl) rfl 1 (.bool (x.n != (0 : Int))) (by kernel_rfl) (by kernel_rfl) b7 (by kernel_rfl) (by kernel_rfl) (by kernel_rfl) #[v2, .bool (x.n != (0 : Int))] (by kernel_rfl) (fun w11 u5 b12 => ?_))
  have zw11 := u5.size
  refine Gx.ops_nil ?_
  refine Gx.ret_n (Gx.res0 rfl) ?_
  have p_g75 := h_g75; try simp at p_g75
  have p_g83 := h_g83; try simp at p_g83
  obtain ⟨p6, hp6⟩ : ∃ q, q = p3 ++ [markC (over x)] := ⟨_, rfl⟩
  have b13 : Gx.Has w11 wb (.cells #[v2, .bool (bd p6)] 34) := by rw [hp6, bd_snoc, markC_none, show (bd p3 || over x) = (x.n != (0 : Int)) by simp [over, hf, h_g75, h_g83]]; exact b12
  have ow6 : Gx.ownsM w11 B 5 v2 (cat p6).size (Lib.strCells (cat p6)) := by rw [hp6, cat_snoc]; rw [markC_e0, app_e0]; exact (Gx.own_upd1M ow3 u5 (Gx.own_neM ow3 b7 (by decide)))
  have hz6 : (cat p6).size = (cat p3).size := by rw [hp6, cat_snoc]; rw [markC_e0, app_e0]
  exact hK _ p6 (by rw [hp6, hp3, hp2]; rw [insC, if_neg (by simpa using h_c17), hf]; simp) ((((((((Gx.Wx.refl w hBw).ext x1).trans x2).ext x3).ext x4).upd_new u2 (by omega)).trans x5).upd u5 hB) ⟨_, b13, ow6, hB⟩ (by omega)

set_option maxHeartbeats 400000 in
set_option maxRecDepth 10000 in
theorem ins_2 (B wb : Nat) (p : List Ch) (x : InsP) (w : World) (K : Ending → World → Prop) (hw : Wr 34 5 w B wb (cat p) (bd p)) (hBw : B ≤ w.heap.size) (hbs : (cat p).size ≤ 70368744177000) (hf : form x.op = 2) (hx : I64 x.op ∧ I64 x.a ∧ I64 x.b ∧ I64 x.n) (hK : ∀ w' p', p' = p ++ insC x → Gx.Wx 5 B wb w w' → Wr 34 5 w' B wb (cat p') (bd p') → (cat p').size ≤ (cat p).size + 9 → K (.returned (.tuple #[])) w') :
    Calls Try.prog 8 #[.pointer (some ⟨wb, 0, none⟩), .agg #[.int .i64 x.op, .int .i64 x.a, .int .i64 x.b, .int .i64 x.n]] w K := by
  refine Gx.enter 89 Try.func8 rfl rfl (Nat.le_of_ble_eq_true rfl) ?_
  obtain ⟨v, hwb, hown, hB⟩ := hw
  have thwb := hwb.lt
  refine Gx.seq_reg [0] (by kernel_rfl) ?_
  refine Gx.cons (Gx.op_new (.cells #[.int .i64 x.op, .int .i64 x.a, .int .i64 x.b, .int .i64 x.n] 46) rfl (by kernel_rfl) (by kernel_rfl) (fun k1 w1 l1 x1 b1 => ?_))
  have zw1 := x1.size
  have tb1 := b1.lt
  refine Gx.ops_end ?_
  refine wp_seq ?_
  refine Gx.cut (d' := []) (n' := 89) (fun l' w' => l' = [(0, .pointer (some ⟨wb, 0, none⟩)), (3, .pointer (some ⟨k1, 0, none⟩)), (17, .bool ((decide (x.op < (0 : Int))) || (decide (x.op ≥ (23 : Int)))))] ∧ w1 = w') (fun K1 hK1 => ?_) (fun bb1 ll1 w2 hI1 => ?_)
  · refine Gx.reg [0, 1, 2, 3, 4, 5, 6, 7] (by kernel_rfl) ?_
    refine Gx.pure [0] [1, 2, 3, 4, 5, 6, 7] [(10, .pointer (some ⟨k1, 0, none⟩))] rfl (by kernel_rfl) ?_
    refine Gx.cons (Gx.op_load rfl (by kernel_rfl) rfl 0 (.int .i64 x.op) (by kernel_rfl) b1 (by kernel_rfl) ?_)
    refine Gx.pure [2, 3] [4, 5, 6, 7] [(13, .bool (decide (x.op < (0 : Int)))), (12, .bool (decide (x.op < (0 : Int))))] rfl (by kernel_rfl) ?_
    refine Gx.split (decide (x.op < (0 : Int))) (fun h_g13 => ?_) (fun h_g13 => ?_)
    · rw [h_g13]
      refine Gx.pure [4, 5, 6, 7] [] [(17, .bool true), (16, undef), (15, undef), (14, undef)] rfl (by kernel_rfl) ?_
      refine Gx.ops_end ?_
      rw [Gx.forget [(0, .pointer (some ⟨wb, 0, none⟩)), (3, .pointer (some ⟨k1, 0, none⟩)), (17, .bool ((decide (x.op < (0 : Int))) || (decide (x.op ≥ (23 : Int)))))] (by rw [h_g13]; try kernel_rfl)]
      exact hK1 _ _ _ ⟨rfl, rfl⟩
    rw [h_g13]
    refine Gx.pure [4] [5, 6, 7] [(14, .pointer (some ⟨k1, 0, none⟩))] rfl (by kernel_rfl) ?_
    refine Gx.cons (Gx.op_load rfl (by kernel_rfl) rfl 0 (.int .i64 x.op) (by kernel_rfl) b1 (by kernel_rfl) ?_)
    refine Gx.pure [6, 7] [] [(17, .bool (decide (x.op ≥ (23 : Int)))), (16, .bool (decide (x.op ≥ (23 : Int))))] rfl (by kernel_rfl) ?_
    refine Gx.ops_end ?_
    rw [Gx.forget [(0, .pointer (some ⟨wb, 0, none⟩)), (3, .pointer (some ⟨k1, 0, none⟩)), (17, .bool ((decide (x.op < (0 : Int))) || (decide (x.op ≥ (23 : Int)))))] (by rw [h_g13]; try kernel_rfl)]
    exact hK1 _ _ _ ⟨rfl, rfl⟩
  obtain ⟨rfl, rfl⟩ := hI1
  refine Gx.cond ((decide (x.op < (0 : Int))) || (decide (x.op ≥ (23 : Int)))) (by kernel_rfl) (fun h_c17 => ?_) (fun h_c17 => ?_)
  · skip
    refine Gx.seq_reg [0, 1, 2, 3] (by kernel_rfl) ?_
    refine Gx.pure [0, 1, 2] [3] [(20, .pointer (some ⟨wb, 1, none⟩)), (19, .pointer (some ⟨wb, 0, none⟩)), (18, .pointer (some ⟨wb, 0, none⟩))] rfl (by kernel_rfl) ?_
    refine Gx.cons (Gx.op_store rfl (by kernel_rfl) rfl 1 (.bool true) (by kernel_rfl) (by kernel_rfl) (hwb.ext x1) (by kernel_rfl) (by kernel_rfl) (by kernel_rfl) #[v, .bool true] (by kernel_rfl) (fun w3 u1 b2 => ?_))
    have zw3 := u1.size
    refine Gx.ops_end ?_
    refine wp_ret ?_
    refine Gx.then_ret ?_
    refine Gx.ret (Gx.res0 rfl) ?_
    have p_c17 := h_c17; try simp at p_c17
    obtain ⟨p1, hp1⟩ : ∃ q, q = p ++ [none] := ⟨_, rfl⟩
    have b3 : Gx.Has w3 wb (.cells #[v, .bool (bd p1)] 34) := by rw [hp1, bd_snoc, Option.isNone_none, Bool.or_true]; exact b2
    have ow1 : Gx.ownsM w3 B 5 v (cat p1).size (Lib.strCells (cat p1)) := by rw [hp1, cat_snoc]; show Gx.ownsM _ _ 5 _ (cat p ++ e0).size (Lib.strCells (cat p ++ e0)); rw [app_e0]; exact (Gx.own_upd1M (Gx.own_extM hown x1) u1 (Gx.own_neM (Gx.own_extM hown x1) (hwb.ext x1) (by decide)))
    have hz1 : (cat p1).size = (cat p).size := by rw [hp1, cat_snoc]; show (cat p ++ e0).size = _; rw [app_e0]
    exact hK _ p1 (by rw [hp1]; rw [insC, if_pos (by simpa using h_c17)]) (((Gx.Wx.refl w hBw).ext x1).upd u1 hB) ⟨_, b3, ow1, hB⟩ (by omega)
  refine wp_skip ?_
  refine Gx.then_normal ?_
  refine Gx.seq_reg [0, 1, 2, 3] (by kernel_rfl) ?_
  refine Gx.pure [0, 1] [2, 3] [(22, .pointer (some ⟨k1, 0, none⟩)), (21, .pointer (some ⟨wb, 0, none⟩))] rfl (by kernel_rfl) ?_
  refine Gx.cons (Gx.op_load rfl (by kernel_rfl) rfl 0 (.int .i64 x.op) (by kernel_rfl) b1 (by kernel_rfl) ?_)
  have p_c17 := h_c17; try simp at p_c17
  refine Gx.cons (Gx.op_call rfl (by kernel_rfl) (by kernel_rfl) (fun R hR => number_p B wb p x.op 1 _ R ⟨_, (hwb.ext x1), (Gx.own_extM hown x1), hB⟩ (by omega) (by omega) (by first | exact .inl rfl | exact .inr rfl) (by unfold I64 at *; omega) (fun w4 p2 hp2 x2 hw1 hz2 => hR _ _ ?_)))
  have zw4 := x2.size
  obtain ⟨v1, b4, ow2, _⟩ := hw1
  have tb4 := b4.lt
  refine Gx.ops_end ?_
  refine wp_seq ?_
  refine Gx.draw (S := fun w' => Gx.Has w' k1 (.cells #[.int .i64 x.op, .int .i64 x.a, .int .i64 x.b, .int .i64 x.n] 46)) (by kernel_rfl) (fun w5 x3 => ?_)
  have zw5 := x3.size
  refine Gx.any_take 0 (.pointer (some ⟨k1, 1, none⟩)) rfl (by kernel_rfl) (by kernel_rfl) (by kernel_rfl) (fun _ _ _ h => h) ((x2.has b1 (by omega) (by decide)).ext x3) (by kernel_rfl) (fun _ _ => (by kernel_rfl)) ?_
  refine Gx.any_take 1 (.int .i64 x.a) rfl (by kernel_rfl) (by kernel_rfl) (by kernel_rfl) (fun _ _ _ h => h) ((x2.has b1 (by omega) (by decide)).ext x3) (by kernel_rfl) (fun _ hs => Gx.run_load rfl 1 (.int .i64 x.a) (by kernel_rfl) hs (by kernel_rfl)) ?_
  refine Gx.any_take 2 (.pointer (some ⟨k1, 2, none⟩)) rfl (by kernel_rfl) (by kernel_rfl) (by kernel_rfl) (fun _ _ _ h => h) ((x2.has b1 (by omega) (by decide)).ext x3) (by kernel_rfl) (fun _ _ => (by kernel_rfl)) ?_
  refine Gx.any_take 3 (.int .i64 x.b) rfl (by kernel_rfl) (by kernel_rfl) (by kernel_rfl) (fun _ _ _ h => h) ((x2.has b1 (by omega) (by decide)).ext x3) (by kernel_rfl) (fun _ hs => Gx.run_load rfl 2 (.int .i64 x.b) (by kernel_rfl) hs (by kernel_rfl)) ?_
  refine Gx.any_take 4 (.pointer (some ⟨k1, 3, none⟩)) rfl (by kernel_rfl) (by kernel_rfl) (by kernel_rfl) (fun _ _ _ h => h) ((x2.has b1 (by omega) (by decide)).ext x3) (by kernel_rfl) (fun _ _ => (by kernel_rfl)) ?_
  refine Gx.any_take 5 (.int .i64 x.n) rfl (by kernel_rfl) (by kernel_rfl) (by kernel_rfl) (fun _ _ _ h => h) ((x2.has b1 (by omega) (by decide)).ext x3) (by kernel_rfl) (fun _ hs => Gx.run_load rfl 3 (.int .i64 x.n) (by kernel_rfl) hs (by kernel_rfl)) ?_
  refine Gx.any_take 6 (.int .i64 x.a) rfl (by kernel_rfl) (by kernel_rfl) (by kernel_rfl) (fun _ _ _ h => h) ((x2.has b1 (by omega) (by decide)).ext x3) (by kernel_rfl) (fun _ _ => (by kernel_rfl)) ?_
  refine Gx.any_take 7 (.int .i64 x.b) rfl (by kernel_rfl) (by kernel_rfl) (by kernel_rfl) (fun _ _ _ h => h) ((x2.has b1 (by omega) (by decide)).ext x3) (by kernel_rfl) (fun _ _ => (by kernel_rfl)) ?_
  refine Gx.any_take 8 (.int .i64 x.n) rfl (by kernel_rfl) (by kernel_rfl) (by kernel_rfl) (fun _ _ _ h => h) ((x2.has b1 (by omega) (by decide)).ext x3) (by kernel_rfl) (fun _ _ => (by kernel_rfl)) ?_
  refine Gx.any_done (by kernel_rfl) ?_
  refine Gx.then_normal ?_
  refine wp_seq ?_
  refine Gx.seq_reg [0, 1, 2, 3] (by kernel_rfl) ?_
  refine Gx.pure [0] [1, 2, 3] [(31, .pointer (some ⟨k1, 0, none⟩))] rfl (by kernel_rfl) ?_
  refine Gx.cons (Gx.op_load rfl (by kernel_rfl) rfl 0 (.int .i64 x.op) (by kernel_rfl) ((x2.has b1 (by omega) (by decide)).ext x3) (by kernel_rfl) ?_)
  refine Gx.cons (Gx.op_call rfl (by kernel_rfl) (by kernel_rfl) (fun R hR => operands_2 x.op _ R hf (hR _ _ ?_)))
  refine Gx.cons (Gx.op_new (.stringIter (⟨#[65, 66]⟩ : ByteArray) 0) rfl (by kernel_rfl) (by kernel_rfl) (fun k2 w6 l2 x4 b5 => ?_))
  have zw6 := x4.size
  have tb5 := b5.lt
  refine Gx.ops_end ?_
  refine wp_block ?_
  refine wp_loop_rounds 3 ?_
  refine Gx.rounds_step ?_
  refine Gx.seq_reg [0, 1] (by kernel_rfl) ?_
  refine Gx.cons (Gx.op_next_as rfl (by kernel_rfl) rfl (⟨#[65, 66]⟩ : ByteArray) 0 (by kernel_rfl) b5 (by decide) 65 1 (by decide +kernel) (fun w7 u2 b6 => ?_))
  have zw7 := u2.size
  refine Gx.pure [1] [] [(36, .bool true)] rfl (by kernel_rfl) ?_
  refine Gx.ops_end ?_
  refine wp_seq ?_
  refine Gx.cond_t (by kernel_rfl) ?_
  refine wp_skip ?_
  refine Gx.then_normal ?_
  refine wp_block ?_
  refine Gx.seq_run [(8, .int .i32 65), (37, .int .i32 65)] (by kernel_rfl) ?_
  refine Gx.seq_run [(38, .int .i32 65)] (by kernel_rfl) ?_
  refine wp_block ?_
  refine Gx.seq_run [(39, .bool false), (40, .bool false)] (by kernel_rfl) ?_
  refine Gx.cond_f (by kernel_rfl) ?_
  refine Gx.seq_run [(60, .bool true), (61, .bool true)] (by kernel_rfl) ?_
  refine Gx.cond_t (by kernel_rfl) ?_
  refine Gx.seq_reg [0, 1, 2] (by kernel_rfl) ?_
  refine Gx.pure [0, 1] [2] [(63, .int .i64 x.a), (62, .pointer (some ⟨wb, 0, none⟩))] rfl (by kernel_rfl) ?_
  refine Gx.cons (Gx.op_call rfl (by kernel_rfl) (by kernel_rfl) (fun R hR => number_p B wb p2 x.a 2 _ R ⟨_, (((b4.ext x3).ext x4).upd1 u2 (by omega)), (Gx.own_upd1M (Gx.own_extM (Gx.own_extM ow2 x3) x4) u2 (Gx.own_neMO (Gx.own_extM (Gx.own_extM ow2 x3) x4) b5 (fun _ _ q => by cases q))), hB⟩ (by omega) (by omega) (by first | exact .inl rfl | exact .inr rfl) (by unfold I64 at *; omega) (fun w8 p3 hp3 x5 hw2 hz3 => hR _ _ ?_)))
  have zw8 := x5.size
  obtain ⟨v2, b7, ow3, _⟩ := hw2
  have tb7 := b7.lt
  refine Gx.ops_end ?_
  refine Gx.reg_run [(4, .int .i64 0)] (by kernel_rfl) ?_
  refine Gx.block_normal ?_
  refine Gx.block_normal ?_
  refine Gx.then_normal ?_
  refine Gx.rounds_step ?_
  refine Gx.seq_reg [0, 1] (by kernel_rfl) ?_
  refine Gx.cons (Gx.op_next_as rfl (by kernel_rfl) rfl (⟨#[65, 66]⟩ : ByteArray) 1 (by kernel_rfl) (x5.iter b6 (by omega)) (by decide) 66 1 (by decide +kernel) (fun w9 u3 b8 => ?_))
  have zw9 := u3.size
  refine Gx.pure [1] [] [(36, .bool true)] rfl (by kernel_rfl) ?_
  refine Gx.ops_end ?_
  refine wp_seq ?_
  refine Gx.cond_t (by kernel_rfl) ?_
  refine wp_skip ?_
  refine Gx.then_normal ?_
  refine wp_block ?_
  refine Gx.seq_run [(8, .int .i32 66), (37, .int .i32 66)] (by kernel_rfl) ?_
  refine Gx.seq_run [(38, .int .i32 66)] (by kernel_rfl) ?_
  refine wp_block ?_
  refine Gx.seq_run [(39, .bool false), (40, .bool false)] (by kernel_rfl) ?_
  refine Gx.cond_f (by kernel_rfl) ?_
  refine Gx.seq_run [(60, .bool false), (61, .bool false)] (by kernel_rfl) ?_
  refine Gx.cond_f (by kernel_rfl) ?_
  refine Gx.seq_run [(65, .bool true), (66, .bool true)] (by kernel_rfl) ?_
  refine Gx.cond_t (by kernel_rfl) ?_
  refine Gx.seq_reg [0, 1, 2] (by kernel_rfl) ?_
  refine Gx.pure [0, 1] [2] [(68, .int .i64 x.b), (67, .pointer (some ⟨wb, 0, none⟩))] rfl (by kernel_rfl) ?_
  refine Gx.cons (Gx.op_call rfl (by kernel_rfl) (by kernel_rfl) (fun R hR => number_p B wb p3 x.b 2 _ R ⟨_, (b7.upd1 u3 (by omega)), (Gx.own_upd1M ow3 u3 (Gx.own_neMO ow3 (x5.iter b6 (by omega)) (fun _ _ q => by cases q))), hB⟩ (by omega) (by omega) (by first | exact .inl rfl | exact .inr rfl) (by unfold I64 at *; omega) (fun w10 p4 hp4 x6 hw3 hz4 => hR _ _ ?_)))
  have zw10 := x6.size
  obtain ⟨v3, b9, ow4, _⟩ := hw3
  have tb9 := b9.lt
  refine Gx.ops_end ?_
  refine Gx.reg_run [(5, .int .i64 0)] (by kernel_rfl) ?_
  refine Gx.block_normal ?_
  refine Gx.block_normal ?_
  refine Gx.then_normal ?_
  refine Gx.rounds_step ?_
  refine Gx.seq_reg [0, 1] (by kernel_rfl) ?_
  refine Gx.cons (Gx.op_next_end rfl (by kernel_rfl) rfl (⟨#[65, 66]⟩ : ByteArray) 2 (by kernel_rfl) (x6.iter b8 (by omega)) (by decide) ?_)
  refine Gx.pure [1] [] [(36, .bool false)] rfl (by kernel_rfl) ?_
  refine Gx.ops_end ?_
  refine wp_seq ?_
  refine Gx.cond_f (by kernel_rfl) ?_
  refine wp_exit ?_
  refine Gx.then_exit ?_
  refine Gx.then_exit ?_
  refine Gx.block_exit ?_
  refine Gx.then_normal ?_
  refine Gx.reg [0, 1, 2, 3, 4, 5, 6, 7, 8, 9, 10, 11, 12, 13, 14, 15, 16, 17, 18, 19] (by kernel_rfl) ?_
  refine Gx.pure [0, 1, 2, 3] [4, 5, 6, 7, 8, 9, 10, 11, 12, 13, 14, 15, 16, 17, 18, 19] [(73, .pointer (some ⟨wb, 1, none⟩)), (72, .pointer (some ⟨wb, 0, none⟩)), (71, .pointer (some ⟨wb, 0, none⟩)), (70, .pointer (some ⟨wb, 0, none⟩))] rfl (by kernel_rfl) ?_
  refine Gx.cons (Gx.op_load rfl (by kernel_rfl) rfl 1 (.bool (bd p4)) (by kernel_rfl) b9 (by kernel_rfl) ?_)
  refine Gx.pure [5] [6, 7, 8, 9, 10, 11, 12, 13, 14, 15, 16, 17, 18, 19] [(75, .bool (bd p4))] rfl (by kernel_rfl) ?_
  refine Gx.split (bd p4) (fun h_g75 => ?_) (fun h_g75 => ?_)
  · rw [h_g75]
    refine Gx.pure [6, 7, 8, 9, 10, 11, 12, 13, 14, 15, 16, 17, 18] [19] [(88, .pointer (some ⟨wb, 1, none⟩)), (87, .pointer (some ⟨wb, 0, none⟩)), (86, .bool true), (85, undef), (84, undef), (83, .bool true), (82, .bool true), (81, undef), (80, undef), (79, .bool true), (78, .bool true), (77, undef), (76, undef)] rfl (by kernel_rfl) ?_
    refine Gx.cons (Gx.op_store rfl (by kernel_rfl) rfl 1 (.bool true) (by kernel_rfl) (by kernel_rfl) b9 (by kernel_rfl) (by kernel_rfl) (by kernel_rfl) #[v3, .bool true] (by kernel_rfl) (fun w11 u4 b10 => ?_))
    have zw11 := u4.size
    refine Gx.ops_nil ?_
    refine Gx.ret_n (Gx.res0 rfl) ?_
    have p_g75 := h_g75; try simp at p_g75
    obtain ⟨p5, hp5⟩ : ∃ q, q = p4 ++ [markC (over x)] := ⟨_, rfl⟩
    have b11 : Gx.Has w11 wb (.cells #[v3, .bool (bd p5)] 34) := by rw [hp5, bd_snoc, markC_none, show (bd p4 || over x) = true by simp [over, hf, h_g75]]; exact b10
    have ow5 : Gx.ownsM w11 B 5 v3 (cat p5).size (Lib.strCells (cat p5)) := by rw [hp5, cat_snoc]; rw [markC_e0, app_e0]; exact (Gx.own_upd1M ow4 u4 (Gx.own_neM ow4 b9 (by decide)))
    have hz5 : (cat p5).size = (cat p4).size := by rw [hp5, cat_snoc]; rw [markC_e0, app_e0]
    exact hK _ p5 (by rw [hp5, hp4, hp3, hp2]; rw [insC, if_neg (by simpa using h_c17), hf]; simp) ((((((((((Gx.Wx.refl w hBw).ext x1).trans x2).ext x3).ext x4).upd_new u2 (by omega)).trans x5).upd_new u3 (by omega)).trans x6).upd u4 hB) ⟨_, b11, ow5, hB⟩ (by omega)
  rw [h_g75]
  refine Gx.pure [6, 7, 8, 9, 10, 11, 12, 13, 14, 15, 16, 17, 18] [19] [(88, .pointer (some ⟨wb, 1, none⟩)), (87, .pointer (some ⟨wb, 0, none⟩)), (86, .bool (x.n != (0 : Int))), (85, .bool (x.n != (0 : Int))), (84, .int .i64 x.n), (83, .bool false), (82, .bool false), (81, .bool false), (80, .int .i64 0), (79, .bool false), (78, .bool false), (77, .bool false), (76, .int .i64 0)] rfl (by kernel_rfl) ?_
  refine Gx.cons (Gx.op_store rfl (by kernel_rfl) rfl 1 (.bool (x.n != (0 : Int))) (by kernel_rfl) (by kernel_rfl) b9 (by kernel_rfl) (by kernel_rfl) (by kernel_rfl) #[v3, .bool (x.n != (0 : Int))] (by kernel_rfl) (fun w12 u5 b12 => ?_))
  have zw12 := u5.size
  refine Gx.ops_nil ?_
  refine Gx.ret_n (Gx.res0 rfl) ?_
  have p_g75 := h_g75; try simp at p_g75
  obtain ⟨p6, hp6⟩ : ∃ q, q = p4 ++ [markC (over x)] := ⟨_, rfl⟩
  have b13 : Gx.Has w12 wb (.cells #[v3, .bool (bd p6)] 34) := by rw [hp6, bd_snoc, markC_none, show (bd p4 || over x) = (x.n != (0 : Int)) by simp [over, hf, h_g75]]; exact b12
  have ow6 : Gx.ownsM w12 B 5 v3 (cat p6).size (Lib.strCells (cat p6)) := by rw [hp6, cat_snoc]; rw [markC_e0, app_e0]; exact (Gx.own_upd1M ow4 u5 (Gx.own_neM ow4 b9 (by decide)))
  have hz6 : (cat p6).size = (cat p4).size := by rw [hp6, cat_snoc]; rw [markC_e0, app_e0]
  exact hK _ p6 (by rw [hp6, hp4, hp3, hp2]; rw [insC, if_neg (by simpa using h_c17), hf]; simp) ((((((((((Gx.Wx.refl w hBw).ext x1).trans x2).ext x3).ext x4).upd_new u2 (by omega)).trans x5).upd_new u3 (by omega)).trans x6).upd u5 hB) ⟨_, b13, ow6, hB⟩ (by omega)

set_option maxHeartbeats 400000 in
set_option maxRecDepth 10000 in
theorem ins_0 (B wb : Nat) (p : List Ch) (x : InsP) (w : World) (K : Ending → World → Prop) (hw : Wr 34 5 w B wb (cat p) (bd p)) (hBw : B ≤ w.heap.size) (hbs : (cat p).size ≤ 70368744177000) (hf : form x.op = 0) (hx : I64 x.op ∧ I64 x.a ∧ I64 x.b ∧ I64 x.n) (hK : ∀ w' p', p' = p ++ insC x → Gx.Wx 5 B wb w w' → Wr 34 5 w' B wb (cat p') (bd p') → (cat p').size ≤ (cat p).size + 9 → K (.returned (.tuple #[])) w') :
    Calls Try.prog 8 #[.pointer (some ⟨wb, 0, none⟩), .agg #[.int .i64 x.op, .int .i64 x.a, .int .i64 x.b, .int .i64 x.n]] w K := by
  refine Gx.enter 89 Try.func8 rfl rfl (Nat.le_of_ble_eq_true rfl) ?_
  obtain ⟨v, hwb, hown, hB⟩ := hw
  have thwb := hwb.lt
  refine Gx.seq_reg [0] (by kernel_rfl) ?_
  refine Gx.cons (Gx.op_new (.cells #[.int .i64 x.op, .int .i64 x.a, .int .i64 x.b, .int .i64 x.n] 46) rfl (by kernel_rfl) (by kernel_rfl) (fun k1 w1 l1 x1 b1 => ?_))
  have zw1 := x1.size
  have tb1 := b1.lt
  refine Gx.ops_end ?_
  refine wp_seq ?_
  refine Gx.cut (d' := []) (n' := 89) (fun l' w' => l' = [(0, .pointer (some ⟨wb, 0, none⟩)), (3, .pointer (some ⟨k1, 0, none⟩)), (17, .bool ((decide (x.op < (0 : Int))) || (decide (x.op ≥ (23 : Int)))))] ∧ w1 = w') (fun K1 hK1 => ?_) (fun bb1 ll1 w2 hI1 => ?_)
  · refine Gx.reg [0, 1, 2, 3, 4, 5, 6, 7] (by kernel_rfl) ?_
    refine Gx.pure [0] [1, 2, 3, 4, 5, 6, 7] [(10, .pointer (some ⟨k1, 0, none⟩))] rfl (by kernel_rfl) ?_
    refine Gx.cons (Gx.op_load rfl (by kernel_rfl) rfl 0 (.int .i64 x.op) (by kernel_rfl) b1 (by kernel_rfl) ?_)
    refine Gx.pure [2, 3] [4, 5, 6, 7] [(13, .bool (decide (x.op < (0 : Int)))), (12, .bool (decide (x.op < (0 : Int))))] rfl (by kernel_rfl) ?_
    refine Gx.split (decide (x.op < (0 : Int))) (fun h_g13 => ?_) (fun h_g13 => ?_)
    · rw [h_g13]
      refine Gx.pure [4, 5, 6, 7] [] [(17, .bool true), (16, undef), (15, undef), (14, undef)] rfl (by kernel_rfl) ?_
      refine Gx.ops_end ?_
      rw [Gx.forget [(0, .pointer (some ⟨wb, 0, none⟩)), (3, .pointer (some ⟨k1, 0, none⟩)), (17, .bool ((decide (x.op < (0 : Int))) || (decide (x.op ≥ (23 : Int)))))] (by rw [h_g13]; try kernel_rfl)]
      exact hK1 _ _ _ ⟨rfl, rfl⟩
    rw [h_g13]
    refine Gx.pure [4] [5, 6, 7] [(14, .pointer (some ⟨k1, 0, none⟩))] rfl (by kernel_rfl) ?_
    refine Gx.cons (Gx.op_load rfl (by kernel_rfl) rfl 0 (.int .i64 x.op) (by kernel_rfl) b1 (by kernel_rfl) ?_)
    refine Gx.pure [6, 7] [] [(17, .bool (decide (x.op ≥ (23 : Int)))), (16, .bool (decide (x.op ≥ (23 : Int))))] rfl (by kernel_rfl) ?_
    refine Gx.ops_end ?_
    rw [Gx.forget [(0, .pointer (some ⟨wb, 0, none⟩)), (3, .pointer (some ⟨k1, 0, none⟩)), (17, .bool ((decide (x.op < (0 : Int))) || (decide (x.op ≥ (23 : Int)))))] (by rw [h_g13]; try kernel_rfl)]
    exact hK1 _ _ _ ⟨rfl, rfl⟩
  obtain ⟨rfl, rfl⟩ := hI1
  refine Gx.cond ((decide (x.op < (0 : Int))) || (decide (x.op ≥ (23 : Int)))) (by kernel_rfl) (fun h_c17 => ?_) (fun h_c17 => ?_)
  · skip
    refine Gx.seq_reg [0, 1, 2, 3] (by kernel_rfl) ?_
    refine Gx.pure [0, 1, 2] [3] [(20, .pointer (some ⟨wb, 1, none⟩)), (19, .pointer (some ⟨wb, 0, none⟩)), (18, .pointer (some ⟨wb, 0, none⟩))] rfl (by kernel_rfl) ?_
    refine Gx.cons (Gx.op_store rfl (by kernel_rfl) rfl 1 (.bool true) (by kernel_rfl) (by kernel_rfl) (hwb.ext x1) (by kernel_rfl) (by kernel_rfl) (by kernel_rfl) #[v, .bool true] (by kernel_rfl) (fun w3 u1 b2 => ?_))
    have zw3 := u1.size
    refine Gx.ops_end ?_
    refine wp_ret ?_
    refine Gx.then_ret ?_
    refine Gx.ret (Gx.res0 rfl) ?_
    have p_c17 := h_c17; try simp at p_c17
    obtain ⟨p1, hp1⟩ : ∃ q, q = p ++ [none] := ⟨_, rfl⟩
    have b3 : Gx.Has w3 wb (.cells #[v, .bool (bd p1)] 34) := by rw [hp1, bd_snoc, Option.isNone_none, Bool.or_true]; exact b2
    have ow1 : Gx.ownsM w3 B 5 v (cat p1).size (Lib.strCells (cat p1)) := by rw [hp1, cat_snoc]; show Gx.ownsM _ _ 5 _ (cat p ++ e0).size (Lib.strCells (cat p ++ e0)); rw [app_e0]; exact (Gx.own_upd1M (Gx.own_extM hown x1) u1 (Gx.own_neM (Gx.own_extM hown x1) (hwb.ext x1) (by decide)))
    have hz1 : (cat p1).size = (cat p).size := by rw [hp1, cat_snoc]; show (cat p ++ e0).size = _; rw [app_e0]
    exact hK _ p1 (by rw [hp1]; rw [insC, if_pos (by simpa using h_c17)]) (((Gx.Wx.refl w hBw).ext x1).upd u1 hB) ⟨_, b3, ow1, hB⟩ (by omega)
  refine wp_skip ?_
  refine Gx.then_normal ?_
  refine Gx.seq_reg [0, 1, 2, 3] (by kernel_rfl) ?_
  refine Gx.pure [0, 1] [2, 3] [(22, .pointer (some ⟨k1, 0, none⟩)), (21, .pointer (some ⟨wb, 0, none⟩))] rfl (by kernel_rfl) ?_
  refine Gx.cons (Gx.op_load rfl (by kernel_rfl) rfl 0 (.int .i64 x.op) (by kernel_rfl) b1 (by kernel_rfl) ?_)
  have p_c17 := h_c17; try simp at p_c17
  refine Gx.cons (Gx.op_call rfl (by kernel_rfl) (by kernel_rfl) (fun R hR => number_p B wb p x.op 1 _ R ⟨_, (hwb.ext x1), (Gx.own_extM hown x1), hB⟩ (by omega) (by omega) (by first | exact .inl rfl | exact .inr rfl) (by unfold I64 at *; omega) (fun w4 p2 hp2 x2 hw1 hz2 => hR _ _ ?_)))
  have zw4 := x2.size
  obtain ⟨v1, b4, ow2, _⟩ := hw1
  have tb4 := b4.lt
  refine Gx.ops_end ?_
  refine wp_seq ?_
  refine Gx.draw (S := fun w' => Gx.Has w' k1 (.cells #[.int .i64 x.op, .int .i64 x.a, .int .i64 x.b, .int .i64 x.n] 46)) (by kernel_rfl) (fun w5 x3 => ?_)
  have zw5 := x3.size
  refine Gx.any_take 0 (.pointer (some ⟨k1, 1, none⟩)) rfl (by kernel_rfl) (by kernel_rfl) (by kernel_rfl) (fun _ _ _ h => h) ((x2.has b1 (by omega) (by decide)).ext x3) (by kernel_rfl) (fun _ _ => (by kernel_rfl)) ?_
  refine Gx.any_take 1 (.int .i64 x.a) rfl (by kernel_rfl) (by kernel_rfl) (by kernel_rfl) (fun _ _ _ h => h) ((x2.has b1 (by omega) (by decide)).ext x3) (by kernel_rfl) (fun _ hs => Gx.run_load rfl 1 (.int .i64 x.a) (by kernel_rfl) hs (by kernel_rfl)) ?_
  refine Gx.any_take 2 (.pointer (some ⟨k1, 2, none⟩)) rfl (by kernel_rfl) (by kernel_rfl) (by kernel_rfl) (fun _ _ _ h => h) ((x2.has b1 (by omega) (by decide)).ext x3) (by kernel_rfl) (fun _ _ => (by kernel_rfl)) ?_
  refine Gx.any_take 3 (.int .i64 x.b) rfl (by kernel_rfl) (by kernel_rfl) (by kernel_rfl) (fun _ _ _ h => h) ((x2.has b1 (by omega) (by decide)).ext x3) (by kernel_rfl) (fun _ hs => Gx.run_load rfl 2 (.int .i64 x.b) (by kernel_rfl) hs (by kernel_rfl)) ?_
  refine Gx.any_take 4 (.pointer (some ⟨k1, 3, none⟩)) rfl (by kernel_rfl) (by kernel_rfl) (by kernel_rfl) (fun _ _ _ h => h) ((x2.has b1 (by omega) (by decide)).ext x3) (by kernel_rfl) (fun _ _ => (by kernel_rfl)) ?_
  refine Gx.any_take 5 (.int .i64 x.n) rfl (by kernel_rfl) (by kernel_rfl) (by kernel_rfl) (fun _ _ _ h => h) ((x2.has b1 (by omega) (by decide)).ext x3) (by kernel_rfl) (fun _ hs => Gx.run_load rfl 3 (.int .i64 x.n) (by kernel_rfl) hs (by kernel_rfl)) ?_
  refine Gx.any_take 6 (.int .i64 x.a) rfl (by kernel_rfl) (by kernel_rfl) (by kernel_rfl) (fun _ _ _ h => h) ((x2.has b1 (by omega) (by decide)).ext x3) (by kernel_rfl) (fun _ _ => (by kernel_rfl)) ?_
  refine Gx.any_take 7 (.int .i64 x.b) rfl (by kernel_rfl) (by kernel_rfl) (by kernel_rfl) (fun _ _ _ h => h) ((x2.has b1 (by omega) (by decide)).ext x3) (by kernel_rfl) (fun _ _ => (by kernel_rfl)) ?_
  refine Gx.any_take 8 (.int .i64 x.n) rfl (by kernel_rfl) (by kernel_rfl) (by kernel_rfl) (fun _ _ _ h => h) ((x2.has b1 (by omega) (by decide)).ext x3) (by kernel_rfl) (fun _ _ => (by kernel_rfl)) ?_
  refine Gx.any_done (by kernel_rfl) ?_
  refine Gx.then_normal ?_
  refine wp_seq ?_
  refine Gx.seq_reg [0, 1, 2, 3] (by kernel_rfl) ?_
  refine Gx.pure [0] [1, 2, 3] [(31, .pointer (some ⟨k1, 0, none⟩))] rfl (by kernel_rfl) ?_
  refine Gx.cons (Gx.op_load rfl (by kernel_rfl) rfl 0 (.int .i64 x.op) (by kernel_rfl) ((x2.has b1 (by omega) (by decide)).ext x3) (by kernel_rfl) ?_)
  refine Gx.cons (Gx.op_call rfl (by kernel_rfl) (by kernel_rfl) (fun R hR => operands_0 x.op _ R hf (hR _ _ ?_)))
  refine Gx.cons (Gx.op_new (.stringIter (⟨#[]⟩ : ByteArray) 0) rfl (by kernel_rfl) (by kernel_rfl) (fun k2 w6 l2 x4 b5 => ?_))
  have zw6 := x4.size
  have tb5 := b5.lt
  refine Gx.ops_end ?_
  refine wp_block ?_
  refine wp_loop_rounds 3 ?_
  refine Gx.rounds_step ?_
  refine Gx.seq_reg [0, 1] (by kernel_rfl) ?_
  refine Gx.cons (Gx.op_next_end rfl (by kernel_rfl) rfl (⟨#[]⟩ : ByteArray) 0 (by kernel_rfl) b5 (by decide) ?_)
  refine Gx.pure [1] [] [(36, .bool false)] rfl (by kernel_rfl) ?_
  refine Gx.ops_end ?_
  refine wp_seq ?_
  refine Gx.cond_f (by kernel_rfl) ?_
  refine wp_exit ?_
  refine Gx.then_exit ?_
  refine Gx.then_exit ?_
  refine Gx.block_exit ?_
  refine Gx.then_normal ?_
  refine Gx.reg [0, 1, 2, 3, 4, 5, 6, 7, 8, 9, 10, 11, 12, 13, 14, 15, 16, 17, 18, 19] (by kernel_rfl) ?_
  refine Gx.pure [0, 1, 2, 3] [4, 5, 6, 7, 8, 9, 10, 11, 12, 13, 14, 15, 16, 17, 18, 19] [(73, .pointer (some ⟨wb, 1, none⟩)), (72, .pointer (some ⟨wb, 0, none⟩)), (71, .pointer (some ⟨wb, 0, none⟩)), (70, .pointer (some ⟨wb, 0, none⟩))] rfl (by kernel_rfl) ?_
  refine Gx.cons (Gx.op_load rfl (by kernel_rfl) rfl 1 (.bool (bd p2)) (by kernel_rfl) ((b4.ext x3).ext x4) (by kernel_rfl) ?_)
  refine Gx.pure [5] [6, 7, 8, 9, 10, 11, 12, 13, 14, 15, 16, 17, 18, 19] [(75, .bool (bd p2))] rfl (by kernel_rfl) ?_
  refine Gx.split (bd p2) (fun h_g75 => ?_) (fun h_g75 => ?_)
  · rw [h_g75]
    refine Gx.pure [6, 7, 8, 9, 10, 11, 12, 13, 14, 15, 16, 17, 18] [19] [(88, .pointer (some ⟨wb, 1, none⟩)), (87, .pointer (some ⟨wb, 0, none⟩)), (86, .bool true), (85, undef), (84, undef), (83, .bool true), (82, .bool true), (81, undef), (80, undef), (79, .bool true), (78, .bool true), (77, undef), (76, undef)] rfl (by kernel_rfl) ?_
    refine Gx.cons (Gx.op_store rfl (by kernel_rfl) rfl 1 (.bool true) (by kernel_rfl) (by kernel_rfl) ((b4.ext x3).ext x4) (by kernel_rfl) (by kernel_rfl) (by kernel_rfl) #[v1, .bool true] (by kernel_rfl) (fun w7 u2 b6 => ?_))
    have zw7 := u2.size
    refine Gx.ops_nil ?_
    refine Gx.ret_n (Gx.res0 rfl) ?_
    have p_g75 := h_g75; try simp at p_g75
    obtain ⟨p3, hp3⟩ : ∃ q, q = p2 ++ [markC (over x)] := ⟨_, rfl⟩
    have b7 : Gx.Has w7 wb (.cells #[v1, .bool (bd p3)] 34) := by rw [hp3, bd_snoc, markC_none, show (bd p2 || over x) = true by simp [over, hf, h_g75]]; exact b6
    have ow3 : Gx.ownsM w7 B 5 v1 (cat p3).size (Lib.strCells (cat p3)) := by rw [hp3, cat_snoc]; rw [markC_e0, app_e0]; exact (Gx.own_upd1M (Gx.own_extM (Gx.own_extM ow2 x3) x4) u2 (Gx.own_neM (Gx.own_extM (Gx.own_extM ow2 x3) x4) ((b4.ext x3).ext x4) (by decide)))
    have hz3 : (cat p3).size = (cat p2).size := by rw [hp3, cat_snoc]; rw [markC_e0, app_e0]
    exact hK _ p3 (by rw [hp3, hp2]; rw [insC, if_neg (by simpa using h_c17), hf]; simp) ((((((Gx.Wx.refl w hBw).ext x1).trans x2).ext x3).ext x4).upd u2 hB) ⟨_, b7, ow3, hB⟩ (by omega)
  rw [h_g75]
  refine Gx.pure [6, 7, 8, 9] [10, 11, 12, 13, 14, 15, 16, 17, 18, 19] [(79, .bool (x.a != (0 : Int))), (78, .bool (x.a != (0 : Int))), (77, .bool (x.a != (0 : Int))), (76, .int .i64 x.a)] rfl (by kernel_rfl) ?_
  refine Gx.split (x.a != (0 : Int)) (fun h_g79 => ?_) (fun h_g79 => ?_)
  · rw [h_g79]
    refine Gx.pure [10, 11, 12, 13, 14, 15, 16, 17, 18] [19] [(88, .pointer (some ⟨wb, 1, none⟩)), (87, .pointer (some ⟨wb, 0, none⟩)), (86, .bool true), (85, undef), (84, undef), (83, .bool true), (82, .bool true), (81, undef), (80, undef)] rfl (by kernel_rfl) ?_
    refine Gx.cons (Gx.op_store rfl (by kernel_rfl) rfl 1 (.bool true) (by kernel_rfl) (by kernel_rfl) ((b4.ext x3).ext x4) (by kernel_rfl) (by kernel_rfl) (by kernel_rfl) #[v1, .bool true] (by kernel_rfl) (fun w8 u3 b8 => ?_))
    have zw8 := u3.size
    refine Gx.ops_nil ?_
    refine Gx.ret_n (Gx.res0 rfl) ?_
    have p_g75 := h_g75; try simp at p_g75
    have p_g79 := h_g79; try simp at p_g79
    obtain ⟨p4, hp4⟩ : ∃ q, q = p2 ++ [markC (over x)] := ⟨_, rfl⟩
    have b9 : Gx.Has w8 wb (.cells #[v1, .bool (bd p4)] 34) := by rw [hp4, bd_snoc, markC_none, show (bd p2 || over x) = true by simp [over, hf, h_g75, h_g79]]; exact b8
    have ow4 : Gx.ownsM w8 B 5 v1 (cat p4).size (Lib.strCells (cat p4)) := by rw [hp4, cat_snoc]; rw [markC_e0, app_e0]; exact (Gx.own_upd1M (Gx.own_extM (Gx.own_extM ow2 x3) x4) u3 (Gx.own_neM (Gx.own_extM (Gx.own_extM ow2 x3) x4) ((b4.ext x3).ext x4) (by decide)))
    have hz4 : (cat p4).size = (cat p2).size := by rw [hp4, cat_snoc]; rw [markC_e0, app_e0]
    exact hK _ p4 (by rw [hp4, hp2]; rw [insC, if_neg (by simpa using h_c17), hf]; simp) ((((((Gx.Wx.refl w hBw).ext x1).trans x2).ext x3).ext x4).upd u3 hB) ⟨_, b9, ow4, hB⟩ (by omega)
  rw [h_g79]
  refine Gx.pure [10, 11, 12, 13] [14, 15, 16, 17, 18, 19] [(83, .bool (x.b != (0 : Int))), (82, .bool (x.b != (0 : Int))), (81, .bool (x.b != (0 : Int))), (80, .int .i64 x.b)] rfl (by kernel_rfl) ?_
  refine Gx.split (x.b != (0 : Int)) (fun h_g83 => ?_) (fun h_g83 => ?_)
  · rw [h_g83]
    refine Gx.pure [14, 15, 16, 17, 18] [19] [(88, .pointer (some ⟨wb, 1, none⟩)), (87, .pointer (some ⟨wb, 0, none⟩)), (86, .bool true), (85, undef), (84, undef)] rfl (by kernel_rfl) ?_
    refine Gx.cons (Gx.op_store rfl (by kernel_rfl) rfl 1 (.bool true) (by kernel_rfl) (by kernel_rfl) ((b4.ext x3).ext x4) (by kernel_rfl) (by kernel_rfl) (by kernel_rfl) #[v1, .bool true] (by kernel_rfl) (fun w9 u4 b10 => ?_))
    have zw9 := u4.size
    refine Gx.ops_nil ?_
    refine Gx.ret_n (Gx.res0 rfl) ?_
    have p_g75 := h_g75; try simp at p_g75
    have p_g79 := h_g79; try simp at p_g79
    have p_g83 := h_g83; try simp at p_g83
    obtain ⟨p5, hp5⟩ : ∃ q, q = p2 ++ [markC (over x)] := ⟨_, rfl⟩
    have b11 : Gx.Has w9 wb (.cells #[v1, .bool (bd p5)] 34) := by rw [hp5, bd_snoc, markC_none, show (bd p2 || over x) = true by simp [over, hf, h_g75, h_g79, h_g83]]; exact b10
    have ow5 : Gx.ownsM w9 B 5 v1 (cat p5).size (Lib.strCells (cat p5)) := by rw [hp5, cat_snoc]; rw [markC_e0, app_e0]; exact (Gx.own_upd1M (Gx.own_extM (Gx.own_extM ow2 x3) x4) u4 (Gx.own_neM (Gx.own_extM (Gx.own_extM ow2 x3) x4) ((b4.ext x3).ext x4) (by decide)))
    have hz5 : (cat p5).size = (cat p2).size := by rw [hp5, cat_snoc]; rw [markC_e0, app_e0]
    exact hK _ p5 (by rw [hp5, hp2]; rw [insC, if_neg (by simpa using h_c17), hf]; simp) ((((((Gx.Wx.refl w hBw).ext x1).trans x2).ext x3).ext x4).upd u4 hB) ⟨_, b11, ow5, hB⟩ (by omega)
  rw [h_g83]
  refine Gx.pure [14, 15, 16, 17, 18] [19] [(88, .pointer (some ⟨wb, 1, none⟩)), (87, .pointer (some ⟨wb, 0, none⟩)), (86, .bool (x.n != (0 : Int))), (85, .bool (x.n != (0 : Int))), (84, .int .i64 x.n)] rfl (by kernel_rfl) ?_
  refine Gx.cons (Gx.op_store rfl (by kernel_rfl) rfl 1 (.bool (x.n != (0 : Int))) (by kernel_rfl) (by kernel_rfl) ((b4.ext x3).ext x4) (by kernel_rfl) (by kernel_rfl) (by kernel_rfl) #[v1, .bool (x.n != (0 : Int))] (by kernel_rfl) (fun w10 u5 b12 => ?_))
  have zw10 := u5.size
  refine Gx.ops_nil ?_
  refine Gx.ret_n (Gx.res0 rfl) ?_
  have p_g75 := h_g75; try simp at p_g75
  have p_g79 := h_g79; try simp at p_g79
  have p_g83 := h_g83; try simp at p_g83
  obtain ⟨p6, hp6⟩ : ∃ q, q = p2 ++ [markC (over x)] := ⟨_, rfl⟩
  have b13 : Gx.Has w10 wb (.cells #[v1, .bool (bd p6)] 34) := by rw [hp6, bd_snoc, markC_none, show (bd p2 || over x) = (x.n != (0 : Int)) by simp [over, hf, h_g75, h_g79, h_g83]]; exact b12
  have ow6 : Gx.ownsM w10 B 5 v1 (cat p6).size (Lib.strCells (cat p6)) := by rw [hp6, cat_snoc]; rw [markC_e0, app_e0]; exact (Gx.own_upd1M (Gx.own_extM (Gx.own_extM ow2 x3) x4) u5 (Gx.own_neM (Gx.own_extM (Gx.own_extM ow2 x3) x4) ((b4.ext x3).ext x4) (by decide)))
  have hz6 : (cat p6).size = (cat p2).size := by rw [hp6, cat_snoc]; rw [markC_e0, app_e0]
  exact hK _ p6 (by rw [hp6, hp2]; rw [insC, if_neg (by simpa using h_c17), hf]; simp) ((((((Gx.Wx.refl w hBw).ext x1).trans x2).ext x3).ext x4).upd u5 hB) ⟨_, b13, ow6, hB⟩ (by omega)


theorem form_cases (op : Int) : form op = 8 ∨ form op = 1 ∨ form op = 2 ∨ form op = 0 := by
  unfold form
  split
  · exact .inl rfl
  · split
    · exact .inr (.inl rfl)
    · split
      · exact .inr (.inr (.inl rfl))
      · exact .inr (.inr (.inr rfl))
theorem ins_p (B wb : Nat) (p : List Ch) (x : InsP) (w : World) (K : Ending → World → Prop) (hw : Wr 34 5 w B wb (cat p) (bd p)) (hBw : B ≤ w.heap.size) (hbs : (cat p).size ≤ 70368744177000) (hx : I64 x.op ∧ I64 x.a ∧ I64 x.b ∧ I64 x.n)
    (hK : ∀ w' p', p' = p ++ insC x → Gx.Wx 5 B wb w w' → Wr 34 5 w' B wb (cat p') (bd p') → (cat p').size ≤ (cat p).size + 9 → K (.returned (.tuple #[])) w') :
    Calls Try.prog 8 #[.pointer (some ⟨wb, 0, none⟩), .agg #[.int .i64 x.op, .int .i64 x.a, .int .i64 x.b, .int .i64 x.n]] w K := by
  rcases form_cases x.op with h | h | h | h
  · exact ins_8 B wb p x w K hw hBw hbs h hx hK
  · exact ins_1 B wb p x w K hw hBw hbs h hx hK
  · exact ins_2 B wb p x w K hw hBw hbs h hx hK
  · exact ins_0 B wb p x w K hw hBw hbs h hx hK

end Go.Proofs.Ytccjnoefjehmhaa
