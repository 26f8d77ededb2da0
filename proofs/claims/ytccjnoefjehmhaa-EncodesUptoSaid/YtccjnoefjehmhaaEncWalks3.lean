/- The walks of the encoders' functions, written by a program of ours (wip/gx/gx.py, wip/enc/encgen.py). -/
import Derived.Test.YtccjnoefjehmhaaRows
import Derived.Test.YtccjnoefjehmhaaGw
import Derived.Test.YtccjnoefjehmhaaEncPlain
import Derived.Test.YtccjnoefjehmhaaEncWalks1
import Derived.Test.YtccjnoefjehmhaaEncWalks2
namespace Go.Proofs.Ytccjnoefjehmhaa
open Go.RowKit Go.Enc
attribute [local irreducible] Go.wpOps Go.Code.wp Go.wpOp Go.wpAnyH Go.Calls

theorem number_p (B wb : Nat) (p : List Ch) (n : Int) (sz : Nat) (w : World) (K : Ending → World → Prop) (hw : Wr 34 5 w B wb (cat p) (bd p)) (hBw : B ≤ w.heap.size) (hbs : (cat p).size ≤ 70368744177664) (hsz : sz = 1 ∨ sz = 2) (hn : I64 n)
    (hK : ∀ w' p', p' = p ++ [numC n sz] → Gx.Wx 5 B wb w w' → Wr 34 5 w' B wb (cat p') (bd p') → (cat p').size ≤ (cat p).size + sz → K (.returned (.tuple #[])) w') :
    Calls Try.prog 6 #[.pointer (some ⟨wb, 0, none⟩), .int .i64 n, .int .i64 ((sz : Nat) : Int)] w K := by
  refine number_c B wb (cat p) (bd p) n sz w K hw hBw hbs hsz hn (fun w' x h => hK w' _ rfl x ?_ ?_)
  · rw [cat_snoc, bd_snoc]
    cases hf : fitB n sz
    · rw [numC_no hf]; rw [hf] at h; simp only [cond_false, Bool.not_false, Bool.or_true] at h; show Wr 34 5 w' B wb (cat p ++ e0) (bd p || true); rw [app_e0, Bool.or_true]; exact h
    · rw [numC_yes hf]; rw [hf] at h; simp only [cond_true, Bool.not_true, Bool.or_false] at h; show Wr 34 5 w' B wb (cat p ++ bigB n sz) (bd p || false); rw [Bool.or_false]; exact h
  · rw [cat_snoc, ByteArray.size_append]
    have := numC_size n sz
    omega

set_option maxHeartbeats 400000 in
set_option maxRecDepth 10000 in
theorem flag_p (B wb : Nat) (p : List Ch) (b : Bool) (w : World) (K : Ending → World → Prop) (hw : Wr 34 5 w B wb (cat p) (bd p)) (hBw : B ≤ w.heap.size) (hbs : (cat p).size ≤ 70368744177000) (hK : ∀ w' p', p' = p ++ [flagC b] → Gx.Wx 5 B wb w w' → Wr 34 5 w' B wb (cat p') (bd p') → (cat p').size ≤ (cat p).size + 1 → K (.returned (.tuple #[])) w') :
    Calls Try.prog 7 #[.pointer (some ⟨wb, 0, none⟩), .bool b] w K := by
  refine Gx.enter 9 Try.func7 rfl rfl (Nat.le_of_ble_eq_true rfl) ?_
  obtain ⟨v, hwb, hown, hB⟩ := hw
  have thwb := hwb.lt
  refine Gx.seq_run [(4, .int .i64 0)] (by kernel_rfl) ?_
  refine wp_seq ?_
  refine Gx.seq_run [(5, .bool b)] (by kernel_rfl) ?_
  refine Gx.cond b (by kernel_rfl) (fun h_c5 => ?_) (fun h_c5 => ?_)
  · skip
    refine Gx.reg_run [(4, .int .i64 1)] (by kernel_rfl) ?_
    refine Gx.then_normal ?_
    refine Gx.reg [0, 1, 2] (by kernel_rfl) ?_
    refine Gx.pure [0, 1] [2] [(7, .int .i64 1), (6, .pointer (some ⟨wb, 0, none⟩))] rfl (by kernel_rfl) ?_
    have p_c5 := h_c5; try simp at p_c5
    refine Gx.cons (Gx.op_call rfl (by kernel_rfl) (by kernel_rfl) (fun R hR => number_p B wb p (1 : Int) 1 _ R ⟨_, hwb, hown, hB⟩ (by omega) (by omega) (by first | exact .inl rfl | exact .inr rfl) (by unfold I64 at *; omega) (fun w1 p1 hp1 x1 hw1 hz1 => hR _ _ ?_)))
    have zw1 := x1.size
    obtain ⟨v1, b1, ow1, _⟩ := hw1
    have tb1 := b1.lt
    refine Gx.ops_nil ?_
    refine Gx.ret_n (Gx.res0 rfl) ?_
    exact hK _ p1 (by rw [hp1]; rw [flagC, flagN, h_c5]; rfl) ((Gx.Wx.refl w hBw).trans x1) ⟨_, b1, ow1, hB⟩ (by omega)
  refine wp_skip ?_
  refine Gx.then_normal ?_
  refine Gx.reg [0, 1, 2] (by kernel_rfl) ?_
  refine Gx.pure [0, 1] [2] [(7, .int .i64 0), (6, .pointer (some ⟨wb, 0, none⟩))] rfl (by kernel_rfl) ?_
  have p_c5 := h_c5; try simp at p_c5
  refine Gx.cons (Gx.op_call rfl (by kernel_rfl) (by kernel_rfl) (fun R hR => number_p B wb p (0 : Int) 1 _ R ⟨_, hwb, hown, hB⟩ (by omega) (by omega) (by first | exact .inl rfl | exact .inr rfl) (by unfold I64 at *; omega) (fun w2 p2 hp2 x2 hw2 hz2 => hR _ _ ?_)))
  have zw2 := x2.size
  obtain ⟨v2, b2, ow2, _⟩ := hw2
  have tb2 := b2.lt
  refine Gx.ops_nil ?_
  refine Gx.ret_n (Gx.res0 rfl) ?_
  exact hK _ p2 (by rw [hp2]; rw [flagC, flagN, h_c5]; rfl) ((Gx.Wx.refl w hBw).trans x2) ⟨_, b2, ow2, hB⟩ (by omega)

set_option maxHeartbeats 400000 in
set_option maxRecDepth 10000 in
theorem operands_c (op : Int) (w : World) (K : Ending → World → Prop)  (hK : K (.returned (.string (operandsB op))) w) :
    Calls Try.prog 13 #[.int .i64 op] w K := by
  refine Gx.enter 18 Try.func13 rfl rfl (Nat.le_of_ble_eq_true rfl) ?_
  refine Gx.seq_run [(2, .string (⟨#[]⟩ : ByteArray))] (by kernel_rfl) ?_
  refine wp_seq ?_
  refine Gx.seq_run [(3, .int .i64 op)] (by kernel_rfl) ?_
  refine wp_block ?_
  refine Gx.seq_run [(4, .bool (op == (0 : Int))), (5, .bool (op == (0 : Int)))] (by kernel_rfl) ?_
  refine Gx.cond (op == (0 : Int)) (by kernel_rfl) (fun h_c4 => ?_) (fun h_c4 => ?_)
  · skip
    refine Gx.seq_run [(2, .string (⟨#[78]⟩ : ByteArray))] (by kernel_rfl) ?_
    refine wp_ret ?_
    refine Gx.block_ret ?_
    refine Gx.then_ret ?_
    refine Gx.ret (v := .string (⟨#[78]⟩ : ByteArray)) (Gx.res1 rfl (by kernel_rfl)) ?_
    have p_c4 := h_c4; try simp at p_c4
    exact Gx.ret_as (v' := .string (operandsB op)) (by congr 1; simp [operandsB, form, *]) (hK)
  refine wp_seq ?_
  refine Gx.seq_run [(6, .bool (op == (2 : Int))), (7, .bool (op == (2 : Int)))] (by kernel_rfl) ?_
  refine Gx.cond (op == (2 : Int)) (by kernel_rfl) (fun h_c6 => ?_) (fun h_c6 => ?_)
  · skip
    refine wp_skip ?_
    refine Gx.then_normal ?_
    refine Gx.cond (op == (2 : Int)) (by kernel_rfl) (fun hk_ => ?_) (fun hk_ => absurd (h_c6.symm.trans hk_) (by decide))
    refine Gx.seq_run [(2, .string (⟨#[65]⟩ : ByteArray))] (by kernel_rfl) ?_
    refine wp_ret ?_
    refine Gx.block_ret ?_
    refine Gx.then_ret ?_
    refine Gx.ret (v := .string (⟨#[65]⟩ : ByteArray)) (Gx.res1 rfl (by kernel_rfl)) ?_
    have p_c4 := h_c4; try simp at p_c4
    have p_c6 := h_c6; try simp at p_c6
    exact Gx.ret_as (v' := .string (operandsB op)) (by congr 1; simp [operandsB, form, *]) (hK)
  refine Gx.seq_run [(6, .bool (op == (3 : Int))), (8, .bool (op == (3 : Int)))] (by kernel_rfl) ?_
  refine Gx.cond (op == (3 : Int)) (by kernel_rfl) (fun h_c6_1 => ?_) (fun h_c6_1 => ?_)
  · skip
    refine wp_skip ?_
    refine Gx.then_normal ?_
    refine Gx.cond (op == (3 : Int)) (by kernel_rfl) (fun hk_ => ?_) (fun hk_ => absurd (h_c6_1.symm.trans hk_) (by decide))
    refine Gx.seq_run [(2, .string (⟨#[65]⟩ : ByteArray))] (by kernel_rfl) ?_
    refine wp_ret ?_
    refine Gx.block_ret ?_
    refine Gx.then_ret ?_
    refine Gx.ret (v := .string (⟨#[65]⟩ : ByteArray)) (Gx.res1 rfl (by kernel_rfl)) ?_
    have p_c4 := h_c4; try simp at p_c4
    have p_c6 := h_c6; try simp at p_c6
    have p_c6_1 := h_c6_1; try simp at p_c6_1
    exact Gx.ret_as (v' := .string (operandsB op)) (by congr 1; simp [operandsB, form, *]) (hK)
  refine Gx.seq_run [(6, .bool (op == (4 : Int))), (9, .bool (op == (4 : Int)))] (by kernel_rfl) ?_
  refine Gx.cond (op == (4 : Int)) (by kernel_rfl) (fun h_c6_2 => ?_) (fun h_c6_2 => ?_)
  · skip
    refine wp_skip ?_
    refine Gx.then_normal ?_
    refine Gx.cond (op == (4 : Int)) (by kernel_rfl) (fun hk_ => ?_) (fun hk_ => absurd (h_c6_2.symm.trans hk_) (by decide))
    refine Gx.seq_run [(2, .string (⟨#[65]⟩ : ByteArray))] (by kernel_rfl) ?_
    refine wp_ret ?_
    refine Gx.block_ret ?_
    refine Gx.then_ret ?_
    refine Gx.ret (v := .string (⟨#[65]⟩ : ByteArray)) (Gx.res1 rfl (by kernel_rfl)) ?_
    have p_c4 := h_c4; try simp at p_c4
    have p_c6 := h_c6; try simp at p_c6
    have p_c6_1 := h_c6_1; try simp at p_c6_1
    have p_c6_2 := h_c6_2; try simp at p_c6_2
    exact Gx.ret_as (v' := .string (operandsB op)) (by congr 1; simp [operandsB, form, *]) (hK)
  refine Gx.seq_run [(6, .bool (op == (12 : Int))), (10, .bool (op == (12 : Int)))] (by kernel_rfl) ?_
  refine Gx.cond (op == (12 : Int)) (by kernel_rfl) (fun h_c6_3 => ?_) (fun h_c6_3 => ?_)
  · skip
    refine wp_skip ?_
    refine Gx.then_normal ?_
    refine Gx.cond (op == (12 : Int)) (by kernel_rfl) (fun hk_ => ?_) (fun hk_ => absurd (h_c6_3.symm.trans hk_) (by decide))
    refine Gx.seq_run [(2, .string (⟨#[65]⟩ : ByteArray))] (by kernel_rfl) ?_
    refine wp_ret ?_
    refine Gx.block_ret ?_
    refine Gx.then_ret ?_
    refine Gx.ret (v := .string (⟨#[65]⟩ : ByteArray)) (Gx.res1 rfl (by kernel_rfl)) ?_
    have p_c4 := h_c4; try simp at p_c4
    have p_c6 := h_c6; try simp at p_c6
    have p_c6_1 := h_c6_1; try simp at p_c6_1
    have p_c6_2 := h_c6_2; try simp at p_c6_2
    have p_c6_3 := h_c6_3; try simp at p_c6_3
    exact Gx.ret_as (v' := .string (operandsB op)) (by congr 1; simp [operandsB, form, *]) (hK)
  refine Gx.seq_run [(6, .bool (op == (13 : Int))), (11, .bool (op == (13 : Int)))] (by kernel_rfl) ?_
  refine Gx.cond (op == (13 : Int)) (by kernel_rfl) (fun h_c6_4 => ?_) (fun h_c6_4 => ?_)
  · skip
    refine wp_skip ?_
    refine Gx.then_normal ?_
    refine Gx.cond (op == (13 : Int)) (by kernel_rfl) (fun hk_ => ?_) (fun hk_ => absurd (h_c6_4.symm.trans hk_) (by decide))
    refine Gx.seq_run [(2, .string (⟨#[65]⟩ : ByteArray))] (by kernel_rfl) ?_
    refine wp_ret ?_
    refine Gx.block_ret ?_
    refine Gx.then_ret ?_
    refine Gx.ret (v := .string (⟨#[65]⟩ : ByteArray)) (Gx.res1 rfl (by kernel_rfl)) ?_
    have p_c4 := h_c4; try simp at p_c4
    have p_c6 := h_c6; try simp at p_c6
    have p_c6_1 := h_c6_1; try simp at p_c6_1
    have p_c6_2 := h_c6_2; try simp at p_c6_2
    have p_c6_3 := h_c6_3; try simp at p_c6_3
    have p_c6_4 := h_c6_4; try simp at p_c6_4
    exact Gx.ret_as (v' := .string (operandsB op)) (by congr 1; simp [operandsB, form, *]) (hK)
  refine Gx.seq_run [(6, .bool (op == (18 : Int))), (12, .bool (op == (18 : Int)))] (by kernel_rfl) ?_
  refine Gx.cond (op == (18 : Int)) (by kernel_rfl) (fun h_c6_5 => ?_) (fun h_c6_5 => ?_)
  · skip
    refine wp_skip ?_
    refine Gx.then_normal ?_
    refine Gx.cond (op == (18 : Int)) (by kernel_rfl) (fun hk_ => ?_) (fun hk_ => absurd (h_c6_5.symm.trans hk_) (by decide))
    refine Gx.seq_run [(2, .string (⟨#[65]⟩ : ByteArray))] (by kernel_rfl) ?_
    refine wp_ret ?_
    refine Gx.block_ret ?_
    refine Gx.then_ret ?_
    refine Gx.ret (v := .string (⟨#[65]⟩ : ByteArray)) (Gx.res1 rfl (by kernel_rfl)) ?_
    have p_c4 := h_c4; try simp at p_c4
    have p_c6 := h_c6; try simp at p_c6
    have p_c6_1 := h_c6_1; try simp at p_c6_1
    have p_c6_2 := h_c6_2; try simp at p_c6_2
    have p_c6_3 := h_c6_3; try simp at p_c6_3
    have p_c6_4 := h_c6_4; try simp at p_c6_4
    have p_c6_5 := h_c6_5; try simp at p_c6_5
    exact Gx.ret_as (v' := .string (operandsB op)) (by congr 1; simp [operandsB, form, *]) (hK)
  refine Gx.seq_run [(6, .bool (op == (19 : Int))), (13, .bool (op == (19 : Int)))] (by kernel_rfl) ?_
  refine Gx.cond (op == (19 : Int)) (by kernel_rfl) (fun h_c6_6 => ?_) (fun h_c6_6 => ?_)
  · skip
    refine wp_skip ?_
    refine Gx.then_normal ?_
    refine Gx.cond (op == (19 : Int)) (by kernel_rfl) (fun hk_ => ?_) (fun hk_ => absurd (h_c6_6.symm.trans hk_) (by decide))
    refine Gx.seq_run [(2, .string (⟨#[65]⟩ : ByteArray))] (by kernel_rfl) ?_
    refine wp_ret ?_
    refine Gx.block_ret ?_
    refine Gx.then_ret ?_
    refine Gx.ret (v := .string (⟨#[65]⟩ : ByteArray)) (Gx.res1 rfl (by kernel_rfl)) ?_
    have p_c4 := h_c4; try simp at p_c4
    have p_c6 := h_c6; try simp at p_c6
    have p_c6_1 := h_c6_1; try simp at p_c6_1
    have p_c6_2 := h_c6_2; try simp at p_c6_2
    have p_c6_3 := h_c6_3; try simp at p_c6_3
    have p_c6_4 := h_c6_4; try simp at p_c6_4
    have p_c6_5 := h_c6_5; try simp at p_c6_5
    have p_c6_6 := h_c6_6; try simp at p_c6_6
    exact Gx.ret_as (v' := .string (operandsB op)) (by congr 1; simp [operandsB, form, *]) (hK)
  refine Gx.seq_run [(6, .bool (op == (21 : Int))), (14, .bool (op == (21 : Int)))] (by kernel_rfl) ?_
  refine Gx.cond (op == (21 : Int)) (by kernel_rfl) (fun h_c6_7 => ?_) (fun h_c6_7 => ?_)
  · skip
    refine wp_skip ?_
    refine Gx.then_normal ?_
    refine Gx.cond (op == (21 : Int)) (by kernel_rfl) (fun hk_ => ?_) (fun hk_ => absurd (h_c6_7.symm.trans hk_) (by decide))
    refine Gx.seq_run [(2, .string (⟨#[65]⟩ : ByteArray))] (by kernel_rfl) ?_
    refine wp_ret ?_
    refine Gx.block_ret ?_
    refine Gx.then_ret ?_
    refine Gx.ret (v := .string (⟨#[65]⟩ : ByteArray)) (Gx.res1 rfl (by kernel_rfl)) ?_
    have p_c4 := h_c4; try simp at p_c4
    have p_c6 := h_c6; try simp at p_c6
    have p_c6_1 := h_c6_1; try simp at p_c6_1
    have p_c6_2 := h_c6_2; try simp at p_c6_2
    have p_c6_3 := h_c6_3; try simp at p_c6_3
    have p_c6_4 := h_c6_4; try simp at p_c6_4
    have p_c6_5 := h_c6_5; try simp at p_c6_5
    have p_c6_6 := h_c6_6; try simp at p_c6_6
    have p_c6_7 := h_c6_7; try simp at p_c6_7
    exact Gx.ret_as (v' := .string (operandsB op)) (by congr 1; simp [operandsB, form, *]) (hK)
  refine Gx.reg_run [(6, .bool (op == (22 : Int))), (15, .bool (op == (22 : Int)))] (by kernel_rfl) ?_
  refine Gx.then_normal ?_
  refine Gx.cond (op == (22 : Int)) (by kernel_rfl) (fun h_c6_8 => ?_) (fun h_c6_8 => ?_)
  · skip
    refine Gx.seq_run [(2, .string (⟨#[65]⟩ : ByteArray))] (by kernel_rfl) ?_
    refine wp_ret ?_
    refine Gx.block_ret ?_
    refine Gx.then_ret ?_
    refine Gx.ret (v := .string (⟨#[65]⟩ : ByteArray)) (Gx.res1 rfl (by kernel_rfl)) ?_
    have p_c4 := h_c4; try simp at p_c4
    have p_c6 := h_c6; try simp at p_c6
    have p_c6_1 := h_c6_1; try simp at p_c6_1
    have p_c6_2 := h_c6_2; try simp at p_c6_2
    have p_c6_3 := h_c6_3; try simp at p_c6_3
    have p_c6_4 := h_c6_4; try simp at p_c6_4
    have p_c6_5 := h_c6_5; try simp at p_c6_5
    have p_c6_6 := h_c6_6; try simp at p_c6_6
    have p_c6_7 := h_c6_7; try simp at p_c6_7
    have p_c6_8 := h_c6_8; try simp at p_c6_8
    exact Gx.ret_as (v' := .string (operandsB op)) (by congr 1; simp [operandsB, form, *]) (hK)
  refine Gx.seq_run [(16, .bool (op == (14 : Int))), (17, .bool (op == (14 : Int)))] (by kernel_rfl) ?_
  refine Gx.cond (op == (14 : Int)) (by kernel_rfl) (fun h_c16 => ?_) (fun h_c16 => ?_)
  · skip
    refine Gx.seq_run [(2, .string (⟨#[65, 66]⟩ : ByteArray))] (by kernel_rfl) ?_
    refine wp_ret ?_
    refine Gx.block_ret ?_
    refine Gx.then_ret ?_
    refine Gx.ret (v := .string (⟨#[65, 66]⟩ : ByteArray)) (Gx.res1 rfl (by kernel_rfl)) ?_
    have p_c4 := h_c4; try simp at p_c4
    have p_c6 := h_c6; try simp at p_c6
    have p_c6_1 := h_c6_1; try simp at p_c6_1
    have p_c6_2 := h_c6_2; try simp at p_c6_2
    have p_c6_3 := h_c6_3; try simp at p_c6_3
    have p_c6_4 := h_c6_4; try simp at p_c6_4
    have p_c6_5 := h_c6_5; try simp at p_c6_5
    have p_c6_6 := h_c6_6; try simp at p_c6_6
    have p_c6_7 := h_c6_7; try simp at p_c6_7
    have p_c6_8 := h_c6_8; try simp at p_c6_8
    have p_c16 := h_c16; try simp at p_c16
    exact Gx.ret_as (v' := .string (operandsB op)) (by congr 1; simp [operandsB, form, *]) (hK)
  refine wp_skip ?_
  refine Gx.block_normal ?_
  refine Gx.then_normal ?_
  refine Gx.seq_run [(2, .string (⟨#[]⟩ : ByteArray))] (by kernel_rfl) ?_
  refine wp_ret ?_
  refine Gx.ret (v := .string (⟨#[]⟩ : ByteArray)) (Gx.res1 rfl (by kernel_rfl)) ?_
  have p_c4 := h_c4; try simp at p_c4
  have p_c6 := h_c6; try simp at p_c6
  have p_c6_1 := h_c6_1; try simp at p_c6_1
  have p_c6_2 := h_c6_2; try simp at p_c6_2
  have p_c6_3 := h_c6_3; try simp at p_c6_3
  have p_c6_4 := h_c6_4; try simp at p_c6_4
  have p_c6_5 := h_c6_5; try simp at p_c6_5
  have p_c6_6 := h_c6_6; try simp at p_c6_6
  have p_c6_7 := h_c6_7; try simp at p_c6_7
  have p_c6_8 := h_c6_8; try simp at p_c6_8
  have p_c16 := h_c16; try simp at p_c16
  exact Gx.ret_as (v' := .string (operandsB op)) (by congr 1; simp [operandsB, form, *]) (hK)


theorem operands_8 (op : Int) (w : World) (K : Ending → World → Prop) (hf : form op = 8) (hK : K (.returned (.string (⟨#[78]⟩ : ByteArray))) w) : Calls Try.prog 13 #[.int .i64 op] w K := by
  refine operands_c op w K ?_
  rw [operandsB, hf]
  exact hK


theorem operands_1 (op : Int) (w : World) (K : Ending → World → Prop) (hf : form op = 1) (hK : K (.returned (.string (⟨#[65]⟩ : ByteArray))) w) : Calls Try.prog 13 #[.int .i64 op] w K := by
  refine operands_c op w K ?_
  rw [operandsB, hf]
  exact hK


theorem operands_2 (op : Int) (w : World) (K : Ending → World → Prop) (hf : form op = 2) (hK : K (.returned (.string (⟨#[65, 66]⟩ : ByteArray))) w) : Calls Try.prog 13 #[.int .i64 op] w K := by
  refine operands_c op w K ?_
  rw [operandsB, hf]
  exact hK


theorem operands_0 (op : Int) (w : World) (K : Ending → World → Prop) (hf : form op = 0) (hK : K (.returned (.string (⟨#[]⟩ : ByteArray))) w) : Calls Try.prog 13 #[.int .i64 op] w K := by
  refine operands_c op w K ?_
  rw [operandsB, hf]
  exact hK

end Go.Proofs.Ytccjnoefjehmhaa
