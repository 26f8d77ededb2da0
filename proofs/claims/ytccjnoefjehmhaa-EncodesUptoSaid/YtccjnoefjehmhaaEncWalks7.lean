/- The walks of the encoders' functions, written by a program of ours (wip/gx/gx.py, wip/enc/encgen.py). -/
import Derived.Test.YtccjnoefjehmhaaRows
import Derived.Test.YtccjnoefjehmhaaGw
import Derived.Test.YtccjnoefjehmhaaEncPlain
import Derived.Test.YtccjnoefjehmhaaEncWalks1
import Derived.Test.YtccjnoefjehmhaaEncWalks2
import Derived.Test.YtccjnoefjehmhaaEncWalks3
import Derived.Test.YtccjnoefjehmhaaEncWalks4
import Derived.Test.YtccjnoefjehmhaaEncWalks5
import Derived.Test.YtccjnoefjehmhaaEncWalks6
namespace Go.Proofs.Ytccjnoefjehmhaa
open Go.RowKit Go.Enc
attribute [local irreducible] Go.wpOps Go.Code.wp Go.wpOp Go.wpAnyH Go.Calls
set_option maxHeartbeats 2000000 in
set_option maxRecDepth 10000 in
theorem rEncode_c (shape : ByteArray) (ops : List OpP) (hds : List HdP) (funs : List FunP) (A1 A2 A3 : Option Addr) (c1 c2 c3 : Nat) (HB FB : Nat → Option Addr) (HC FC : Nat → Nat) (w : World) (K : Ending → World → Prop) (R1 : Gx.Rd w A1 ops.length 2 (fun i => [.string ((ops.getD i op0).name), .bool ((ops.getD i op0).once)])) (R2 : Gx.Rd w A2 hds.length 2 (fun i => [.bool ((hds.getD i hd0).shallow), .slice (HB i) ((hds.getD i hd0).ops.length) (HC i)])) (R2' : ∀ i, i < hds.length → Gx.Rd w (HB i) (hds.getD i hd0).ops.length 1 (fun j => [.int .i64 ((hds.getD i hd0).ops.getD j 0)])) (R3 : Gx.Rd w A3 funs.length 3 (fun i => [.int .i64 ((funs.getD i fun0).free), .int .i64 ((funs.getD i fun0).slots), .slice (FB i) ((funs.getD i fun0).ins.length) (FC i)])) (R3' : ∀ i, i < funs.length → Gx.Rd w (FB i) (funs.getD i fun0).ins.length 4 (fun j => [.int .i64 (((funs.getD i fun0).ins.getD j ins0).op), .int .i64 (((funs.getD i fun0).ins.getD j ins0).a), .int .i64 (((funs.getD i fun0).ins.getD j ins0).b), .int .i64 (((funs.getD i fun0).ins.getD j ins0).n)])) (zs : shape.size ≤ 1048576) (zo : ops.length ≤ 1048576) (zn : ∀ i, (ops.getD i op0).name.size ≤ 1048576) (zh : hds.length ≤ 1048576) (zho : ∀ i, (hds.getD i hd0).ops.length ≤ 1048576) (zf : funs.length ≤ 1048576) (zfi : ∀ i, (funs.getD i fun0).ins.length ≤ 1048576) (ih : ∀ i j, I64 ((hds.getD i hd0).ops.getD j 0)) (jf : ∀ i, I64 (funs.getD i fun0).free ∧ I64 (funs.getD i fun0).slots) (hix : ∀ i j, I64 ((funs.getD i fun0).ins.getD j ins0).op ∧ I64 ((funs.getD i fun0).ins.getD j ins0).a ∧ I64 ((funs.getD i fun0).ins.getD j ins0).b ∧ I64 ((funs.getD i fun0).ins.getD j ins0).n) (hK : ∀ w', Gx.Ext w w' → K (.returned (.tuple #[.string (resS (chunks shape ops hds funs)), .int .i64 (resK (chunks shape ops hds funs))])) w') :
    Calls Try.prog 5 #[.agg #[.string shape, .slice A1 ops.length c1, .slice A2 hds.length c2, .slice A3 funs.length c3]] w K := by
  refine Gx.enter 209 Try.func5 rfl rfl (Nat.le_of_ble_eq_true rfl) ?_
  refine Gx.seq_reg [0, 1, 2] (by kernel_rfl) ?_
  refine Gx.cons (Gx.op_new (.cells #[.string shape, .slice A1 ops.length c1, .slice A2 hds.length c2, .slice A3 funs.length c3] 26) rfl (by kernel_rfl) (by kernel_rfl) (fun k1 w1 l1 x1 b1 => ?_))
  have zw1 := x1.size
  have tb1 := b1.lt
  refine Gx.pure [1, 2] [] [(3, .int .i64 0), (2, .string (⟨#[]⟩ : ByteArray))] rfl (by kernel_rfl) ?_
  refine Gx.ops_end ?_
  refine wp_seq ?_
  refine Gx.cut (d' := []) (n' := 209) (fun l' w' => l' = [(1, .pointer (some ⟨k1, 0, none⟩)), (36, .bool ((((decide (((shape.size : Nat) : Int) > (65535 : Int))) || (decide (((ops.length : Nat) : Int) > (255 : Int)))) || (decide (((hds.length : Nat) : Int) > (65535 : Int)))) || (decide (((funs.length : Nat) : Int) > (65535 : Int)))))] ∧ w1 = w') (fun K1 hK1 => ?_) (fun bb1 ll1 w2 hI1 => ?_)
  · refine Gx.reg [0, 1, 2, 3, 4, 5, 6, 7, 8, 9, 10, 11, 12, 13, 14, 15, 16, 17, 18, 19, 20, 21] (by kernel_rfl) ?_
    refine Gx.pure [0] [1, 2, 3, 4, 5, 6, 7, 8, 9, 10, 11, 12, 13, 14, 15, 16, 17, 18, 19, 20, 21] [(15, .pointer (some ⟨k1, 0, none⟩))] rfl (by kernel_rfl) ?_
    refine Gx.cons (Gx.op_load rfl (by kernel_rfl) rfl 0 (.string shape) (by kernel_rfl) b1 (by kernel_rfl) ?_)
    refine Gx.pure [2, 3, 4] [5, 6, 7, 8, 9, 10, 11, 12, 13, 14, 15, 16, 17, 18, 19, 20, 21] [(19, .bool (decide (((shape.size : Nat) : Int) > (65535 : Int)))), (18, .bool (decide (((shape.size : Nat) : Int) > (65535 : Int)))), (17, .int .i64 ((shape.size : Nat) : Int))] rfl (by kernel_rfl) ?_
    refine Gx.split (decide (((shape.size : Nat) : Int) > (65535 : Int))) (fun h_g19 => ?_) (fun h_g19 => ?_)
    · rw [h_g19]
      refine Gx.pure [5, 6, 7, 8, 9, 10, 11, 12, 13, 14, 15, 16, 17, 18, 19, 20, 21] [] [(36, .bool true), (35, undef), (34, undef), (33, undef), (32, undef), (31, .bool true), (30, .bool true), (29, undef), (28, undef), (27, undef), (26, undef), (25, .bool true), (24, .bool true), (23, undef), (22, undef), (21, undef), (20, undef)] rfl (by kernel_rfl) ?_
      refine Gx.ops_end ?_
      rw [Gx.forget [(1, .pointer (some ⟨k1, 0, none⟩)), (36, .bool ((((decide (((shape.size : Nat) : Int) > (65535 : Int))) || (decide (((ops.length : Nat) : Int) > (255 : Int)))) || (decide (((hds.length : Nat) : Int) > (65535 : Int)))) || (decide (((funs.length : Nat) : Int) > (65535 : Int)))))] (by rw [h_g19]; try kernel_rfl)]
      exact hK1 _ _ _ ⟨rfl, rfl⟩
    rw [h_g19]
    refine Gx.pure [5] [6, 7, 8, 9, 10, 11, 12, 13, 14, 15, 16, 17, 18, 19, 20, 21] [(20, .pointer (some ⟨k1, 1, none⟩))] rfl (by kernel_rfl) ?_
    refine Gx.cons (Gx.op_load rfl (by kernel_rfl) rfl 1 (.slice A1 ops.length c1) (by kernel_rfl) b1 (by kernel_rfl) ?_)
    refine Gx.pure [7, 8, 9, 10] [11, 12, 13, 14, 15, 16, 17, 18, 19, 20, 21] [(25, .bool (decide (((ops.length : Nat) : Int) > (255 : Int)))), (24, .bool (decide (((ops.length : Nat) : Int) > (255 : Int)))), (23, .bool (decide (((ops.length : Nat) : Int) > (255 : Int)))), (22, .int .i64 ((ops.length : Nat) : Int))] rfl (by kernel_rfl) ?_
    refine Gx.split (decide (((ops.length : Nat) : Int) > (255 : Int))) (fun h_g25 => ?_) (fun h_g25 => ?_)
    · rw [h_g25]
      refine Gx.pure [11, 12, 13, 14, 15, 16, 17, 18, 19, 20, 21] [] [(36, .bool true), (35, undef), (34, undef), (33, undef), (32, undef), (31, .bool true), (30, .bool true), (29, undef), (28, undef), (27, undef), (26, undef)] rfl (by kernel_rfl) ?_
      refine Gx.ops_end ?_
      rw [Gx.forget [(1, .pointer (some ⟨k1, 0, none⟩)), (36, .bool ((((decide (((shape.size : Nat) : Int) > (65535 : Int))) || (decide (((ops.length : Nat) : Int) > (255 : Int)))) || (decide (((hds.length : Nat) : Int) > (65535 : Int)))) || (decide (((funs.length : Nat) : Int) > (65535 : Int)))))] (by rw [h_g19, h_g25]; try kernel_rfl)]
      exact hK1 _ _ _ ⟨rfl, rfl⟩
    rw [h_g25]
    refine Gx.pure [11] [12, 13, 14, 15, 16, 17, 18, 19, 20, 21] [(26, .pointer (some ⟨k1, 2, none⟩))] rfl (by kernel_rfl) ?_
    refine Gx.cons (Gx.op_load rfl (by kernel_rfl) rfl 2 (.slice A2 hds.length c2) (by kernel_rfl) b1 (by kernel_rfl) ?_)
    refine Gx.pure [13, 14, 15, 16] [17, 18, 19, 20, 21] [(31, .bool (decide (((hds.length : Nat) : Int) > (65535 : Int)))), (30, .bool (decide (((hds.length : Nat) : Int) > (65535 : Int)))), (29, .bool (decide (((hds.length : Nat) : Int) > (65535 : Int)))), (28, .int .i64 ((hds.length : Nat) : Int))] rfl (by kernel_rfl) ?_
    refine Gx.split (decide (((hds.length : Nat) : Int) > (65535 : Int))) (fun h_g31 => ?_) (fun h_g31 => ?_)
    · rw [h_g31]
      refine Gx.pure [17, 18, 19, 20, 21] [] [(36, .bool true), (35, undef), (34, undef), (33, undef), (32, undef)] rfl (by kernel_rfl) ?_
      refine Gx.ops_end ?_
      rw [Gx.forget [(1, .pointer (some ⟨k1, 0, none⟩)), (36, .bool ((((decide (((shape.size : Nat) : Int) > (65535 : Int))) || (decide (((ops.length : Nat) : Int) > (255 : Int)))) || (decide (((hds.length : Nat) : Int) > (65535 : Int)))) || (decide (((funs.length : Nat) : Int) > (65535 : Int)))))] (by rw [h_g19, h_g25, h_g31]; try kernel_rfl)]
      exact hK1 _ _ _ ⟨rfl, rfl⟩
    rw [h_g31]
    refine Gx.pure [17] [18, 19, 20, 21] [(32, .pointer (some ⟨k1, 3, none⟩))] rfl (by kernel_rfl) ?_
    refine Gx.cons (Gx.op_load rfl (by kernel_rfl) rfl 3 (.slice A3 funs.length c3) (by kernel_rfl) b1 (by kernel_rfl) ?_)
    refine Gx.pure [19, 20, 21] [] [(36, .bool (decide (((funs.length : Nat) : Int) > (65535 : Int)))), (35, .bool (decide (((funs.length : Nat) : Int) > (65535 : Int)))), (34, .int .i64 ((funs.length : Nat) : Int))] rfl (by kernel_rfl) ?_
    refine Gx.ops_end ?_
    rw [Gx.forget [(1, .pointer (some ⟨k1, 0, none⟩)), (36, .bool ((((decide (((shape.size : Nat) : Int) > (65535 : Int))) || (decide (((ops.length : Nat) : Int) > (255 : Int)))) || (decide (((hds.length : Nat) : Int) > (65535 : Int)))) || (decide (((funs.length : Nat) : Int) > (65535 : Int)))))] (by rw [h_g19, h_g25, h_g31]; try kernel_rfl)]
    exact hK1 _ _ _ ⟨rfl, rfl⟩
  obtain ⟨rfl, rfl⟩ := hI1
  refine Gx.cond ((((decide (((shape.size : Nat) : Int) > (65535 : Int))) || (decide (((ops.length : Nat) : Int) > (255 : Int)))) || (decide (((hds.length : Nat) : Int) > (65535 : Int)))) || (decide (((funs.length : Nat) : Int) > (65535 : Int)))) (by kernel_rfl) (fun h_c36 => ?_) (fun h_c36 => ?_)
  · skip
    refine Gx.seq_run [(3, .int .i64 14), (2, .string (⟨#[]⟩ : ByteArray))] (by kernel_rfl) ?_
    refine wp_ret ?_
    refine Gx.then_ret ?_
    refine Gx.ret (Gx.res2 (v := .string (⟨#[]⟩ : ByteArray)) (u := .int .i64 14) rfl (by kernel_rfl) (by kernel_rfl)) ?_
    have p_c36 := h_c36; try simp [-List.getD_eq_getElem?_getD] at p_c36
    have hb : bd (chunks shape ops hds funs) = true := chunks_bad (by simp at h_c36; omega)
    obtain ⟨e1, e2⟩ := res_bad hb
    exact Gx.ret_as (v' := .tuple #[.string (resS (chunks shape ops hds funs)), .int .i64 (resK (chunks shape ops hds funs))]) (by rw [e1, e2]; all_goals rfl) (hK _ ((Gx.Ext.refl w).trans x1))
  refine wp_skip ?_
  refine Gx.then_normal ?_
  have hzE : (⟨#[69, 70, 49]⟩ : ByteArray).size = 3 := rfl
  refine wp_seq ?_
  refine Gx.draw (S := fun w' => Gx.Has w' k1 (.cells #[.string shape, .slice A1 ops.length c1, .slice A2 hds.length c2, .slice A3 funs.length c3] 26)) (by kernel_rfl) (fun w3 x2 => ?_)
  have zw3 := x2.size
  refine Gx.any_take 0 (.pointer (some ⟨k1, 0, none⟩)) rfl (by kernel_rfl) (by kernel_rfl) (by kernel_rfl) (fun _ _ _ h => h) (b1.ext x2) (by kernel_rfl) (fun _ _ => (by kernel_rfl)) ?_
  refine Gx.any_take 1 (.string shape) rfl (by kernel_rfl) (by kernel_rfl) (by kernel_rfl) (fun _ _ _ h => h) (b1.ext x2) (by kernel_rfl) (fun _ hs => Gx.run_load rfl 0 (.string shape) (by kernel_rfl) hs (by kernel_rfl)) ?_
  refine Gx.any_take 2 (.int .i64 ((shape.size : Nat) : Int)) rfl (by kernel_rfl) (by kernel_rfl) (by kernel_rfl) (fun _ _ _ h => h) (b1.ext x2) (by kernel_rfl) (fun _ _ => (by kernel_rfl)) ?_
  refine Gx.any_take 5 (.pointer (some ⟨k1, 0, none⟩)) rfl (by kernel_rfl) (by kernel_rfl) (by kernel_rfl) (fun _ _ _ h => h) (b1.ext x2) (by kernel_rfl) (fun _ _ => (by kernel_rfl)) ?_
  refine Gx.any_take 6 (.string shape) rfl (by kernel_rfl) (by kernel_rfl) (by kernel_rfl) (fun _ _ _ h => h) (b1.ext x2) (by kernel_rfl) (fun _ hs => Gx.run_load rfl 0 (.string shape) (by kernel_rfl) hs (by kernel_rfl)) ?_
  refine Gx.any_take 8 (.pointer (some ⟨k1, 1, none⟩)) rfl (by kernel_rfl) (by kernel_rfl) (by kernel_rfl) (fun _ _ _ h => h) (b1.ext x2) (by kernel_rfl) (fun _ _ => (by kernel_rfl)) ?_
  refine Gx.any_take 9 (.slice A1 ops.length c1) rfl (by kernel_rfl) (by kernel_rfl) (by kernel_rfl) (fun _ _ _ h => h) (b1.ext x2) (by kernel_rfl) (fun _ hs => Gx.run_load rfl 1 (.slice A1 ops.length c1) (by kernel_rfl) hs (by kernel_rfl)) ?_
  refine Gx.any_take 10 (.int .i64 ((ops.length : Nat) : Int)) rfl (by kernel_rfl) (by kernel_rfl) (by kernel_rfl) (fun _ _ _ h => h) (b1.ext x2) (by kernel_rfl) (fun _ _ => (by kernel_rfl)) ?_
  refine Gx.any_one 3 (by kernel_rfl) (Gx.op_call rfl (by kernel_rfl) (by kernel_rfl) (fun R hR => big_c ((shape.size : Nat) : Int) 2 _ R (by omega) (fun w4 x3  => hR _ _ ⟨((b1.ext x2).ext x3), ?_⟩)))
  have zw4 := x3.size
  have p_c36 := h_c36; try simp [-List.getD_eq_getElem?_getD] at p_c36
  refine Gx.any_take 4 (.string ((⟨#[69, 70, 49]⟩ : ByteArray) ++ (bigB ((shape.size : Nat) : Int) 2))) rfl (by kernel_rfl) (by kernel_rfl) (by kernel_rfl) (fun _ _ _ h => h) ((b1.ext x2).ext x3) (by kernel_rfl) (fun _ _ => Gx.run_concat rfl (⟨#[69, 70, 49]⟩ : ByteArray) (bigB ((shape.size : Nat) : Int) 2) (by kernel_rfl) (by kernel_rfl) (by (try simp only [ByteArray.size_append, bigB_size]); omega)) ?_
  refine Gx.any_take 7 (.string (((⟨#[69, 70, 49]⟩ : ByteArray) ++ (bigB ((shape.size : Nat) : Int) 2)) ++ shape)) rfl (by kernel_rfl) (by kernel_rfl) (by kernel_rfl) (fun _ _ _ h => h) ((b1.ext x2).ext x3) (by kernel_rfl) (fun _ _ => Gx.run_concat rfl ((⟨#[69, 70, 49]⟩ : ByteArray) ++ (bigB ((shape.size : Nat) : Int) 2)) shape (by kernel_rfl) (by kernel_rfl) (by (try simp only [ByteArray.size_append, bigB_size]); omega)) ?_
  refine Gx.any_one 11 (by kernel_rfl) (Gx.op_call rfl (by kernel_rfl) (by kernel_rfl) (fun R hR => big_c ((ops.length : Nat) : Int) 1 _ R (by omega) (fun w5 x4  => hR _ _ ⟨(((b1.ext x2).ext x3).ext x4), ?_⟩)))
  have zw5 := x4.size
  refine Gx.any_take 12 (.string ((((⟨#[69, 70, 49]⟩ : ByteArray) ++ (bigB ((shape.size : Nat) : Int) 2)) ++ shape) ++ (bigB ((ops.length : Nat) : Int) 1))) rfl (by kernel_rfl) (by kernel_rfl) (by kernel_rfl) (fun _ _ _ h => h) (((b1.ext x2).ext x3).ext x4) (by kernel_rfl) (fun _ _ => Gx.run_concat rfl (((⟨#[69, 70, 49]⟩ : ByteArray) ++ (bigB ((shape.size : Nat) : Int) 2)) ++ shape) (bigB ((ops.length : Nat) : Int) 1) (by kernel_rfl) (by kernel_rfl) (by (try simp only [ByteArray.size_append, bigB_size]); omega)) ?_
  refine Gx.any_one 13 (by kernel_rfl) (Gx.op_bytesM rfl (by kernel_rfl) rfl 5 (by kernel_rfl) (by kernel_rfl) (by kernel_rfl) ((((⟨#[69, 70, 49]⟩ : ByteArray) ++ (bigB ((shape.size : Nat) : Int) 2)) ++ shape) ++ (bigB ((ops.length : Nat) : Int) 1)) (by kernel_rfl) (by unfold maxLen; (try simp only [ByteArray.size_append, bigB_size]); omega) (fun k2 v1 w6 l2 x5 ow1 => ⟨((((b1.ext x2).ext x3).ext x4).ext x5), ?_⟩))
  have zw6 := x5.size
  refine Gx.any_take 14 (v1) rfl (by kernel_rfl) (by kernel_rfl) (by kernel_rfl) (fun _ _ _ h => h) ((((b1.ext x2).ext x3).ext x4).ext x5) (by kernel_rfl) (fun _ _ => (by kernel_rfl)) ?_
  refine Gx.any_done (by kernel_rfl) ?_
  refine Gx.then_normal ?_
  refine wp_seq ?_
  obtain ⟨p0, hp0⟩ : ∃ q, q = chA shape ops := ⟨_, rfl⟩
  obtain ⟨kb0, kc0⟩ := chA_ok (shape := shape) (ops := ops) (by omega) (by omega)
  have ow0 : Gx.ownsM w6 k2 5 v1 (cat p0).size (Lib.strCells (cat p0)) := by rw [hp0, kc0]; exact ow1
  have hbd0 : bd p0 = false := by rw [hp0, kb0]
  have hz0 : (cat p0).size ≤ 70000 := by rw [hp0, kc0]; simp only [ByteArray.size_append, bigB_size]; omega
  refine Gx.seq_run [(5, .int .i64 0)] (by kernel_rfl) ?_
  refine wp_block ?_
  refine Gx.loop (n' := 209) (d' := []) (fun mz l' w' => ∃ (k : Nat) (vo : Value) (po : List Ch), l' = [(1, .pointer (some ⟨k1, 0, none⟩)), (4, vo), (5, .int .i64 ((k : Nat) : Int))] ∧ mz = ops.length - k ∧ Gx.Ext w w' ∧ Gx.Has w' k1 (.cells #[.string shape, .slice A1 ops.length c1, .slice A2 hds.length c2, .slice A3 funs.length c3] 26) ∧ (k ≤ ops.length) ∧ (Gx.ownsM w' k2 5 vo (cat po).size (Lib.strCells (cat po))) ∧ (po = p0 ++ upTo opC ops k) ∧ ((cat po).size ≤ (cat p0).size + k * 2000000) ∧ (bd po = false) ∧ (k2 ≤ w'.heap.size)) _ _ [(1, .pointer (some ⟨k1, 0, none⟩)), (4, v1), (5, .int .i64 ((0 : Nat) : Int))] (Gx.forget [(1, .pointer (some ⟨k1, 0, none⟩)), (4, v1), (5, .int .i64 ((0 : Nat) : Int))] (by kernel_rfl)) ⟨0, v1, p0, rfl, rfl, ((((((Gx.Ext.refl w).trans x1).trans x2).trans x3).trans x4).trans x5), ((((b1.ext x2).ext x3).ext x4).ext x5), (Nat.zero_le _), ow0, (by simp [upTo_zero]), (by omega), hbd0, (by omega)⟩ (fun bb2 m1 ll2 w7 hI2 K2 hK2 => ?_)
  obtain ⟨k, vo, po, rfl, rfl, x6, b2, hko, hoo, hlo, hzo, hbdo, hBo⟩ := hI2
  have zw7 := x6.size
  have tb2 := b2.lt
  have zn' := zn k
  refine wp_seq ?_
  refine Gx.seq_reg [0, 1, 2, 3, 4] (by kernel_rfl) ?_
  refine Gx.pure [0, 1] [2, 3, 4] [(52, .pointer (some ⟨k1, 1, none⟩)), (51, .int .i64 ((k : Nat) : Int))] rfl (by kernel_rfl) ?_
  refine Gx.cons (Gx.op_load rfl (by kernel_rfl) rfl 1 (.slice A1 ops.length c1) (by kernel_rfl) b2 (by kernel_rfl) ?_)
  refine Gx.pure [3, 4] [] [(55, .bool (decide (((k : Nat) : Int) < ((ops.length : Nat) : Int)))), (54, .int .i64 ((ops.length : Nat) : Int))] rfl (by kernel_rfl) ?_
  refine Gx.ops_end ?_
  refine Gx.cond (decide (((k : Nat) : Int) < ((ops.length : Nat) : Int))) (by kernel_rfl) (fun h_c55 => ?_) (fun h_c55 => ?_)
  · skip
    refine wp_skip ?_
    refine Gx.then_normal ?_
    refine wp_seq ?_
    refine wp_block ?_
    refine Gx.seq_reg [0, 1, 2, 3, 4, 5, 6] (by kernel_rfl) ?_
    refine Gx.pure [0] [1, 2, 3, 4, 5, 6] [(58, .pointer (some ⟨k1, 1, none⟩))] rfl (by kernel_rfl) ?_
    refine Gx.cons (Gx.op_load rfl (by kernel_rfl) rfl 1 (.slice A1 ops.length c1) (by kernel_rfl) b2 (by kernel_rfl) ?_)
    refine Gx.pure [2] [3, 4, 5, 6] [(60, .int .i64 ((k : Nat) : Int))] rfl (by kernel_rfl) ?_
    have p_c55 := h_c55; try simp [-List.getD_eq_getElem?_getD] at p_c55
    obtain ⟨a1, ha1, hc1⟩ := R1 k (by omega)
    refine Gx.cons (Gx.op_indexAddrO rfl (by kernel_rfl) rfl 37 2 (by kernel_rfl) (by kernel_rfl) a1 ha1 ops.length c1 (by kernel_rfl) .i64 k (by kernel_rfl) (by omega) ?_)
    refine Gx.cons (Gx.op_loadO rfl (by kernel_rfl) rfl [.string ((ops.getD k op0).name), .bool ((ops.getD k op0).once)] (.agg #[.string ((ops.getD k op0).name), .bool ((ops.getD k op0).once)]) (by kernel_rfl) 2 (Gx.cells_ext hc1 (by decide) ((Gx.Ext.refl w).trans x6)) (by kernel_rfl) (by kernel_rfl) ?_)
    refine Gx.cons (Gx.op_new (.cells #[.string (⟨#[]⟩ : ByteArray), .bool false] 37) rfl (by kernel_rfl) (by kernel_rfl) (fun k3 w8 l3 x7 b3 => ?_))
    have zw8 := x7.size
    have tb3 := b3.lt
    refine Gx.cons (Gx.op_store rfl (by kernel_rfl) rfl 0 (.agg #[.string ((ops.getD k op0).name), .bool ((ops.getD k op0).once)]) (by kernel_rfl) (by kernel_rfl) b3 (by kernel_rfl) (by kernel_rfl) (by kernel_rfl) #[.string ((ops.getD k op0).name), .bool ((ops.getD k op0).once)] (by kernel_rfl) (fun w9 u1 b4 => ?_))
    have zw9 := u1.size
    refine Gx.ops_end ?_
    refine wp_seq ?_
    refine Gx.seq_reg [0, 1, 2, 3] (by kernel_rfl) ?_
    refine Gx.pure [0] [1, 2, 3] [(63, .pointer (some ⟨k3, 0, none⟩))] rfl (by kernel_rfl) ?_
    refine Gx.cons (Gx.op_load rfl (by kernel_rfl) rfl 0 (.string ((ops.getD k op0).name)) (by kernel_rfl) b4 (by kernel_rfl) ?_)
    refine Gx.pure [2, 3] [] [(66, .bool (decide (((((ops.getD k op0).name).size : Nat) : Int) > (20 : Int)))), (65, .int .i64 ((((ops.getD k op0).name).size : Nat) : Int))] rfl (by kernel_rfl) ?_
    refine Gx.ops_end ?_
    refine Gx.cond (decide (((((ops.getD k op0).name).size : Nat) : Int) > (20 : Int))) (by kernel_rfl) (fun h_c66 => ?_) (fun h_c66 => ?_)
    · skip
      refine Gx.seq_run [(3, .int .i64 14), (2, .string (⟨#[]⟩ : ByteArray))] (by kernel_rfl) ?_
      refine wp_ret ?_
      refine Gx.then_ret ?_
      refine Gx.block_ret ?_
      refine Gx.then_ret ?_
      refine Gx.then_ret ?_
      refine Gx.block_ret ?_
      refine Gx.then_ret ?_
      refine Gx.ret (Gx.res2 (v := .string (⟨#[]⟩ : ByteArray)) (u := .int .i64 14) rfl (by kernel_rfl) (by kernel_rfl)) ?_
      have p_c66 := h_c66; try simp [-List.getD_eq_getElem?_getD] at p_c66
      have hb : bd (chunks shape ops hds funs) = true := chunks_ops (bd_flat op0 (i := k) (by omega) (op_bad (by simp at h_c66; omega)))
      obtain ⟨e1, e2⟩ := res_bad hb
      exact Gx.ret_as (v' := .tuple #[.string (resS (chunks shape ops hds funs)), .int .i64 (resK (chunks shape ops hds funs))]) (by rw [e1, e2]; all_goals rfl) (hK _ ((((Gx.Ext.refl w).trans x6).trans x7).upd1 u1 (by omega)))
    refine wp_skip ?_
    refine Gx.then_normal ?_
    refine Gx.draw (S := fun w' => Gx.Has w' k3 (.cells #[.string ((ops.getD k op0).name), .bool ((ops.getD k op0).once)] 37)) (by kernel_rfl) (fun w10 x8 => ?_)
    have zw10 := x8.size
    refine Gx.any_take 0 (vo) rfl (by kernel_rfl) (by kernel_rfl) (by kernel_rfl) (fun _ _ _ h => h) (b4.ext x8) (by kernel_rfl) (fun _ _ => (by kernel_rfl)) ?_
    refine Gx.any_take 1 (.pointer (some ⟨k3, 0, none⟩)) rfl (by kernel_rfl) (by kernel_rfl) (by kernel_rfl) (fun _ _ _ h => h) (b4.ext x8) (by kernel_rfl) (fun _ _ => (by kernel_rfl)) ?_
    refine Gx.any_take 2 (.string ((ops.getD k op0).name)) rfl (by kernel_rfl) (by kernel_rfl) (by kernel_rfl) (fun _ _ _ h => h) (b4.ext x8) (by kernel_rfl) (fun _ hs => Gx.run_load rfl 0 (.string ((ops.getD k op0).name)) (by kernel_rfl) hs (by kernel_rfl)) ?_
    refine Gx.any_take 3 (.int .i64 ((((ops.getD k op0).name).size : Nat) : Int)) rfl (by kernel_rfl) (by kernel_rfl) (by kernel_rfl) (fun _ _ _ h => h) (b4.ext x8) (by kernel_rfl) (fun _ _ => (by kernel_rfl)) ?_
    refine Gx.any_take 5 (.pointer (some ⟨k3, 0, none⟩)) rfl (by kernel_rfl) (by kernel_rfl) (by kernel_rfl) (fun _ _ _ h => h) (b4.ext x8) (by kernel_rfl) (fun _ _ => (by kernel_rfl)) ?_
    refine Gx.any_take 6 (.string ((ops.getD k op0).name)) rfl (by kernel_rfl) (by kernel_rfl) (by kernel_rfl) (fun _ _ _ h => h) (b4.ext x8) (by kernel_rfl) (fun _ hs => Gx.run_load rfl 0 (.string ((ops.getD k op0).name)) (by kernel_rfl) hs (by kernel_rfl)) ?_
    refine Gx.any_take 8 (.pointer (some ⟨k3, 1, none⟩)) rfl (by kernel_rfl) (by kernel_rfl) (by kernel_rfl) (fun _ _ _ h => h) (b4.ext x8) (by kernel_rfl) (fun _ _ => (by kernel_rfl)) ?_
    refine Gx.any_take 9 (.bool ((ops.getD k op0).once)) rfl (by kernel_rfl) (by kernel_rfl) (by kernel_rfl) (fun _ _ _ h => h) (b4.ext x8) (by kernel_rfl) (fun _ hs => Gx.run_load rfl 1 (.bool ((ops.getD k op0).once)) (by kernel_rfl) hs (by kernel_rfl)) ?_
    refine Gx.any_one 4 (by kernel_rfl) (Gx.op_call rfl (by kernel_rfl) (by kernel_rfl) (fun R hR => big_c ((((ops.getD k op0).name).size : Nat) : Int) 1 _ R (by omega) (fun w11 x9  => hR _ _ ⟨((b4.ext x8).ext x9), ?_⟩)))
    have zw11 := x9.size
    have p_c66 := h_c66; try simp [-List.getD_eq_getElem?_getD] at p_c66
    refine Gx.any_take 7 (.string ((bigB ((((ops.getD k op0).name).size : Nat) : Int) 1) ++ ((ops.getD k op0).name))) rfl (by kernel_rfl) (by kernel_rfl) (by kernel_rfl) (fun _ _ _ h => h) ((b4.ext x8).ext x9) (by kernel_rfl) (fun _ _ => Gx.run_concat rfl (bigB ((((ops.getD k op0).name).size : Nat) : Int) 1) ((ops.getD k op0).name) (by kernel_rfl) (by kernel_rfl) (by (try simp only [ByteArray.size_append, bigB_size]); omega)) ?_
    refine Gx.any_one 10 (by kernel_rfl) (Gx.op_call rfl (by kernel_rfl) (by kernel_rfl) (fun R hR => rflag_c ((ops.getD k op0).once) _ R  (hR _ _ ⟨((b4.ext x8).ext x9), ?_⟩)))
    refine Gx.any_take 11 (.string (((bigB ((((ops.getD k op0).name).size : Nat) : Int) 1) ++ ((ops.getD k op0).name)) ++ (bigB (flagN ((ops.getD k op0).once)) 1))) rfl (by kernel_rfl) (by kernel_rfl) (by kernel_rfl) (fun _ _ _ h => h) ((b4.ext x8).ext x9) (by kernel_rfl) (fun _ _ => Gx.run_concat rfl ((bigB ((((ops.getD k op0).name).size : Nat) : Int) 1) ++ ((ops.getD k op0).name)) (bigB (flagN ((ops.getD k op0).once)) 1) (by kernel_rfl) (by kernel_rfl) (by (try simp only [ByteArray.size_append, bigB_size]); omega)) ?_
    refine Gx.any_one 12 (by kernel_rfl) (Gx.op_append_strM rfl (by kernel_rfl) rfl 5 (by kernel_rfl) (by kernel_rfl) (by kernel_rfl) (k2) (by kernel_rfl) (Gx.own_extM (Gx.own_extM (Gx.own_upd1M (Gx.own_extM hoo x7) u1 (Gx.own_neM (Gx.own_extM hoo x7) b3 (by decide))) x8) x9) (((bigB ((((ops.getD k op0).name).size : Nat) : Int) 1) ++ ((ops.getD k op0).name)) ++ (bigB (flagN ((ops.getD k op0).once)) 1)) (by kernel_rfl) (by first | omega | (simp only [ByteArray.size_append, bigB_size]; omega)) (by omega) (fun v2 w12 ow2 g1 => ⟨(((b4.ext x8).ext x9).upd g1 (fun e => Gx.own_neM (Gx.own_extM (Gx.own_extM (Gx.own_upd1M (Gx.own_extM hoo x7) u1 (Gx.own_neM (Gx.own_extM hoo x7) b3 (by decide))) x8) x9) ((b4.ext x8).ext x9) (by decide) _ e.symm rfl)), ?_⟩))
    have zw12 := g1.size
    refine Gx.any_take 13 (v2) rfl (by kernel_rfl) (by kernel_rfl) (by kernel_rfl) (fun _ _ _ h => h) (((b4.ext x8).ext x9).upd g1 (fun e => Gx.own_neM (Gx.own_extM (Gx.own_extM (Gx.own_upd1M (Gx.own_extM hoo x7) u1 (Gx.own_neM (Gx.own_extM hoo x7) b3 (by decide))) x8) x9) ((b4.ext x8).ext x9) (by decide) _ e.symm rfl)) (by kernel_rfl) (fun _ _ => (by kernel_rfl)) ?_
    refine Gx.any_done (by kernel_rfl) ?_
    refine Gx.block_normal ?_
    refine Gx.then_normal ?_
    obtain ⟨p1, hp1⟩ : ∃ q, q = po ++ opC (ops.getD k op0) := ⟨_, rfl⟩
    obtain ⟨kb1, kc1⟩ := op_ok (o := (ops.getD k op0)) (by simp [-List.getD_eq_getElem?_getD] at h_c66; omega)
    have ow3 : Gx.ownsM w12 k2 5 v2 (cat p1).size (Lib.strCells (cat p1)) := by rw [hp1]; exact ownM_app ow2 (congrArg Lib.strCells kc1) (congrArg ByteArray.size kc1)
    have hbd1 : bd p1 = false := by rw [hp1, bd_append, hbdo, kb1]; rfl
    have hz1 : (cat p1).size ≤ (cat po).size + 2000000 := by have hq := congrArg ByteArray.size kc1; (try simp only [ByteArray.size_append, bigB_size] at hq); rw [hp1, cat_append, ByteArray.size_append]; omega
    refine Gx.reg [0, 1, 2] (by kernel_rfl) ?_
    refine Gx.pure [0] [1, 2] [(56, .int .i64 ((k : Nat) : Int))] rfl (by kernel_rfl) ?_
    refine Gx.pure_eq [1] [2] [(57, .int .i64 (IntKind.i64.wrap (((k : Nat) : Int) + (1 : Int))))] [(57, .int .i64 ((k + 1 : Nat) : Int))] rfl (by kernel_rfl) (Gx.eqI (Gx.i64n (by omega) (by omega))) ?_
    refine Gx.pure [2] [] [(5, .int .i64 ((k + 1 : Nat) : Int))] rfl (by kernel_rfl) ?_
    refine Gx.ops_nil ?_
    refine Gx.then_normal ?_
    rw [Gx.forget [(1, .pointer (some ⟨k1, 0, none⟩)), (4, v2), (5, .int .i64 (((k + 1) : Nat) : Int))] (by kernel_rfl)]
    exact hK2 _ _ _ _ (by omega) ⟨(k + 1), v2, p1, rfl, rfl, (((((((Gx.Ext.refl w).trans x6).trans x7).upd1 u1 (by omega)).trans x8).trans x9).upd g1 (fun j e => by have := (hoo).lt j e; omega)), (((((b2.ext x7).upd1 u1 (by omega)).ext x8).ext x9).upd g1 (fun e => Gx.own_neM (Gx.own_extM (Gx.own_extM (Gx.own_upd1M (Gx.own_extM hoo x7) u1 (Gx.own_neM (Gx.own_extM hoo x7) b3 (by decide))) x8) x9) ((((b2.ext x7).upd1 u1 (by omega)).ext x8).ext x9) (by decide) _ e.symm rfl)), (by omega), ow3, (by rw [hp1, hlo, upTo_succ opC ops op0 (by omega)]; simp [opC]), (by omega), hbd1, (by omega)⟩
  refine wp_exit ?_
  refine Gx.then_exit ?_
  refine Gx.then_exit ?_
  refine Gx.block_exit ?_
  refine Gx.then_normal ?_
  have p_c55 := h_c55; try simp [-List.getD_eq_getElem?_getD] at p_c55
  rw [upTo_all opC ops (by omega)] at hlo
  refine Gx.seq_reg [0, 1, 2, 3, 4, 5, 6] (by kernel_rfl) ?_
  refine Gx.pure [0, 1] [2, 3, 4, 5, 6] [(81, .pointer (some ⟨k1, 2, none⟩)), (80, vo)] rfl (by kernel_rfl) ?_
  refine Gx.cons (Gx.op_load rfl (by kernel_rfl) rfl 2 (.slice A2 hds.length c2) (by kernel_rfl) b2 (by kernel_rfl) ?_)
  refine Gx.pure [3] [4, 5, 6] [(83, .int .i64 ((hds.length : Nat) : Int))] rfl (by kernel_rfl) ?_
  refine Gx.cons (Gx.op_call rfl (by kernel_rfl) (by kernel_rfl) (fun R hR => big_c ((hds.length : Nat) : Int) 2 _ R (by omega) (fun w13 x10  => hR _ _ ?_)))
  have zw13 := x10.size
  refine Gx.cons (Gx.op_append_strM rfl (by kernel_rfl) rfl 5 (by kernel_rfl) (by kernel_rfl) (by kernel_rfl) (k2) (by kernel_rfl) (Gx.own_extM hoo x10) (bigB ((hds.length : Nat) : Int) 2) (by kernel_rfl) (by first | omega | (simp only [ByteArray.size_append, bigB_size]; omega)) (by omega) (fun v3 w14 ow4 g2 => ?_))
  have zw14 := g2.size
  refine Gx.pure [6] [] [(4, v3)] rfl (by kernel_rfl) ?_
  refine Gx.ops_end ?_
  refine wp_seq ?_
  obtain ⟨p2, hp2⟩ : ∃ q, q = po ++ [numC hds.length 2] := ⟨_, rfl⟩
  obtain ⟨kb2, kc2⟩ := num2_ok (n := hds.length) (by omega)
  have ow5 : Gx.ownsM w14 k2 5 v3 (cat p2).size (Lib.strCells (cat p2)) := by rw [hp2]; exact ownM_app ow4 (congrArg Lib.strCells kc2) (congrArg ByteArray.size kc2)
  have hbd2 : bd p2 = false := by rw [hp2, bd_append, hbdo, kb2]; rfl
  have hz2 : (cat p2).size ≤ (cat po).size + 2 := by have hq := congrArg ByteArray.size kc2; (try simp only [ByteArray.size_append, bigB_size] at hq); rw [hp2, cat_append, ByteArray.size_append]; omega
  refine Gx.seq_run [(7, .int .i64 0)] (by kernel_rfl) ?_
  refine wp_block ?_
  refine Gx.loop (n' := 209) (d' := []) (fun mz l' w' => ∃ (m : Nat) (vh : Value) (ph : List Ch), l' = [(1, .pointer (some ⟨k1, 0, none⟩)), (4, vh), (7, .int .i64 ((m : Nat) : Int))] ∧ mz = hds.length - m ∧ Gx.Ext w w' ∧ Gx.Has w' k1 (.cells #[.string shape, .slice A1 ops.length c1, .slice A2 hds.length c2, .slice A3 funs.length c3] 26) ∧ (m ≤ hds.length) ∧ (Gx.ownsM w' k2 5 vh (cat ph).size (Lib.strCells (cat ph))) ∧ (ph = p2 ++ upTo hdC hds m) ∧ ((cat ph).size ≤ (cat p2).size + m * 1100000) ∧ (bd ph = false) ∧ (k2 ≤ w'.heap.size)) _ _ [(1, .pointer (some ⟨k1, 0, none⟩)), (4, v3), (7, .int .i64 ((0 : Nat) : Int))] (Gx.forget [(1, .pointer (some ⟨k1, 0, none⟩)), (4, v3), (7, .int .i64 ((0 : Nat) : Int))] (by kernel_rfl)) ⟨0, v3, p2, rfl, rfl, ((((Gx.Ext.refl w).trans x6).trans x10).upd g2 (fun j e => by have := (hoo).lt j e; omega)), ((b2.ext x10).upd g2 (fun e => Gx.own_neM (Gx.own_extM hoo x10) (b2.ext x10) (by decide) _ e.symm rfl)), (Nat.zero_le _), ow5, (by simp [upTo_zero]), (by omega), hbd2, (by omega)⟩ (fun bb3 m2 ll3 w15 hI3 K3 hK3 => ?_)
  obtain ⟨m, vh, ph, rfl, rfl, x11, b5, hkh, hoh, hlh, hzh, hbdh, hBh⟩ := hI3
  have zw15 := x11.size
  have tb5 := b5.lt
  have zho' := zho m
  refine wp_seq ?_
  refine Gx.seq_reg [0, 1, 2, 3, 4] (by kernel_rfl) ?_
  refine Gx.pure [0, 1] [2, 3, 4] [(87, .pointer (some ⟨k1, 2, none⟩)), (86, .int .i64 ((m : Nat) : Int))] rfl (by kernel_rfl) ?_
  refine Gx.cons (Gx.op_load rfl (by kernel_rfl) rfl 2 (.slice A2 hds.length c2) (by kernel_rfl) b5 (by kernel_rfl) ?_)
  refine Gx.pure [3, 4] [] [(90, .bool (decide (((m : Nat) : Int) < ((hds.length : Nat) : Int)))), (89, .int .i64 ((hds.length : Nat) : Int))] rfl (by kernel_rfl) ?_
  refine Gx.ops_end ?_
  refine Gx.cond (decide (((m : Nat) : Int) < ((hds.length : Nat) : Int))) (by kernel_rfl) (fun h_c90 => ?_) (fun h_c90 => ?_)
  · skip
    refine wp_skip ?_
    refine Gx.then_normal ?_
    refine wp_seq ?_
    refine wp_block ?_
    refine Gx.seq_reg [0, 1, 2, 3, 4, 5, 6] (by kernel_rfl) ?_
    refine Gx.pure [0] [1, 2, 3, 4, 5, 6] [(93, .pointer (some ⟨k1, 2, none⟩))] rfl (by kernel_rfl) ?_
    refine Gx.cons (Gx.op_load rfl (by kernel_rfl) rfl 2 (.slice A2 hds.length c2) (by kernel_rfl) b5 (by kernel_rfl) ?_)
    refine Gx.pure [2] [3, 4, 5, 6] [(95, .int .i64 ((m : Nat) : Int))] rfl (by kernel_rfl) ?_
    have p_c90 := h_c90; try simp [-List.getD_eq_getElem?_getD] at p_c90
    obtain ⟨a2, ha2, hc2⟩ := R2 m (by omega)
    refine Gx.cons (Gx.op_indexAddrO rfl (by kernel_rfl) rfl 41 2 (by kernel_rfl) (by kernel_rfl) a2 ha2 hds.length c2 (by kernel_rfl) .i64 m (by kernel_rfl) (by omega) ?_)
    refine Gx.cons (Gx.op_loadO rfl (by kernel_rfl) rfl [.bool ((hds.getD m hd0).shallow), .slice (HB m) ((hds.getD m hd0).ops.length) (HC m)] (.agg #[.bool ((hds.getD m hd0).shallow), .slice (HB m) ((hds.getD m hd0).ops.length) (HC m)]) (by kernel_rfl) 2 (Gx.cells_ext hc2 (by decide) ((Gx.Ext.refl w).trans x11)) (by kernel_rfl) (by kernel_rfl) ?_)
    refine Gx.cons (Gx.op_new (.cells #[.bool false, .slice none 0 0] 41) rfl (by kernel_rfl) (by kernel_rfl) (fun k4 w16 l4 x12 b6 => ?_))
    have zw16 := x12.size
    have tb6 := b6.lt
    refine Gx.cons (Gx.op_store rfl (by kernel_rfl) rfl 0 (.agg #[.bool ((hds.getD m hd0).shallow), .slice (HB m) ((hds.getD m hd0).ops.length) (HC m)]) (by kernel_rfl) (by kernel_rfl) b6 (by kernel_rfl) (by kernel_rfl) (by kernel_rfl) #[.bool ((hds.getD m hd0).shallow), .slice (HB m) ((hds.getD m hd0).ops.length) (HC m)] (by kernel_rfl) (fun w17 u2 b7 => ?_))
    have zw17 := u2.size
    refine Gx.ops_end ?_
    refine wp_seq ?_
    refine Gx.seq_reg [0, 1, 2, 3] (by kernel_rfl) ?_
    refine Gx.pure [0] [1, 2, 3] [(98, .pointer (some ⟨k4, 1, none⟩))] rfl (by kernel_rfl) ?_
    refine Gx.cons (Gx.op_load rfl (by kernel_rfl) rfl 1 (.slice (HB m) ((hds.getD m hd0).ops.length) (HC m)) (by kernel_rfl) b7 (by kernel_rfl) ?_)
    refine Gx.pure [2, 3] [] [(101, .bool (decide ((((hds.getD m hd0).ops.length : Nat) : Int) > (255 : Int)))), (100, .int .i64 (((hds.getD m hd0).ops.length : Nat) : Int))] rfl (by kernel_rfl) ?_
    refine Gx.ops_end ?_
    refine Gx.cond (decide ((((hds.getD m hd0).ops.length : Nat) : Int) > (255 : Int))) (by kernel_rfl) (fun h_c101 => ?_) (fun h_c101 => ?_)
    · skip
      refine Gx.seq_run [(3, .int .i64 14), (2, .string (⟨#[]⟩ : ByteArray))] (by kernel_rfl) ?_
      refine wp_ret ?_
      refine Gx.then_ret ?_
      refine Gx.block_ret ?_
      refine Gx.then_ret ?_
      refine Gx.then_ret ?_
      refine Gx.block_ret ?_
      refine Gx.then_ret ?_
      refine Gx.ret (Gx.res2 (v := .string (⟨#[]⟩ : ByteArray)) (u := .int .i64 14) rfl (by kernel_rfl) (by kernel_rfl)) ?_
      have p_c101 := h_c101; try simp [-List.getD_eq_getElem?_getD] at p_c101
      have hb : bd (chunks shape ops hds funs) = true := chunks_hds (bd_flat hd0 (i := m) (by omega) (hd_bad1 (by simp at h_c101; omega)))
      obtain ⟨e1, e2⟩ := res_bad hb
      exact Gx.ret_as (v' := .tuple #[.string (resS (chunks shape ops hds funs)), .int .i64 (resK (chunks shape ops hds funs))]) (by rw [e1, e2]; all_goals rfl) (hK _ ((((Gx.Ext.refl w).trans x11).trans x12).upd1 u2 (by omega)))
    refine wp_skip ?_
    refine Gx.then_normal ?_
    refine wp_seq ?_
    refine Gx.draw (S := fun w' => Gx.Has w' k4 (.cells #[.bool ((hds.getD m hd0).shallow), .slice (HB m) ((hds.getD m hd0).ops.length) (HC m)] 41)) (by kernel_rfl) (fun w18 x13 => ?_)
    have zw18 := x13.size
    refine Gx.any_take 0 (vh) rfl (by kernel_rfl) (by kernel_rfl) (by kernel_rfl) (fun _ _ _ h => h) (b7.ext x13) (by kernel_rfl) (fun _ _ => (by kernel_rfl)) ?_
    refine Gx.any_take 1 (.pointer (some ⟨k4, 0, none⟩)) rfl (by kernel_rfl) (by kernel_rfl) (by kernel_rfl) (fun _ _ _ h => h) (b7.ext x13) (by kernel_rfl) (fun _ _ => (by kernel_rfl)) ?_
    refine Gx.any_take 2 (.bool ((hds.getD m hd0).shallow)) rfl (by kernel_rfl) (by kernel_rfl) (by kernel_rfl) (fun _ _ _ h => h) (b7.ext x13) (by kernel_rfl) (fun _ hs => Gx.run_load rfl 0 (.bool ((hds.getD m hd0).shallow)) (by kernel_rfl) hs (by kernel_rfl)) ?_
    refine Gx.any_take 4 (.pointer (some ⟨k4, 1, none⟩)) rfl (by kernel_rfl) (by kernel_rfl) (by kernel_rfl) (fun _ _ _ h => h) (b7.ext x13) (by kernel_rfl) (fun _ _ => (by kernel_rfl)) ?_
    refine Gx.any_take 5 (.slice (HB m) ((hds.getD m hd0).ops.length) (HC m)) rfl (by kernel_rfl) (by kernel_rfl) (by kernel_rfl) (fun _ _ _ h => h) (b7.ext x13) (by kernel_rfl) (fun _ hs => Gx.run_load rfl 1 (.slice (HB m) ((hds.getD m hd0).ops.length) (HC m)) (by kernel_rfl) hs (by kernel_rfl)) ?_
    refine Gx.any_take 6 (.int .i64 (((hds.getD m hd0).ops.length : Nat) : Int)) rfl (by kernel_rfl) (by kernel_rfl) (by kernel_rfl) (fun _ _ _ h => h) (b7.ext x13) (by kernel_rfl) (fun _ _ => (by kernel_rfl)) ?_
    refine Gx.any_one 3 (by kernel_rfl) (Gx.op_call rfl (by kernel_rfl) (by kernel_rfl) (fun R hR => rflag_c ((hds.getD m hd0).shallow) _ R  (hR _ _ ⟨(b7.ext x13), ?_⟩)))
    refine Gx.any_one 7 (by kernel_rfl) (Gx.op_call rfl (by kernel_rfl) (by kernel_rfl) (fun R hR => big_c (((hds.getD m hd0).ops.length : Nat) : Int) 1 _ R (by omega) (fun w19 x14  => hR _ _ ⟨((b7.ext x13).ext x14), ?_⟩)))
    have zw19 := x14.size
    have p_c101 := h_c101; try simp [-List.getD_eq_getElem?_getD] at p_c101
    refine Gx.any_take 8 (.string ((bigB (flagN ((hds.getD m hd0).shallow)) 1) ++ (bigB (((hds.getD m hd0).ops.length : Nat) : Int) 1))) rfl (by kernel_rfl) (by kernel_rfl) (by kernel_rfl) (fun _ _ _ h => h) ((b7.ext x13).ext x14) (by kernel_rfl) (fun _ _ => Gx.run_concat rfl (bigB (flagN ((hds.getD m hd0).shallow)) 1) (bigB (((hds.getD m hd0).ops.length : Nat) : Int) 1) (by kernel_rfl) (by kernel_rfl) (by (try simp only [ByteArray.size_append, bigB_size]); omega)) ?_
    refine Gx.any_one 9 (by kernel_rfl) (Gx.op_append_strM rfl (by kernel_rfl) rfl 5 (by kernel_rfl) (by kernel_rfl) (by kernel_rfl) (k2) (by kernel_rfl) (Gx.own_extM (Gx.own_extM (Gx.own_upd1M (Gx.own_extM hoh x12) u2 (Gx.own_neM (Gx.own_extM hoh x12) b6 (by decide))) x13) x14) ((bigB (flagN ((hds.getD m hd0).shallow)) 1) ++ (bigB (((hds.getD m hd0).ops.length : Nat) : Int) 1)) (by kernel_rfl) (by first | omega | (simp only [ByteArray.size_append, bigB_size]; omega)) (by omega) (fun v4 w20 ow6 g3 => ⟨(((b7.ext x13).ext x14).upd g3 (fun e => Gx.own_neM (Gx.own_extM (Gx.own_extM (Gx.own_upd1M (Gx.own_extM hoh x12) u2 (Gx.own_neM (Gx.own_extM hoh x12) b6 (by decide))) x13) x14) ((b7.ext x13).ext x14) (by decide) _ e.symm rfl)), ?_⟩))
    have zw20 := g3.size
    refine Gx.any_take 10 (v4) rfl (by kernel_rfl) (by kernel_rfl) (by kernel_rfl) (fun _ _ _ h => h) (((b7.ext x13).ext x14).upd g3 (fun e => Gx.own_neM (Gx.own_extM (Gx.own_extM (Gx.own_upd1M (Gx.own_extM hoh x12) u2 (Gx.own_neM (Gx.own_extM hoh x12) b6 (by decide))) x13) x14) ((b7.ext x13).ext x14) (by decide) _ e.symm rfl)) (by kernel_rfl) (fun _ _ => (by kernel_rfl)) ?_
    refine Gx.any_done (by kernel_rfl) ?_
    refine Gx.then_normal ?_
    obtain ⟨p3, hp3⟩ : ∃ q, q = ph ++ [flagC (hds.getD m hd0).shallow, numC (hds.getD m hd0).ops.length 1] := ⟨_, rfl⟩
    obtain ⟨kb3, kc3⟩ := hd_ok (b := (hds.getD m hd0).shallow) (n := (hds.getD m hd0).ops.length) (by simp [-List.getD_eq_getElem?_getD] at h_c101; omega)
    have ow7 : Gx.ownsM w20 k2 5 v4 (cat p3).size (Lib.strCells (cat p3)) := by rw [hp3]; exact ownM_app ow6 (congrArg Lib.strCells kc3) (congrArg ByteArray.size kc3)
    have hbd3 : bd p3 = false := by rw [hp3, bd_append, hbdh, kb3]; rfl
    have hz3 : (cat p3).size ≤ (cat ph).size + 2 := by have hq := congrArg ByteArray.size kc3; (try simp only [ByteArray.size_append, bigB_size] at hq); rw [hp3, cat_append, ByteArray.size_append]; omega
    refine Gx.seq_run [(9, .int .i64 0)] (by kernel_rfl) ?_
    refine wp_block ?_
    refine Gx.loop (n' := 209) (d' := []) (fun mz l' w' => ∃ (m2 : Nat) (vj : Value) (pj : List Ch), l' = [(1, .pointer (some ⟨k1, 0, none⟩)), (7, .int .i64 ((m : Nat) : Int)), (8, .pointer (some ⟨k4, 0, none⟩)), (4, vj), (9, .int .i64 ((m2 : Nat) : Int))] ∧ mz = (hds.getD m hd0).ops.length - m2 ∧ Gx.Ext w w' ∧ Gx.Has w' k1 (.cells #[.string shape, .slice A1 ops.length c1, .slice A2 hds.length c2, .slice A3 funs.length c3] 26) ∧ Gx.Has w' k4 (.cells #[.bool ((hds.getD m hd0).shallow), .slice (HB m) ((hds.getD m hd0).ops.length) (HC m)] 41) ∧ (m2 ≤ (hds.getD m hd0).ops.length) ∧ (Gx.ownsM w' k2 5 vj (cat pj).size (Lib.strCells (cat pj))) ∧ (pj = p3 ++ upTo (fun o => [numC o 1]) (hds.getD m hd0).ops m2) ∧ ((cat pj).size ≤ (cat p3).size + m2 * 1) ∧ (bd pj = false) ∧ (k2 ≤ w'.heap.size)) _ _ [(1, .pointer (some ⟨k1, 0, none⟩)), (7, .int .i64 ((m : Nat) : Int)), (8, .pointer (some ⟨k4, 0, none⟩)), (4, v4), (9, .int .i64 ((0 : Nat) : Int))] (Gx.forget [(1, .pointer (some ⟨k1, 0, none⟩)), (7, .int .i64 ((m : Nat) : Int)), (8, .pointer (some ⟨k4, 0, none⟩)), (4, v4), (9, .int .i64 ((0 : Nat) : Int))] (by kernel_rfl)) ⟨0, v4, p3, rfl, rfl, (((((((Gx.Ext.refl w).trans x11).trans x12).upd1 u2 (by omega)).trans x13).trans x14).upd g3 (fun j e => by have := (hoh).lt j e; omega)), (((((b5.ext x12).upd1 u2 (by omega)).ext x13).ext x14).upd g3 (fun e => Gx.own_neM (Gx.own_extM (Gx.own_extM (Gx.own_upd1M (Gx.own_extM hoh x12) u2 (Gx.own_neM (Gx.own_extM hoh x12) b6 (by decide))) x13) x14) ((((b5.ext x12).upd1 u2 (by omega)).ext x13).ext x14) (by decide) _ e.symm rfl)), (((b7.ext x13).ext x14).upd g3 (fun e => Gx.own_neM (Gx.own_extM (Gx.own_extM (Gx.own_upd1M (Gx.own_extM hoh x12) u2 (Gx.own_neM (Gx.own_extM hoh x12) b6 (by decide))) x13) x14) ((b7.ext x13).ext x14) (by decide) _ e.symm rfl)), (Nat.zero_le _), ow7, (by simp [upTo_zero]), (by omega), hbd3, (by omega)⟩ (fun bb4 m3 ll4 w21 hI4 K4 hK4 => ?_)
    obtain ⟨m2, vj, pj, rfl, rfl, x15, b8, b9, hkj, hoj, hlj, hzj, hbdj, hBj⟩ := hI4
    have zw21 := x15.size
    have tb8 := b8.lt
    have tb9 := b9.lt
    have ih' := ih m m2; unfold I64 at ih'
    refine wp_seq ?_
    refine Gx.seq_reg [0, 1, 2, 3, 4] (by kernel_rfl) ?_
    refine Gx.pure [0, 1] [2, 3, 4] [(113, .pointer (some ⟨k4, 1, none⟩)), (112, .int .i64 ((m2 : Nat) : Int))] rfl (by kernel_rfl) ?_
    refine Gx.cons (Gx.op_load rfl (by kernel_rfl) rfl 1 (.slice (HB m) ((hds.getD m hd0).ops.length) (HC m)) (by kernel_rfl) b9 (by kernel_rfl) ?_)
    refine Gx.pure [3, 4] [] [(116, .bool (decide (((m2 : Nat) : Int) < (((hds.getD m hd0).ops.length : Nat) : Int)))), (115, .int .i64 (((hds.getD m hd0).ops.length : Nat) : Int))] rfl (by kernel_rfl) ?_
    refine Gx.ops_end ?_
    refine Gx.cond (decide (((m2 : Nat) : Int) < (((hds.getD m hd0).ops.length : Nat) : Int))) (by kernel_rfl) (fun h_c116 => ?_) (fun h_c116 => ?_)
    · skip
      refine wp_skip ?_
      refine Gx.then_normal ?_
      refine wp_seq ?_
      refine wp_block ?_
      refine wp_seq ?_
      refine Gx.seq_reg [0, 1, 2, 3, 4, 5, 6] (by kernel_rfl) ?_
      refine Gx.pure [0] [1, 2, 3, 4, 5, 6] [(119, .pointer (some ⟨k4, 1, none⟩))] rfl (by kernel_rfl) ?_
      refine Gx.cons (Gx.op_load rfl (by kernel_rfl) rfl 1 (.slice (HB m) ((hds.getD m hd0).ops.length) (HC m)) (by kernel_rfl) b9 (by kernel_rfl) ?_)
      refine Gx.pure [2] [3, 4, 5, 6] [(121, .int .i64 ((m2 : Nat) : Int))] rfl (by kernel_rfl) ?_
      have p_c116 := h_c116; try simp [-List.getD_eq_getElem?_getD] at p_c116
      obtain ⟨a3, ha3, hc3⟩ := (R2' m (by omega)) m2 (by omega)
      refine Gx.cons (Gx.op_indexAddrO rfl (by kernel_rfl) rfl 3 1 (by kernel_rfl) (by kernel_rfl) a3 ha3 ((hds.getD m hd0).ops.length) (HC m) (by kernel_rfl) .i64 m2 (by kernel_rfl) (by omega) ?_)
      refine Gx.cons (Gx.op_loadO rfl (by kernel_rfl) rfl [.int .i64 ((hds.getD m hd0).ops.getD m2 0)] (.int .i64 ((hds.getD m hd0).ops.getD m2 0)) (by kernel_rfl) 1 (Gx.cells_ext hc3 (by decide) ((Gx.Ext.refl w).trans x15)) (by kernel_rfl) (by kernel_rfl) ?_)
      refine Gx.cons (Gx.op_call rfl (by kernel_rfl) (by kernel_rfl) (fun R hR => fits_c ((hds.getD m hd0).ops.getD m2 0) (255 : Int) _ R  (hR _ _ ?_)))
      refine Gx.pure [6] [] [(125, .bool (!(decide (((hds.getD m hd0).ops.getD m2 0) ≥ (0 : Int)) && decide (((hds.getD m hd0).ops.getD m2 0) ≤ (255 : Int)))))] rfl (by kernel_rfl) ?_
      refine Gx.ops_end ?_
      refine Gx.cond (!(decide (((hds.getD m hd0).ops.getD m2 0) ≥ (0 : Int)) && decide (((hds.getD m hd0).ops.getD m2 0) ≤ (255 : Int)))) (by kernel_rfl) (fun h_c125 => ?_) (fun h_c125 => ?_)
      · skip
        refine Gx.seq_run [(3, .int .i64 14), (2, .string (⟨#[]⟩ : ByteArray))] (by kernel_rfl) ?_
        refine wp_ret ?_
        refine Gx.then_ret ?_
        refine Gx.block_ret ?_
        refine Gx.then_ret ?_
        refine Gx.then_ret ?_
        refine Gx.block_ret ?_
        refine Gx.block_ret ?_
        refine Gx.then_ret ?_
        refine Gx.then_ret ?_
        refine Gx.block_ret ?_
        refine Gx.then_ret ?_
        refine Gx.ret (Gx.res2 (v := .string (⟨#[]⟩ : ByteArray)) (u := .int .i64 14) rfl (by kernel_rfl) (by kernel_rfl)) ?_
        have p_c125 := h_c125; try simp [-List.getD_eq_getElem?_getD] at p_c125
        have hb : bd (chunks shape ops hds funs) = true := chunks_hds (bd_flat hd0 (i := m) (by omega) (hd_bad2 (j := m2) (by omega) (by simp [-List.getD_eq_getElem?_getD] at h_c125; omega)))
        obtain ⟨e1, e2⟩ := res_bad hb
        exact Gx.ret_as (v' := .tuple #[.string (resS (chunks shape ops hds funs)), .int .i64 (resK (chunks shape ops hds funs))]) (by rw [e1, e2]; all_goals rfl) (hK _ ((Gx.Ext.refl w).trans x15))
      refine wp_skip ?_
      refine Gx.then_normal ?_
      refine Gx.reg [0, 1, 2, 3, 4, 5, 6, 7, 8, 9] (by kernel_rfl) ?_
      refine Gx.pure [0, 1] [2, 3, 4, 5, 6, 7, 8, 9] [(127, .pointer (some ⟨k4, 1, none⟩)), (126, vj)] rfl (by kernel_rfl) ?_
      refine Gx.cons (Gx.op_load rfl (by kernel_rfl) rfl 1 (.slice (HB m) ((hds.getD m hd0).ops.length) (HC m)) (by kernel_rfl) b9 (by kernel_rfl) ?_)
      refine Gx.pure [3] [4, 5, 6, 7, 8, 9] [(129, .int .i64 ((m2 : Nat) : Int))] rfl (by kernel_rfl) ?_
      have p_c125 := h_c125; try simp [-List.getD_eq_getElem?_getD] at p_c125
      obtain ⟨a4, ha4, hc4⟩ := (R2' m (by omega)) m2 (by omega)
      refine Gx.cons (Gx.op_indexAddrO rfl (by kernel_rfl) rfl 3 1 (by kernel_rfl) (by kernel_rfl) a4 ha4 ((hds.getD m hd0).ops.length) (HC m) (by kernel_rfl) .i64 m2 (by kernel_rfl) (by omega) ?_)
      refine Gx.cons (Gx.op_loadO rfl (by kernel_rfl) rfl [.int .i64 ((hds.getD m hd0).ops.getD m2 0)] (.int .i64 ((hds.getD m hd0).ops.getD m2 0)) (by kernel_rfl) 1 (Gx.cells_ext hc4 (by decide) ((Gx.Ext.refl w).trans x15)) (by kernel_rfl) (by kernel_rfl) ?_)
      refine Gx.pure_eq [6] [7, 8, 9] [(132, .int .u8 (IntKind.u8.wrap ((hds.getD m hd0).ops.getD m2 0)))] [(132, .int .u8 ((byteI ((hds.getD m hd0).ops.getD m2 0) 0 : Nat) : Int))] rfl (by kernel_rfl) (Gx.eqI (by rw [IntKind.wrap_u8, byteI_cast]; simp)) ?_
      refine Gx.cons (Gx.op_row (.cells #[.int .u8 ((byteI ((hds.getD m hd0).ops.getD m2 0) 0 : Nat) : Int)] 5) 1 1 rfl (by kernel_rfl) (by kernel_rfl) (fun k5 w22 l5 x16 b10 => ?_))
      have zw22 := x16.size
      have tb10 := b10.lt
      refine Gx.cons (Gx.op_append1M rfl (by kernel_rfl) rfl 5 (by kernel_rfl) (by kernel_rfl) (k2) (by kernel_rfl) (Gx.own_extM hoj x16) 1 (by kernel_rfl) (.int .u8 ((byteI ((hds.getD m hd0).ops.getD m2 0) 0 : Nat) : Int)) b10 rfl (by omega) (by omega) (fun v5 w23 ow8 g4 => ?_))
      have zw23 := g4.size
      refine Gx.pure [9] [] [(4, v5)] rfl (by kernel_rfl) ?_
      refine Gx.ops_nil ?_
      refine Gx.block_normal ?_
      refine Gx.then_normal ?_
      obtain ⟨p4, hp4⟩ : ∃ q, q = pj ++ [numC ((hds.getD m hd0).ops.getD m2 0) 1] := ⟨_, rfl⟩
      obtain ⟨kb4, kc4⟩ := num1_ok (o := ((hds.getD m hd0).ops.getD m2 0)) (by simp [-List.getD_eq_getElem?_getD] at h_c125; omega)
      have ow9 : Gx.ownsM w23 k2 5 v5 (cat p4).size (Lib.strCells (cat p4)) := by rw [hp4]; exact ownM_app ow8 ((congrArg Lib.strCells kc4).trans (strCells_big1 _)) ((congrArg ByteArray.size kc4).trans (bigB_size _ _))
      have hbd4 : bd p4 = false := by rw [hp4, bd_append, hbdj, kb4]; rfl
      have hz4 : (cat p4).size ≤ (cat pj).size + 1 := by have hq := congrArg ByteArray.size kc4; (try simp only [ByteArray.size_append, bigB_size] at hq); rw [hp4, cat_append, ByteArray.size_append]; omega
      refine Gx.reg [0, 1, 2] (by kernel_rfl) ?_
      refine Gx.pure [0] [1, 2] [(117, .int .i64 ((m2 : Nat) : Int))] rfl (by kernel_rfl) ?_
      refine Gx.pure_eq [1] [2] [(118, .int .i64 (IntKind.i64.wrap (((m2 : Nat) : Int) + (1 : Int))))] [(118, .int .i64 ((m2 + 1 : Nat) : Int))] rfl (by kernel_rfl) (Gx.eqI (Gx.i64n (by omega) (by omega))) ?_
      refine Gx.pure [2] [] [(9, .int .i64 ((m2 + 1 : Nat) : Int))] rfl (by kernel_rfl) ?_
      refine Gx.ops_nil ?_
      refine Gx.then_normal ?_
      rw [Gx.forget [(1, .pointer (some ⟨k1, 0, none⟩)), (7, .int .i64 ((m : Nat) : Int)), (8, .pointer (some ⟨k4, 0, none⟩)), (4, v5), (9, .int .i64 (((m2 + 1) : Nat) : Int))] (by kernel_rfl)]
      exact hK4 _ _ _ _ (by omega) ⟨(m2 + 1), v5, p4, rfl, rfl, ((((Gx.Ext.refl w).trans x15).trans x16).upd g4 (fun j e => by have := (hoj).lt j e; omega)), ((b8.ext x16).upd g4 (fun e => Gx.own_neM (Gx.own_extM hoj x16) (b8.ext x16) (by decide) _ e.symm rfl)), ((b9.ext x16).upd g4 (fun e => Gx.own_neM (Gx.own_extM hoj x16) (b9.ext x16) (by decide) _ e.symm rfl)), (by omega), ow9, (by rw [hp4, hlj, upTo_succ (fun o => [numC o 1]) (hds.getD m hd0).ops 0 (by omega)]; simp [List.append_assoc]), (by omega), hbd4, (by omega)⟩
    refine wp_exit ?_
    refine Gx.then_exit ?_
    refine Gx.then_exit ?_
    refine Gx.block_exit ?_
    refine Gx.block_normal ?_
    refine Gx.then_normal ?_
    have p_c116 := h_c116; try simp [-List.getD_eq_getElem?_getD] at p_c116
    rw [upTo_all (fun o => [numC o 1]) (hds.getD m hd0).ops (by omega)] at hlj
    refine Gx.reg [0, 1, 2] (by kernel_rfl) ?_
    refine Gx.pure [0] [1, 2] [(91, .int .i64 ((m : Nat) : Int))] rfl (by kernel_rfl) ?_
    refine Gx.pure_eq [1] [2] [(92, .int .i64 (IntKind.i64.wrap (((m : Nat) : Int) + (1 : Int))))] [(92, .int .i64 ((m + 1 : Nat) : Int))] rfl (by kernel_rfl) (Gx.eqI (Gx.i64n (by omega) (by omega))) ?_
    refine Gx.pure [2] [] [(7, .int .i64 ((m + 1 : Nat) : Int))] rfl (by kernel_rfl) ?_
    refine Gx.ops_nil ?_
    refine Gx.then_normal ?_
    rw [Gx.forget [(1, .pointer (some ⟨k1, 0, none⟩)), (4, vj), (7, .int .i64 (((m + 1) : Nat) : Int))] (by kernel_rfl)]
    exact hK3 _ _ _ _ (by omega) ⟨(m + 1), vj, pj, rfl, rfl, ((Gx.Ext.refl w).trans x15), b8, (by omega), hoj, (by rw [hlj, hp3, hlh, upTo_succ hdC hds hd0 (by omega)]; simp [hdC]), (by omega), hbdj, (by omega)⟩
  refine wp_exit ?_
  refine Gx.then_exit ?_
  refine Gx.then_exit ?_
  refine Gx.block_exit ?_
  refine Gx.then_normal ?_
  have p_c90 := h_c90; try simp [-List.getD_eq_getElem?_getD] at p_c90
  rw [upTo_all hdC hds (by omega)] at hlh
  refine Gx.seq_reg [0, 1, 2, 3, 4, 5, 6] (by kernel_rfl) ?_
  refine Gx.pure [0, 1] [2, 3, 4, 5, 6] [(136, .pointer (some ⟨k1, 3, none⟩)), (135, vh)] rfl (by kernel_rfl) ?_
  refine Gx.cons (Gx.op_load rfl (by kernel_rfl) rfl 3 (.slice A3 funs.length c3) (by kernel_rfl) b5 (by kernel_rfl) ?_)
  refine Gx.pure [3] [4, 5, 6] [(138, .int .i64 ((funs.length : Nat) : Int))] rfl (by kernel_rfl) ?_
  refine Gx.cons (Gx.op_call rfl (by kernel_rfl) (by kernel_rfl) (fun R hR => big_c ((funs.length : Nat) : Int) 2 _ R (by omega) (fun w24 x17  => hR _ _ ?_)))
  have zw24 := x17.size
  refine Gx.cons (Gx.op_append_strM rfl (by kernel_rfl) rfl 5 (by kernel_rfl) (by kernel_rfl) (by kernel_rfl) (k2) (by kernel_rfl) (Gx.own_extM hoh x17) (bigB ((funs.length : Nat) : Int) 2) (by kernel_rfl) (by first | omega | (simp only [ByteArray.size_append, bigB_size]; omega)) (by omega) (fun v6 w25 ow10 g5 => ?_))
  have zw25 := g5.size
  refine Gx.pure [6] [] [(4, v6)] rfl (by kernel_rfl) ?_
  refine Gx.ops_end ?_
  refine wp_seq ?_
  obtain ⟨p5, hp5⟩ : ∃ q, q = ph ++ [numC funs.length 2] := ⟨_, rfl⟩
  obtain ⟨kb5, kc5⟩ := num2_ok (n := funs.length) (by omega)
  have ow11 : Gx.ownsM w25 k2 5 v6 (cat p5).size (Lib.strCells (cat p5)) := by rw [hp5]; exact ownM_app ow10 (congrArg Lib.strCells kc5) (congrArg ByteArray.size kc5)
  have hbd5 : bd p5 = false := by rw [hp5, bd_append, hbdh, kb5]; rfl
  have hz5 : (cat p5).size ≤ (cat ph).size + 2 := by have hq := congrArg ByteArray.size kc5; (try simp only [ByteArray.size_append, bigB_size] at hq); rw [hp5, cat_append, ByteArray.size_append]; omega
  refine Gx.seq_run [(10, .int .i64 0)] (by kernel_rfl) ?_
  refine wp_block ?_
  refine Gx.loop (n' := 209) (d' := []) (fun mz l' w' => ∃ (n : Nat) (vf : Value) (pf : List Ch), l' = [(1, .pointer (some ⟨k1, 0, none⟩)), (4, vf), (10, .int .i64 ((n : Nat) : Int))] ∧ mz = funs.length - n ∧ Gx.Ext w w' ∧ Gx.Has w' k1 (.cells #[.string shape, .slice A1 ops.length c1, .slice A2 hds.length c2, .slice A3 funs.length c3] 26) ∧ (n ≤ funs.length) ∧ (Gx.ownsM w' k2 5 vf (cat pf).size (Lib.strCells (cat pf))) ∧ (pf = p5 ++ upTo fnC funs n) ∧ ((cat pf).size ≤ (cat p5).size + n * 10000000) ∧ (bd pf = false) ∧ (k2 ≤ w'.heap.size)) _ _ [(1, .pointer (some ⟨k1, 0, none⟩)), (4, v6), (10, .int .i64 ((0 : Nat) : Int))] (Gx.forget [(1, .pointer (some ⟨k1, 0, none⟩)), (4, v6), (10, .int .i64 ((0 : Nat) : Int))] (by kernel_rfl)) ⟨0, v6, p5, rfl, rfl, ((((Gx.Ext.refl w).trans x11).trans x17).upd g5 (fun j e => by have := (hoh).lt j e; omega)), ((b5.ext x17).upd g5 (fun e => Gx.own_neM (Gx.own_extM hoh x17) (b5.ext x17) (by decide) _ e.symm rfl)), (Nat.zero_le _), ow11, (by simp [upTo_zero]), (by omega), hbd5, (by omega)⟩ (fun bb5 m4 ll5 w26 hI5 K5 hK5 => ?_)
  obtain ⟨n, vf, pf, rfl, rfl, x18, b11, hkf, hof, hlf, hzf, hbdf, hBf⟩ := hI5
  have zw26 := x18.size
  have tb11 := b11.lt
  have zfi' := zfi n
  have jf' := jf n; unfold I64 at jf'
  refine wp_seq ?_
  refine Gx.seq_reg [0, 1, 2, 3, 4] (by kernel_rfl) ?_
  refine Gx.pure [0, 1] [2, 3, 4] [(142, .pointer (some ⟨k1, 3, none⟩)), (141, .int .i64 ((n : Nat) : Int))] rfl (by kernel_rfl) ?_
  refine Gx.cons (Gx.op_load rfl (by kernel_rfl) rfl 3 (.slice A3 funs.length c3) (by kernel_rfl) b11 (by kernel_rfl) ?_)
  refine Gx.pure [3, 4] [] [(145, .bool (decide (((n : Nat) : Int) < ((funs.length : Nat) : Int)))), (144, .int .i64 ((funs.length : Nat) : Int))] rfl (by kernel_rfl) ?_
  refine Gx.ops_end ?_
  refine Gx.cond (decide (((n : Nat) : Int) < ((funs.length : Nat) : Int))) (by kernel_rfl) (fun h_c145 => ?_) (fun h_c145 => ?_)
  · skip
    refine wp_skip ?_
    refine Gx.then_normal ?_
    refine wp_seq ?_
    refine wp_block ?_
    refine Gx.seq_reg [0, 1, 2, 3, 4, 5, 6] (by kernel_rfl) ?_
    refine Gx.pure [0] [1, 2, 3, 4, 5, 6] [(148, .pointer (some ⟨k1, 3, none⟩))] rfl (by kernel_rfl) ?_
    refine Gx.cons (Gx.op_load rfl (by kernel_rfl) rfl 3 (.slice A3 funs.length c3) (by kernel_rfl) b11 (by kernel_rfl) ?_)
    refine Gx.pure [2] [3, 4, 5, 6] [(150, .int .i64 ((n : Nat) : Int))] rfl (by kernel_rfl) ?_
    have p_c145 := h_c145; try simp [-List.getD_eq_getElem?_getD] at p_c145
    obtain ⟨a5, ha5, hc5⟩ := R3 n (by omega)
    refine Gx.cons (Gx.op_indexAddrO rfl (by kernel_rfl) rfl 44 3 (by kernel_rfl) (by kernel_rfl) a5 ha5 funs.length c3 (by kernel_rfl) .i64 n (by kernel_rfl) (by omega) ?_)
    refine Gx.cons (Gx.op_loadO rfl (by kernel_rfl) rfl [.int .i64 ((funs.getD n fun0).free), .int .i64 ((funs.getD n fun0).slots), .slice (FB n) ((funs.getD n fun0).ins.length) (FC n)] (.agg #[.int .i64 ((funs.getD n fun0).free), .int .i64 ((funs.getD n fun0).slots), .slice (FB n) ((funs.getD n fun0).ins.length) (FC n)]) (by kernel_rfl) 3 (Gx.cells_ext hc5 (by decide) ((Gx.Ext.refl w).trans x18)) (by kernel_rfl) (by kernel_rfl) ?_)
    refine Gx.cons (Gx.op_new (.cells #[.int .i64 0, .int .i64 0, .slice none 0 0] 44) rfl (by kernel_rfl) (by kernel_rfl) (fun k6 w27 l6 x19 b12 => ?_))
    have zw27 := x19.size
    have tb12 := b12.lt
    refine Gx.cons (Gx.op_store rfl (by kernel_rfl) rfl 0 (.agg #[.int .i64 ((funs.getD n fun0).free), .int .i64 ((funs.getD n fun0).slots), .slice (FB n) ((funs.getD n fun0).ins.length) (FC n)]) (by kernel_rfl) (by kernel_rfl) b12 (by kernel_rfl) (by kernel_rfl) (by kernel_rfl) #[.int .i64 ((funs.getD n fun0).free), .int .i64 ((funs.getD n fun0).slots), .slice (FB n) ((funs.getD n fun0).ins.length) (FC n)] (by kernel_rfl) (fun w28 u3 b13 => ?_))
    have zw28 := u3.size
    refine Gx.ops_end ?_
    refine wp_seq ?_
    refine Gx.cut (d' := []) (n' := 209) (fun l' w' => l' = [(1, .pointer (some ⟨k1, 0, none⟩)), (4, vf), (10, .int .i64 ((n : Nat) : Int)), (11, .pointer (some ⟨k6, 0, none⟩)), (168, .bool (((!(decide (((funs.getD n fun0).free) ≥ (0 : Int)) && decide (((funs.getD n fun0).free) ≤ (65535 : Int)))) || (!(decide (((funs.getD n fun0).slots) ≥ (0 : Int)) && decide (((funs.getD n fun0).slots) ≤ (65535 : Int))))) || (decide ((((funs.getD n fun0).ins.length : Nat) : Int) > (65535 : Int)))))] ∧ w28 = w') (fun K6 hK6 => ?_) (fun bb6 ll6 w29 hI6 => ?_)
    · refine Gx.reg [0, 1, 2, 3, 4, 5, 6, 7, 8, 9, 10, 11, 12, 13, 14, 15] (by kernel_rfl) ?_
      refine Gx.pure [0] [1, 2, 3, 4, 5, 6, 7, 8, 9, 10, 11, 12, 13, 14, 15] [(153, .pointer (some ⟨k6, 0, none⟩))] rfl (by kernel_rfl) ?_
      refine Gx.cons (Gx.op_load rfl (by kernel_rfl) rfl 0 (.int .i64 ((funs.getD n fun0).free)) (by kernel_rfl) b13 (by kernel_rfl) ?_)
      refine Gx.cons (Gx.op_call rfl (by kernel_rfl) (by kernel_rfl) (fun R hR => fits_c ((funs.getD n fun0).free) (65535 : Int) _ R  (hR _ _ ?_)))
      refine Gx.pure [3, 4] [5, 6, 7, 8, 9, 10, 11, 12, 13, 14, 15] [(157, .bool (!(decide (((funs.getD n fun0).free) ≥ (0 : Int)) && decide (((funs.getD n fun0).free) ≤ (65535 : Int))))), (156, .bool (!(decide (((funs.getD n fun0).free) ≥ (0 : Int)) && decide (((funs.getD n fun0).free) ≤ (65535 : Int)))))] rfl (by kernel_rfl) ?_
      refine Gx.split (!(decide (((funs.getD n fun0).free) ≥ (0 : Int)) && decide (((funs.getD n fun0).free) ≤ (65535 : Int)))) (fun h_g157 => ?_) (fun h_g157 => ?_)
      · rw [h_g157]
        refine Gx.pure [5, 6, 7, 8, 9, 10, 11, 12, 13, 14, 15] [] [(168, .bool true), (167, undef), (166, undef), (165, undef), (164, undef), (163, .bool true), (162, .bool true), (161, undef), (160, undef), (159, undef), (158, undef)] rfl (by kernel_rfl) ?_
        refine Gx.ops_end ?_
        rw [Gx.forget [(1, .pointer (some ⟨k1, 0, none⟩)), (4, vf), (10, .int .i64 ((n : Nat) : Int)), (11, .pointer (some ⟨k6, 0, none⟩)), (168, .bool (((!(decide (((funs.getD n fun0).free) ≥ (0 : Int)) && decide (((funs.getD n fun0).free) ≤ (65535 : Int)))) || (!(decide (((funs.getD n fun0).slots) ≥ (0 : Int)) && decide (((funs.getD n fun0).slots) ≤ (65535 : Int))))) || (decide ((((funs.getD n fun0).ins.length : Nat) : Int) > (65535 : Int)))))] (by rw [h_g157]; try kernel_rfl)]
        exact hK6 _ _ _ ⟨rfl, rfl⟩
      rw [h_g157]
      refine Gx.pure [5] [6, 7, 8, 9, 10, 11, 12, 13, 14, 15] [(158, .pointer (some ⟨k6, 1, none⟩))] rfl (by kernel_rfl) ?_
      refine Gx.cons (Gx.op_load rfl (by kernel_rfl) rfl 1 (.int .i64 ((funs.getD n fun0).slots)) (by kernel_rfl) b13 (by kernel_rfl) ?_)
      refine Gx.cons (Gx.op_call rfl (by kernel_rfl) (by kernel_rfl) (fun R hR => fits_c ((funs.getD n fun0).slots) (65535 : Int) _ R  (hR _ _ ?_)))
      refine Gx.pure [8, 9, 10] [11, 12, 13, 14, 15] [(163, .bool (!(decide (((funs.getD n fun0).slots) ≥ (0 : Int)) && decide (((funs.getD n fun0).slots) ≤ (65535 : Int))))), (162, .bool (!(decide (((funs.getD n fun0).slots) ≥ (0 : Int)) && decide (((funs.getD n fun0).slots) ≤ (65535 : Int))))), (161, .bool (!(decide (((funs.getD n fun0).slots) ≥ (0 : Int)) && decide (((funs.getD n fun0).slots) ≤ (65535 : Int)))))] rfl (by kernel_rfl) ?_
      refine Gx.split (!(decide (((funs.getD n fun0).slots) ≥ (0 : Int)) && decide (((funs.getD n fun0).slots) ≤ (65535 : Int)))) (fun h_g163 => ?_) (fun h_g163 => ?_)
      · rw [h_g163]
        refine Gx.pure [11, 12, 13, 14, 15] [] [(168, .bool true), (167, undef), (166, undef), (165, undef), (164, undef)] rfl (by kernel_rfl) ?_
        refine Gx.ops_end ?_
        rw [Gx.forget [(1, .pointer (some ⟨k1, 0, none⟩)), (4, vf), (10, .int .i64 ((n : Nat) : Int)), (11, .pointer (some ⟨k6, 0, none⟩)), (168, .bool (((!(decide (((funs.getD n fun0).free) ≥ (0 : Int)) && decide (((funs.getD n fun0).free) ≤ (65535 : Int)))) || (!(decide (((funs.getD n fun0).slots) ≥ (0 : Int)) && decide (((funs.getD n fun0).slots) ≤ (65535 : Int))))) || (decide ((((funs.getD n fun0).ins.length : Nat) : Int) > (65535 : Int)))))] (by rw [h_g157, h_g163]; try kernel_rfl)]
        exact hK6 _ _ _ ⟨rfl, rfl⟩
      rw [h_g163]
      refine Gx.pure [11] [12, 13, 14, 15] [(164, .pointer (some ⟨k6, 2, none⟩))] rfl (by kernel_rfl) ?_
      refine Gx.cons (Gx.op_load rfl (by kernel_rfl) rfl 2 (.slice (FB n) ((funs.getD n fun0).ins.length) (FC n)) (by kernel_rfl) b13 (by kernel_rfl) ?_)
      refine Gx.pure [13, 14, 15] [] [(168, .bool (decide ((((funs.getD n fun0).ins.length : Nat) : Int) > (65535 : Int)))), (167, .bool (decide ((((funs.getD n fun0).ins.length : Nat) : Int) > (65535 : Int)))), (166, .int .i64 (((funs.getD n fun0).ins.length : Nat) : Int))] rfl (by kernel_rfl) ?_
      refine Gx.ops_end ?_
      rw [Gx.forget [(1, .pointer (some ⟨k1, 0, none⟩)), (4, vf), (10, .int .i64 ((n : Nat) : Int)), (11, .pointer (some ⟨k6, 0, none⟩)), (168, .bool (((!(decide (((funs.getD n fun0).free) ≥ (0 : Int)) && decide (((funs.getD n fun0).free) ≤ (65535 : Int)))) || (!(decide (((funs.getD n fun0).slots) ≥ (0 : Int)) && decide (((funs.getD n fun0).slots) ≤ (65535 : Int))))) || (decide ((((funs.getD n fun0).ins.length : Nat) : Int) > (65535 : Int)))))] (by rw [h_g157, h_g163]; try kernel_rfl)]
      exact hK6 _ _ _ ⟨rfl, rfl⟩
    obtain ⟨rfl, rfl⟩ := hI6
    refine Gx.cond (((!(decide (((funs.getD n fun0).free) ≥ (0 : Int)) && decide (((funs.getD n fun0).free) ≤ (65535 : Int)))) || (!(decide (((funs.getD n fun0).slots) ≥ (0 : Int)) && decide (((funs.getD n fun0).slots) ≤ (65535 : Int))))) || (decide ((((funs.getD n fun0).ins.length : Nat) : Int) > (65535 : Int)))) (by kernel_rfl) (fun h_c168 => ?_) (fun h_c168 => ?_)
    · skip
      refine Gx.seq_run [(3, .int .i64 14), (2, .string (⟨#[]⟩ : ByteArray))] (by kernel_rfl) ?_
      refine wp_ret ?_
      refine Gx.then_ret ?_
      refine Gx.block_ret ?_
      refine Gx.then_ret ?_
      refine Gx.then_ret ?_
      refine Gx.block_ret ?_
      refine Gx.then_ret ?_
      refine Gx.ret (Gx.res2 (v := .string (⟨#[]⟩ : ByteArray)) (u := .int .i64 14) rfl (by kernel_rfl) (by kernel_rfl)) ?_
      have p_c168 := h_c168; try simp [-List.getD_eq_getElem?_getD] at p_c168
      have hb : bd (chunks shape ops hds funs) = true := chunks_funs (bd_flat fun0 (i := n) (by omega) (fn_bad1 (by simp [-List.getD_eq_getElem?_getD] at h_c168; omega)))
      obtain ⟨e1, e2⟩ := res_bad hb
      exact Gx.ret_as (v' := .tuple #[.string (resS (chunks shape ops hds funs)), .int .i64 (resK (chunks shape ops hds funs))]) (by rw [e1, e2]; all_goals rfl) (hK _ ((((Gx.Ext.refl w).trans x18).trans x19).upd1 u3 (by omega)))
    refine wp_skip ?_
    refine Gx.then_normal ?_
    refine wp_seq ?_
    refine Gx.draw (S := fun w' => Gx.Has w' k6 (.cells #[.int .i64 ((funs.getD n fun0).free), .int .i64 ((funs.getD n fun0).slots), .slice (FB n) ((funs.getD n fun0).ins.length) (FC n)] 44)) (by kernel_rfl) (fun w30 x20 => ?_)
    have zw30 := x20.size
    refine Gx.any_take 0 (vf) rfl (by kernel_rfl) (by kernel_rfl) (by kernel_rfl) (fun _ _ _ h => h) (b13.ext x20) (by kernel_rfl) (fun _ _ => (by kernel_rfl)) ?_
    refine Gx.any_take 1 (.pointer (some ⟨k6, 0, none⟩)) rfl (by kernel_rfl) (by kernel_rfl) (by kernel_rfl) (fun _ _ _ h => h) (b13.ext x20) (by kernel_rfl) (fun _ _ => (by kernel_rfl)) ?_
    refine Gx.any_take 2 (.int .i64 ((funs.getD n fun0).free)) rfl (by kernel_rfl) (by kernel_rfl) (by kernel_rfl) (fun _ _ _ h => h) (b13.ext x20) (by kernel_rfl) (fun _ hs => Gx.run_load rfl 0 (.int .i64 ((funs.getD n fun0).free)) (by kernel_rfl) hs (by kernel_rfl)) ?_
    refine Gx.any_take 4 (.pointer (some ⟨k6, 1, none⟩)) rfl (by kernel_rfl) (by kernel_rfl) (by kernel_rfl) (fun _ _ _ h => h) (b13.ext x20) (by kernel_rfl) (fun _ _ => (by kernel_rfl)) ?_
    refine Gx.any_take 5 (.int .i64 ((funs.getD n fun0).slots)) rfl (by kernel_rfl) (by kernel_rfl) (by kernel_rfl) (fun _ _ _ h => h) (b13.ext x20) (by kernel_rfl) (fun _ hs => Gx.run_load rfl 1 (.int .i64 ((funs.getD n fun0).slots)) (by kernel_rfl) hs (by kernel_rfl)) ?_
    refine Gx.any_take 8 (.pointer (some ⟨k6, 2, none⟩)) rfl (by kernel_rfl) (by kernel_rfl) (by kernel_rfl) (fun _ _ _ h => h) (b13.ext x20) (by kernel_rfl) (fun _ _ => (by kernel_rfl)) ?_
    refine Gx.any_take 9 (.slice (FB n) ((funs.getD n fun0).ins.length) (FC n)) rfl (by kernel_rfl) (by kernel_rfl) (by kernel_rfl) (fun _ _ _ h => h) (b13.ext x20) (by kernel_rfl) (fun _ hs => Gx.run_load rfl 2 (.slice (FB n) ((funs.getD n fun0).ins.length) (FC n)) (by kernel_rfl) hs (by kernel_rfl)) ?_
    refine Gx.any_take 10 (.int .i64 (((funs.getD n fun0).ins.length : Nat) : Int)) rfl (by kernel_rfl) (by kernel_rfl) (by kernel_rfl) (fun _ _ _ h => h) (b13.ext x20) (by kernel_rfl) (fun _ _ => (by kernel_rfl)) ?_
    refine Gx.any_one 3 (by kernel_rfl) (Gx.op_call rfl (by kernel_rfl) (by kernel_rfl) (fun R hR => big_c ((funs.getD n fun0).free) 2 _ R (by omega) (fun w31 x21  => hR _ _ ⟨((b13.ext x20).ext x21), ?_⟩)))
    have zw31 := x21.size
    refine Gx.any_one 6 (by kernel_rfl) (Gx.op_call rfl (by kernel_rfl) (by kernel_rfl) (fun R hR => big_c ((funs.getD n fun0).slots) 2 _ R (by omega) (fun w32 x22  => hR _ _ ⟨(((b13.ext x20).ext x21).ext x22), ?_⟩)))
    have zw32 := x22.size
    have p_c168 := h_c168; try simp [-List.getD_eq_getElem?_getD] at p_c168
    refine Gx.any_take 7 (.string ((bigB ((funs.getD n fun0).free) 2) ++ (bigB ((funs.getD n fun0).slots) 2))) rfl (by kernel_rfl) (by kernel_rfl) (by kernel_rfl) (fun _ _ _ h => h) (((b13.ext x20).ext x21).ext x22) (by kernel_rfl) (fun _ _ => Gx.run_concat rfl (bigB ((funs.getD n fun0).free) 2) (bigB ((funs.getD n fun0).slots) 2) (by kernel_rfl) (by kernel_rfl) (by (try simp only [ByteArray.size_append, bigB_size]); omega)) ?_
    refine Gx.any_one 11 (by kernel_rfl) (Gx.op_call rfl (by kernel_rfl) (by kernel_rfl) (fun R hR => big_c (((funs.getD n fun0).ins.length : Nat) : Int) 2 _ R (by omega) (fun w33 x23  => hR _ _ ⟨((((b13.ext x20).ext x21).ext x22).ext x23), ?_⟩)))
    have zw33 := x23.size
    refine Gx.any_take 12 (.string (((bigB ((funs.getD n fun0).free) 2) ++ (bigB ((funs.getD n fun0).slots) 2)) ++ (bigB (((funs.getD n fun0).ins.length : Nat) : Int) 2))) rfl (by kernel_rfl) (by kernel_rfl) (by kernel_rfl) (fun _ _ _ h => h) ((((b13.ext x20).ext x21).ext x22).ext x23) (by kernel_rfl) (fun _ _ => Gx.run_concat rfl ((bigB ((funs.getD n fun0).free) 2) ++ (bigB ((funs.getD n fun0).slots) 2)) (bigB (((funs.getD n fun0).ins.length : Nat) : Int) 2) (by kernel_rfl) (by kernel_rfl) (by (try simp only [ByteArray.size_append, bigB_size]); omega)) ?_
    refine Gx.any_one 13 (by kernel_rfl) (Gx.op_append_strM rfl (by kernel_rfl) rfl 5 (by kernel_rfl) (by kernel_rfl) (by kernel_rfl) (k2) (by kernel_rfl) (Gx.own_extM (Gx.own_extM (Gx.own_extM (Gx.own_extM (Gx.own_upd1M (Gx.own_extM hof x19) u3 (Gx.own_neM (Gx.own_extM hof x19) b12 (by decide))) x20) x21) x22) x23) (((bigB ((funs.getD n fun0).free) 2) ++ (bigB ((funs.getD n fun0).slots) 2)) ++ (bigB (((funs.getD n fun0).ins.length : Nat) : Int) 2)) (by kernel_rfl) (by first | omega | (simp only [ByteArray.size_append, bigB_size]; omega)) (by omega) (fun v7 w34 ow12 g6 => ⟨(((((b13.ext x20).ext x21).ext x22).ext x23).upd g6 (fun e => Gx.own_neM (Gx.own_extM (Gx.own_extM (Gx.own_extM (Gx.own_extM (Gx.own_upd1M (Gx.own_extM hof x19) u3 (Gx.own_neM (Gx.own_extM hof x19) b12 (by decide))) x20) x21) x22) x23) ((((b13.ext x20).ext x21).ext x22).ext x23) (by decide) _ e.symm rfl)), ?_⟩))
    have zw34 := g6.size
    refine Gx.any_take 14 (v7) rfl (by kernel_rfl) (by kernel_rfl) (by kernel_rfl) (fun _ _ _ h => h) (((((b13.ext x20).ext x21).ext x22).ext x23).upd g6 (fun e => Gx.own_neM (Gx.own_extM (Gx.own_extM (Gx.own_extM (Gx.own_extM (Gx.own_upd1M (Gx.own_extM hof x19) u3 (Gx.own_neM (Gx.own_extM hof x19) b12 (by decide))) x20) x21) x22) x23) ((((b13.ext x20).ext x21).ext x22).ext x23) (by decide) _ e.symm rfl)) (by kernel_rfl) (fun _ _ => (by kernel_rfl)) ?_
    refine Gx.any_done (by kernel_rfl) ?_
    refine Gx.then_normal ?_
    obtain ⟨p6, hp6⟩ : ∃ q, q = pf ++ [numC (funs.getD n fun0).free 2, numC (funs.getD n fun0).slots 2, numC (funs.getD n fun0).ins.length 2] := ⟨_, rfl⟩
    obtain ⟨kb6, kc6⟩ := fn_ok (a := (funs.getD n fun0).free) (b := (funs.getD n fun0).slots) (n := (funs.getD n fun0).ins.length) (by simp [-List.getD_eq_getElem?_getD] at h_c168; omega)
    have ow13 : Gx.ownsM w34 k2 5 v7 (cat p6).size (Lib.strCells (cat p6)) := by rw [hp6]; exact ownM_app ow12 (congrArg Lib.strCells kc6) (congrArg ByteArray.size kc6)
    have hbd6 : bd p6 = false := by rw [hp6, bd_append, hbdf, kb6]; rfl
    have hz6 : (cat p6).size ≤ (cat pf).size + 6 := by have hq := congrArg ByteArray.size kc6; (try simp only [ByteArray.size_append, bigB_size] at hq); rw [hp6, cat_append, ByteArray.size_append]; omega
    refine Gx.seq_run [(12, .int .i64 0)] (by kernel_rfl) ?_
    refine wp_block ?_
    refine Gx.loop (n' := 209) (d' := []) (fun mz l' w' => ∃ (n2 : Nat) (vi : Value) (pi : List Ch), l' = [(1, .pointer (some ⟨k1, 0, none⟩)), (10, .int .i64 ((n : Nat) : Int)), (11, .pointer (some ⟨k6, 0, none⟩)), (4, vi), (12, .int .i64 ((n2 : Nat) : Int))] ∧ mz = (funs.getD n fun0).ins.length - n2 ∧ Gx.Ext w w' ∧ Gx.Has w' k1 (.cells #[.string shape, .slice A1 ops.length c1, .slice A2 hds.length c2, .slice A3 funs.length c3] 26) ∧ Gx.Has w' k6 (.cells #[.int .i64 ((funs.getD n fun0).free), .int .i64 ((funs.getD n fun0).slots), .slice (FB n) ((funs.getD n fun0).ins.length) (FC n)] 44) ∧ (n2 ≤ (funs.getD n fun0).ins.length) ∧ (Gx.ownsM w' k2 5 vi (cat pi).size (Lib.strCells (cat pi))) ∧ (pi = p6 ++ upTo insC (funs.getD n fun0).ins n2) ∧ ((cat pi).size ≤ (cat p6).size + n2 * 9) ∧ (bd pi = false) ∧ (k2 ≤ w'.heap.size)) _ _ [(1, .pointer (some ⟨k1, 0, none⟩)), (10, .int .i64 ((n : Nat) : Int)), (11, .pointer (some ⟨k6, 0, none⟩)), (4, v7), (12, .int .i64 ((0 : Nat) : Int))] (Gx.forget [(1, .pointer (some ⟨k1, 0, none⟩)), (10, .int .i64 ((n : Nat) : Int)), (11, .pointer (some ⟨k6, 0, none⟩)), (4, v7), (12, .int .i64 ((0 : Nat) : Int))] (by kernel_rfl)) ⟨0, v7, p6, rfl, rfl, (((((((((Gx.Ext.refl w).trans x18).trans x19).upd1 u3 (by omega)).trans x20).trans x21).trans x22).trans x23).upd g6 (fun j e => by have := (hof).lt j e; omega)), (((((((b11.ext x19).upd1 u3 (by omega)).ext x20).ext x21).ext x22).ext x23).upd g6 (fun e => Gx.own_neM (Gx.own_extM (Gx.own_extM (Gx.own_extM (Gx.own_extM (Gx.own_upd1M (Gx.own_extM hof x19) u3 (Gx.own_neM (Gx.own_extM hof x19) b12 (by decide))) x20) x21) x22) x23) ((((((b11.ext x19).upd1 u3 (by omega)).ext x20).ext x21).ext x22).ext x23) (by decide) _ e.symm rfl)), (((((b13.ext x20).ext x21).ext x22).ext x23).upd g6 (fun e => Gx.own_neM (Gx.own_extM (Gx.own_extM (Gx.own_extM (Gx.own_extM (Gx.own_upd1M (Gx.own_extM hof x19) u3 (Gx.own_neM (Gx.own_extM hof x19) b12 (by decide))) x20) x21) x22) x23) ((((b13.ext x20).ext x21).ext x22).ext x23) (by decide) _ e.symm rfl)), (Nat.zero_le _), ow13, (by simp [upTo_zero]), (by omega), hbd6, (by omega)⟩ (fun bb7 m5 ll7 w35 hI7 K7 hK7 => ?_)
    obtain ⟨n2, vi, pi, rfl, rfl, x24, b14, b15, hki, hoi, hli, hzi, hbdi, hBi⟩ := hI7
    have zw35 := x24.size
    have tb14 := b14.lt
    have tb15 := b15.lt
    refine wp_seq ?_
    refine Gx.seq_reg [0, 1, 2, 3, 4] (by kernel_rfl) ?_
    refine Gx.pure [0, 1] [2, 3, 4] [(184, .pointer (some ⟨k6, 2, none⟩)), (183, .int .i64 ((n2 : Nat) : Int))] rfl (by kernel_rfl) ?_
    refine Gx.cons (Gx.op_load rfl (by kernel_rfl) rfl 2 (.slice (FB n) ((funs.getD n fun0).ins.length) (FC n)) (by kernel_rfl) b15 (by kernel_rfl) ?_)
    refine Gx.pure [3, 4] [] [(187, .bool (decide (((n2 : Nat) : Int) < (((funs.getD n fun0).ins.length : Nat) : Int)))), (186, .int .i64 (((funs.getD n fun0).ins.length : Nat) : Int))] rfl (by kernel_rfl) ?_
    refine Gx.ops_end ?_
    refine Gx.cond (decide (((n2 : Nat) : Int) < (((funs.getD n fun0).ins.length : Nat) : Int))) (by kernel_rfl) (fun h_c187 => ?_) (fun h_c187 => ?_)
    · skip
      refine wp_skip ?_
      refine Gx.then_normal ?_
      refine wp_seq ?_
      refine wp_block ?_
      refine Gx.seq_reg [0, 1, 2, 3, 4, 5, 6, 7, 8, 9, 10] (by kernel_rfl) ?_
      refine Gx.pure [0] [1, 2, 3, 4, 5, 6, 7, 8, 9, 10] [(191, .pointer (some ⟨k6, 2, none⟩))] rfl (by kernel_rfl) ?_
      refine Gx.cons (Gx.op_load rfl (by kernel_rfl) rfl 2 (.slice (FB n) ((funs.getD n fun0).ins.length) (FC n)) (by kernel_rfl) b15 (by kernel_rfl) ?_)
      refine Gx.pure [2] [3, 4, 5, 6, 7, 8, 9, 10] [(193, .int .i64 ((n2 : Nat) : Int))] rfl (by kernel_rfl) ?_
      have p_c187 := h_c187; try simp [-List.getD_eq_getElem?_getD] at p_c187
      obtain ⟨a6, ha6, hc6⟩ := (R3' n (by omega)) n2 (by omega)
      refine Gx.cons (Gx.op_indexAddrO rfl (by kernel_rfl) rfl 46 4 (by kernel_rfl) (by kernel_rfl) a6 ha6 ((funs.getD n fun0).ins.length) (FC n) (by kernel_rfl) .i64 n2 (by kernel_rfl) (by omega) ?_)
      refine Gx.cons (Gx.op_loadO rfl (by kernel_rfl) rfl [.int .i64 (((funs.getD n fun0).ins.getD n2 ins0).op), .int .i64 (((funs.getD n fun0).ins.getD n2 ins0).a), .int .i64 (((funs.getD n fun0).ins.getD n2 ins0).b), .int .i64 (((funs.getD n fun0).ins.getD n2 ins0).n)] (.agg #[.int .i64 (((funs.getD n fun0).ins.getD n2 ins0).op), .int .i64 (((funs.getD n fun0).ins.getD n2 ins0).a), .int .i64 (((funs.getD n fun0).ins.getD n2 ins0).b), .int .i64 (((funs.getD n fun0).ins.getD n2 ins0).n)]) (by kernel_rfl) 4 (Gx.cells_ext hc6 (by decide) ((Gx.Ext.refl w).trans x24)) (by kernel_rfl) (by kernel_rfl) ?_)
      refine Gx.cons (Gx.op_call rfl (by kernel_rfl) (by kernel_rfl) (fun R hR => rins_p ((funs.getD n fun0).ins.getD n2 ins0) _ R  (fun w36 x25  => hR _ _ ?_)))
      have zw36 := x25.size
      refine Gx.pure [6, 7, 8, 9, 10] [] [(14, .bool (!bd (insC ((funs.getD n fun0).ins.getD n2 ins0)))), (13, .string (bif bd (insC ((funs.getD n fun0).ins.getD n2 ins0)) then e0 else cat (insC ((funs.getD n fun0).ins.getD n2 ins0)))), (198, .bool (!bd (insC ((funs.getD n fun0).ins.getD n2 ins0)))), (197, .string (bif bd (insC ((funs.getD n fun0).ins.getD n2 ins0)) then e0 else cat (insC ((funs.getD n fun0).ins.getD n2 ins0)))), (190, .tuple #[.string (bif bd (insC ((funs.getD n fun0).ins.getD n2 ins0)) then e0 else cat (insC ((funs.getD n fun0).ins.getD n2 ins0))), .bool (!bd (insC ((funs.getD n fun0).ins.getD n2 ins0)))])] rfl (by kernel_rfl) ?_
      refine Gx.ops_end ?_
      refine wp_seq ?_
      refine Gx.seq_run [(200, .bool (!(!bd (insC ((funs.getD n fun0).ins.getD n2 ins0))))), (199, .bool (!bd (insC ((funs.getD n fun0).ins.getD n2 ins0))))] (by kernel_rfl) ?_
      refine Gx.cond (!(!bd (insC ((funs.getD n fun0).ins.getD n2 ins0)))) (by kernel_rfl) (fun h_c200 => ?_) (fun h_c200 => ?_)
      · skip
        refine Gx.seq_run [(3, .int .i64 14), (2, .string (⟨#[]⟩ : ByteArray))] (by kernel_rfl) ?_
        refine wp_ret ?_
        refine Gx.then_ret ?_
        refine Gx.block_ret ?_
        refine Gx.then_ret ?_
        refine Gx.then_ret ?_
        refine Gx.block_ret ?_
        refine Gx.block_ret ?_
        refine Gx.then_ret ?_
        refine Gx.then_ret ?_
        refine Gx.block_ret ?_
        refine Gx.then_ret ?_
        refine Gx.ret (Gx.res2 (v := .string (⟨#[]⟩ : ByteArray)) (u := .int .i64 14) rfl (by kernel_rfl) (by kernel_rfl)) ?_
        have p_c200 := h_c200; try simp [-List.getD_eq_getElem?_getD] at p_c200
        have hb : bd (chunks shape ops hds funs) = true := chunks_funs (bd_flat fun0 (i := n) (by omega) (fn_bad2 (j := n2) (by omega) (by simpa using h_c200)))
        obtain ⟨e1, e2⟩ := res_bad hb
        exact Gx.ret_as (v' := .tuple #[.string (resS (chunks shape ops hds funs)), .int .i64 (resK (chunks shape ops hds funs))]) (by rw [e1, e2]; all_goals rfl) (hK _ (((Gx.Ext.refl w).trans x24).trans x25))
      refine wp_skip ?_
      refine Gx.then_normal ?_
      have hzi := ins_size' ((funs.getD n fun0).ins.getD n2 ins0)
      refine Gx.reg [0, 1, 2, 3] (by kernel_rfl) ?_
      refine Gx.pure [0, 1] [2, 3] [(202, .string (bif bd (insC ((funs.getD n fun0).ins.getD n2 ins0)) then e0 else cat (insC ((funs.getD n fun0).ins.getD n2 ins0)))), (201, vi)] rfl (by kernel_rfl) ?_
      have p_c200 := h_c200; try simp [-List.getD_eq_getElem?_getD] at p_c200
      refine Gx.cons (Gx.op_append_strM rfl (by kernel_rfl) rfl 5 (by kernel_rfl) (by kernel_rfl) (by kernel_rfl) (k2) (by kernel_rfl) (Gx.own_extM hoi x25) (bif bd (insC ((funs.getD n fun0).ins.getD n2 ins0)) then e0 else cat (insC ((funs.getD n fun0).ins.getD n2 ins0))) (by kernel_rfl) (by first | omega | (simp only [ByteArray.size_append, bigB_size]; omega)) (by omega) (fun v8 w37 ow14 g7 => ?_))
      have zw37 := g7.size
      refine Gx.pure [3] [] [(4, v8)] rfl (by kernel_rfl) ?_
      refine Gx.ops_nil ?_
      refine Gx.block_normal ?_
      refine Gx.then_normal ?_
      obtain ⟨p7, hp7⟩ : ∃ q, q = pi ++ insC ((funs.getD n fun0).ins.getD n2 ins0) := ⟨_, rfl⟩
      obtain ⟨kb7, kc7⟩ := ins_ok (x := ((funs.getD n fun0).ins.getD n2 ins0)) (by simpa using h_c200)
      have ow15 : Gx.ownsM w37 k2 5 v8 (cat p7).size (Lib.strCells (cat p7)) := by rw [hp7]; exact ownM_app ow14 (congrArg Lib.strCells kc7) (congrArg ByteArray.size kc7)
      have hbd7 : bd p7 = false := by rw [hp7, bd_append, hbdi, kb7]; rfl
      have hz7 : (cat p7).size ≤ (cat pi).size + 9 := by have hq := congrArg ByteArray.size kc7; (try simp only [ByteArray.size_append, bigB_size] at hq); rw [hp7, cat_append, ByteArray.size_append]; omega
      refine Gx.reg [0, 1, 2] (by kernel_rfl) ?_
      refine Gx.pure [0] [1, 2] [(188, .int .i64 ((n2 : Nat) : Int))] rfl (by kernel_rfl) ?_
      refine Gx.pure_eq [1] [2] [(189, .int .i64 (IntKind.i64.wrap (((n2 : Nat) : Int) + (1 : Int))))] [(189, .int .i64 ((n2 + 1 : Nat) : Int))] rfl (by kernel_rfl) (Gx.eqI (Gx.i64n (by omega) (by omega))) ?_
      refine Gx.pure [2] [] [(12, .int .i64 ((n2 + 1 : Nat) : Int))] rfl (by kernel_rfl) ?_
      refine Gx.ops_nil ?_
      refine Gx.then_normal ?_
      rw [Gx.forget [(1, .pointer (some ⟨k1, 0, none⟩)), (10, .int .i64 ((n : Nat) : Int)), (11, .pointer (some ⟨k6, 0, none⟩)), (4, v8), (12, .int .i64 (((n2 + 1) : Nat) : Int))] (by kernel_rfl)]
      exact hK7 _ _ _ _ (by omega) ⟨(n2 + 1), v8, p7, rfl, rfl, ((((Gx.Ext.refl w).trans x24).trans x25).upd g7 (fun j e => by have := (hoi).lt j e; omega)), ((b14.ext x25).upd g7 (fun e => Gx.own_neM (Gx.own_extM hoi x25) (b14.ext x25) (by decide) _ e.symm rfl)), ((b15.ext x25).upd g7 (fun e => Gx.own_neM (Gx.own_extM hoi x25) (b15.ext x25) (by decide) _ e.symm rfl)), (by omega), ow15, (by rw [hp7, hli, upTo_succ insC (funs.getD n fun0).ins ins0 (by omega)]; simp [List.append_assoc]), (by omega), hbd7, (by omega)⟩
    refine wp_exit ?_
    refine Gx.then_exit ?_
    refine Gx.then_exit ?_
    refine Gx.block_exit ?_
    refine Gx.block_normal ?_
    refine Gx.then_normal ?_
    have p_c187 := h_c187; try simp [-List.getD_eq_getElem?_getD] at p_c187
    rw [upTo_all insC (funs.getD n fun0).ins (by omega)] at hli
    refine Gx.reg [0, 1, 2] (by kernel_rfl) ?_
    refine Gx.pure [0] [1, 2] [(146, .int .i64 ((n : Nat) : Int))] rfl (by kernel_rfl) ?_
    refine Gx.pure_eq [1] [2] [(147, .int .i64 (IntKind.i64.wrap (((n : Nat) : Int) + (1 : Int))))] [(147, .int .i64 ((n + 1 : Nat) : Int))] rfl (by kernel_rfl) (Gx.eqI (Gx.i64n (by omega) (by omega))) ?_
    refine Gx.pure [2] [] [(10, .int .i64 ((n + 1 : Nat) : Int))] rfl (by kernel_rfl) ?_
    refine Gx.ops_nil ?_
    refine Gx.then_normal ?_
    rw [Gx.forget [(1, .pointer (some ⟨k1, 0, none⟩)), (4, vi), (10, .int .i64 (((n + 1) : Nat) : Int))] (by kernel_rfl)]
    exact hK5 _ _ _ _ (by omega) ⟨(n + 1), vi, pi, rfl, rfl, ((Gx.Ext.refl w).trans x24), b14, (by omega), hoi, (by rw [hli, hp6, hlf, upTo_succ fnC funs fun0 (by omega)]; simp [fnC]), (by omega), hbdi, (by omega)⟩
  refine wp_exit ?_
  refine Gx.then_exit ?_
  refine Gx.then_exit ?_
  refine Gx.block_exit ?_
  refine Gx.then_normal ?_
  refine wp_seq ?_
  have p_c145 := h_c145; try simp [-List.getD_eq_getElem?_getD] at p_c145
  rw [upTo_all fnC funs (by omega)] at hlf
  refine Gx.seq_reg [0, 1, 2] (by kernel_rfl) ?_
  refine Gx.pure [0] [1, 2] [(204, vf)] rfl (by kernel_rfl) ?_
  refine Gx.cons (Gx.op_lenM 5 rfl (by kernel_rfl) rfl (by kernel_rfl) (by kernel_rfl) hof ?_)
  refine Gx.pure [2] [] [(206, .bool (decide ((((cat pf).size : Nat) : Int) > (4000000 : Int))))] rfl (by kernel_rfl) ?_
  refine Gx.ops_end ?_
  refine Gx.cond (decide ((((cat pf).size : Nat) : Int) > (4000000 : Int))) (by kernel_rfl) (fun h_c206 => ?_) (fun h_c206 => ?_)
  · skip
    refine Gx.seq_run [(3, .int .i64 1), (2, .string (⟨#[]⟩ : ByteArray))] (by kernel_rfl) ?_
    refine wp_ret ?_
    refine Gx.then_ret ?_
    refine Gx.ret (Gx.res2 (v := .string (⟨#[]⟩ : ByteArray)) (u := .int .i64 1) rfl (by kernel_rfl) (by kernel_rfl)) ?_
    have p_c206 := h_c206; try simp [-List.getD_eq_getElem?_getD] at p_c206
    have hC : pf = chunks shape ops hds funs := by rw [hlf, hp5, hlh, hp2, hlo, hp0]; simp [chunks, chC, chB]
    obtain ⟨e1, e2⟩ := res_long hbdf (by have := h_c206; simp at this; omega)
    rw [hC] at e1 e2
    exact Gx.ret_as (v' := .tuple #[.string (resS (chunks shape ops hds funs)), .int .i64 (resK (chunks shape ops hds funs))]) (by rw [e1, e2]; all_goals rfl) (hK _ ((Gx.Ext.refl w).trans x18))
  refine wp_skip ?_
  refine Gx.then_normal ?_
  refine Gx.seq_reg [0, 1, 2, 3] (by kernel_rfl) ?_
  refine Gx.pure [0] [1, 2, 3] [(207, vf)] rfl (by kernel_rfl) ?_
  refine Gx.cons (Gx.op_strM rfl (by kernel_rfl) rfl 5 (by kernel_rfl) (by kernel_rfl) (by kernel_rfl) (cat pf) (by kernel_rfl) hof ?_)
  refine Gx.pure [2, 3] [] [(3, .int .i64 0), (2, .string (cat pf))] rfl (by kernel_rfl) ?_
  refine Gx.ops_end ?_
  refine wp_ret ?_
  refine Gx.ret (Gx.res2 (v := .string (cat pf)) (u := .int .i64 0) rfl (by kernel_rfl) (by kernel_rfl)) ?_
  have p_c206 := h_c206; try simp [-List.getD_eq_getElem?_getD] at p_c206
  have hC : pf = chunks shape ops hds funs := by rw [hlf, hp5, hlh, hp2, hlo, hp0]; simp [chunks, chC, chB]
  obtain ⟨e1, e2⟩ := res_ok hbdf (by have := h_c206; simp at this; omega)
  rw [hC] at e1 e2 ⊢
  exact Gx.ret_as (v' := .tuple #[.string (resS (chunks shape ops hds funs)), .int .i64 (resK (chunks shape ops hds funs))]) (by rw [e1, e2]; all_goals rfl) (hK _ ((Gx.Ext.refl w).trans x18))

end Go.Proofs.Ytccjnoefjehmhaa
