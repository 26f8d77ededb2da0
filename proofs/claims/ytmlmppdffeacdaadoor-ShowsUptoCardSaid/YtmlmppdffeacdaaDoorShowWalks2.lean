/- The walks of the functions that show types, written by a program of ours (wip/gx/gx.py, wip/shows/showgen.py). -/
import Derived.Test.YtmlmppdffeacdaaDoorRows
import Derived.Test.YtmlmppdffeacdaaDoorGw
import Derived.Test.YtmlmppdffeacdaaDoorShowPlain
import Derived.Test.YtmlmppdffeacdaaDoorShowWalks1
namespace Go.Proofs.YtmlmppdffeacdaaDoor
open Go.RowKit Go.Show
attribute [local irreducible] Go.wpOps Go.Code.wp Go.wpOp Go.wpAnyH Go.Calls
set_option maxHeartbeats 400000 in
set_option maxRecDepth 10000 in
theorem rShow_0 (w0 : World) (n row : Int) (ops : List ByteArray) (args : List TyP) (A1 A2 : Option Addr) (c1 c2 : Nat) (cs : Nat → List Value) (w : World) (K : Ending → World → Prop) (hE : Gx.Ext w0 w) (hlen : args.length = 0) (hn : I64 n) (hr : I64 row) (hl : ops.length ≤ 1048576) (hz : ∀ i, (ops.getD i e0).size ≤ 1048576) (ho : Gx.Rd w0 A1 ops.length 1 (fun i => [.string (ops.getD i e0)])) (ha : Gx.Rd w0 A2 0 5 cs) (hsz : (showP (.mk 0 n row ops args)).size ≤ 1099511627776) (hK : ∀ w', Gx.Ext w w' → K (.returned (.string (showP (.mk 0 n row ops args)))) w') :
    Calls Tryd.prog 6 #[.agg #[.int .i64 0, .int .i64 n, .int .i64 row, .slice A1 ops.length c1, .slice A2 0 c2]] w K := by
  refine Gx.enter 116 Tryd.func6 rfl rfl (Nat.le_of_ble_eq_true rfl) ?_
  refine Gx.seq_reg [0, 1] (by kernel_rfl) ?_
  refine Gx.cons (Gx.op_new (.cells #[.int .i64 0, .int .i64 n, .int .i64 row, .slice A1 ops.length c1, .slice A2 0 c2] 25) rfl (by kernel_rfl) (by kernel_rfl) (fun k1 w1 l1 x1 b1 => ?_))
  have zw1 := x1.size
  have tb1 := b1.lt
  refine Gx.pure [1] [] [(2, .string (⟨#[]⟩ : ByteArray))] rfl (by kernel_rfl) ?_
  refine Gx.ops_end ?_
  refine wp_seq ?_
  refine wp_seq ?_
  refine Gx.draw (S := fun w' => Gx.Has w' k1 (.cells #[.int .i64 0, .int .i64 n, .int .i64 row, .slice A1 ops.length c1, .slice A2 0 c2] 25)) (by kernel_rfl) (fun w2 x2 => ?_)
  have zw2 := x2.size
  refine Gx.any_take 0 (.pointer (some ⟨k1, 4, none⟩)) rfl (by kernel_rfl) (by kernel_rfl) (by kernel_rfl) (fun _ _ _ h => h) (b1.ext x2) (by kernel_rfl) (fun _ _ => (by kernel_rfl)) ?_
  refine Gx.any_take 1 (.slice A2 0 c2) rfl (by kernel_rfl) (by kernel_rfl) (by kernel_rfl) (fun _ _ _ h => h) (b1.ext x2) (by kernel_rfl) (fun _ hs => Gx.run_load rfl 4 (.slice A2 0 c2) (by kernel_rfl) hs (by kernel_rfl)) ?_
  refine Gx.any_take 2 (.int .i64 0) rfl (by kernel_rfl) (by kernel_rfl) (by kernel_rfl) (fun _ _ _ h => h) (b1.ext x2) (by kernel_rfl) (fun _ _ => (by kernel_rfl)) ?_
  refine Gx.any_take 3 (.pointer (some ⟨k1, 0, none⟩)) rfl (by kernel_rfl) (by kernel_rfl) (by kernel_rfl) (fun _ _ _ h => h) (b1.ext x2) (by kernel_rfl) (fun _ _ => (by kernel_rfl)) ?_
  refine Gx.any_take 4 (.int .i64 0) rfl (by kernel_rfl) (by kernel_rfl) (by kernel_rfl) (fun _ _ _ h => h) (b1.ext x2) (by kernel_rfl) (fun _ hs => Gx.run_load rfl 0 (.int .i64 0) (by kernel_rfl) hs (by kernel_rfl)) ?_
  refine Gx.any_one 5 (by kernel_rfl) (Gx.op_call rfl (by kernel_rfl) (by kernel_rfl) (fun R hR => args_c (0 : Int) _ R  (hR _ _ ⟨(b1.ext x2), ?_⟩)))
  refine Gx.any_take 6 (.bool false) rfl (by kernel_rfl) (by kernel_rfl) (by kernel_rfl) (fun _ _ _ h => h) (b1.ext x2) (by kernel_rfl) (fun _ _ => (by kernel_rfl)) ?_
  refine Gx.any_done (by kernel_rfl) ?_
  refine Gx.then_normal ?_
  refine Gx.cond_f (by kernel_rfl) ?_
  refine wp_skip ?_
  refine Gx.then_normal ?_
  refine wp_seq ?_
  refine Gx.seq_reg [0, 1] (by kernel_rfl) ?_
  refine Gx.pure [0] [1] [(13, .pointer (some ⟨k1, 0, none⟩))] rfl (by kernel_rfl) ?_
  refine Gx.cons (Gx.op_load rfl (by kernel_rfl) rfl 0 (.int .i64 0) (by kernel_rfl) (b1.ext x2) (by kernel_rfl) ?_)
  refine Gx.ops_end ?_
  refine wp_block ?_
  refine Gx.seq_run [(15, .bool true), (16, .bool true)] (by kernel_rfl) ?_
  refine Gx.cond_t (by kernel_rfl) ?_
  refine wp_seq ?_
  refine Gx.cut (d' := []) (n' := 116) (fun l' w' => l' = [(1, .pointer (some ⟨k1, 0, none⟩)), (24, .bool ((decide (n ≥ (1 : Int))) && (decide (n ≤ (26 : Int)))))] ∧ w2 = w') (fun K1 hK1 => ?_) (fun bb1 ll1 w3 hI1 => ?_)
  · refine Gx.reg [0, 1, 2, 3, 4, 5, 6, 7] (by kernel_rfl) ?_
    refine Gx.pure [0] [1, 2, 3, 4, 5, 6, 7] [(17, .pointer (some ⟨k1, 1, none⟩))] rfl (by kernel_rfl) ?_
    refine Gx.cons (Gx.op_load rfl (by kernel_rfl) rfl 1 (.int .i64 n) (by kernel_rfl) (b1.ext x2) (by kernel_rfl) ?_)
    refine Gx.pure [2, 3] [4, 5, 6, 7] [(20, .bool (decide (n ≥ (1 : Int)))), (19, .bool (decide (n ≥ (1 : Int))))] rfl (by kernel_rfl) ?_
    refine Gx.split (decide (n ≥ (1 : Int))) (fun h_g20 => ?_) (fun h_g20 => ?_)
    · rw [h_g20]
      refine Gx.pure [4] [5, 6, 7] [(21, .pointer (some ⟨k1, 1, none⟩))] rfl (by kernel_rfl) ?_
      refine Gx.cons (Gx.op_load rfl (by kernel_rfl) rfl 1 (.int .i64 n) (by kernel_rfl) (b1.ext x2) (by kernel_rfl) ?_)
      refine Gx.pure [6, 7] [] [(24, .bool (decide (n ≤ (26 : Int)))), (23, .bool (decide (n ≤ (26 : Int))))] rfl (by kernel_rfl) ?_
      refine Gx.ops_end ?_
      rw [Gx.forget [(1, .pointer (some ⟨k1, 0, none⟩)), (24, .bool ((decide (n ≥ (1 : Int))) && (decide (n ≤ (26 : Int)))))] (by rw [h_g20]; try kernel_rfl)]
      exact hK1 _ _ _ ⟨rfl, rfl⟩
    rw [h_g20]
    refine Gx.pure [4, 5, 6, 7] [] [(24, .bool false), (23, undef), (22, undef), (21, undef)] rfl (by kernel_rfl) ?_
    refine Gx.ops_end ?_
    rw [Gx.forget [(1, .pointer (some ⟨k1, 0, none⟩)), (24, .bool ((decide (n ≥ (1 : Int))) && (decide (n ≤ (26 : Int)))))] (by rw [h_g20]; try kernel_rfl)]
    exact hK1 _ _ _ ⟨rfl, rfl⟩
  obtain ⟨rfl, rfl⟩ := hI1
  refine Gx.cond ((decide (n ≥ (1 : Int))) && (decide (n ≤ (26 : Int)))) (by kernel_rfl) (fun h_c24 => ?_) (fun h_c24 => ?_)
  · skip
    refine Gx.seq_reg [0, 1, 2, 3, 4, 5, 6, 7] (by kernel_rfl) ?_
    refine Gx.pure [0] [1, 2, 3, 4, 5, 6, 7] [(25, .pointer (some ⟨k1, 1, none⟩))] rfl (by kernel_rfl) ?_
    refine Gx.cons (Gx.op_load rfl (by kernel_rfl) rfl 1 (.int .i64 n) (by kernel_rfl) (b1.ext x2) (by kernel_rfl) ?_)
    have p_c24 := h_c24; try simp [-List.getD_eq_getElem?_getD] at p_c24
    refine Gx.pure_eq [2] [3, 4, 5, 6, 7] [(27, .int .i64 (IntKind.i64.wrap ((97 : Int) + n)))] [(27, .int .i64 (97 + n))] rfl (by kernel_rfl) (Gx.eqI (IntWalk.i64_in _ (by omega))) ?_
    refine Gx.pure_eq [3] [4, 5, 6, 7] [(28, .int .i64 (IntKind.i64.wrap ((97 + n) - (1 : Int))))] [(28, .int .i64 (96 + n))] rfl (by kernel_rfl) (Gx.eqI (by rw [IntWalk.i64_in _ (by omega)]; omega)) ?_
    refine Gx.pure_eq [4] [5, 6, 7] [(29, .int .u8 (IntKind.u8.wrap (96 + n)))] [(29, .int .u8 (((96 + n).toNat : Nat) : Int))] rfl (by kernel_rfl) (Gx.eqI (by rw [IntKind.wrap_u8]; omega)) ?_
    refine Gx.cons (Gx.op_row (.cells #[.int .u8 (((96 + n).toNat : Nat) : Int)] 5) 1 1 rfl (by kernel_rfl) (by kernel_rfl) (fun k2 w4 l2 x3 b2 => ?_))
    have zw4 := x3.size
    have tb2 := b2.lt
    refine Gx.cons (Gx.op_bstr rfl (by kernel_rfl) rfl 5 (by kernel_rfl) (by kernel_rfl) (by kernel_rfl) 0 1 1 (by kernel_rfl) b2 [UInt8.ofNat ((96 + n).toNat)] rfl (Gx.bstr1 (by omega)) ?_)
    refine Gx.pure [7] [] [(2, .string (⟨#[UInt8.ofNat ((96 + n).toNat)]⟩ : ByteArray))] rfl (by kernel_rfl) ?_
    refine Gx.ops_end ?_
    refine wp_ret ?_
    refine Gx.then_ret ?_
    refine Gx.block_ret ?_
    refine Gx.then_ret ?_
    refine Gx.ret (v := .string (⟨#[UInt8.ofNat ((96 + n).toNat)]⟩ : ByteArray)) (Gx.res1 rfl (by kernel_rfl)) ?_
    exact Gx.ret_as (v' := .string (showP (.mk 0 n row ops args))) (by rw [show_0 hlen, varS, if_pos (by simp at h_c24; omega)]) (hK _ ((((Gx.Ext.refl w).trans x1).trans x2).trans x3))
  refine wp_skip ?_
  refine Gx.then_normal ?_
  refine wp_seq ?_
  refine Gx.seq_reg [0, 1, 2] (by kernel_rfl) ?_
  refine Gx.pure [0] [1, 2] [(32, .pointer (some ⟨k1, 1, none⟩))] rfl (by kernel_rfl) ?_
  refine Gx.cons (Gx.op_load rfl (by kernel_rfl) rfl 1 (.int .i64 n) (by kernel_rfl) (b1.ext x2) (by kernel_rfl) ?_)
  refine Gx.pure [2] [] [(34, .bool (decide (n < (0 : Int))))] rfl (by kernel_rfl) ?_
  refine Gx.ops_end ?_
  refine Gx.cond (decide (n < (0 : Int))) (by kernel_rfl) (fun h_c34 => ?_) (fun h_c34 => ?_)
  · skip
    refine Gx.seq_run [(2, .string (⟨#[]⟩ : ByteArray))] (by kernel_rfl) ?_
    refine wp_ret ?_
    refine Gx.then_ret ?_
    refine Gx.block_ret ?_
    refine Gx.then_ret ?_
    refine Gx.ret (v := .string (⟨#[]⟩ : ByteArray)) (Gx.res1 rfl (by kernel_rfl)) ?_
    have p_c24 := h_c24; try simp [-List.getD_eq_getElem?_getD] at p_c24
    have p_c34 := h_c34; try simp [-List.getD_eq_getElem?_getD] at p_c34
    exact Gx.ret_as (v' := .string (showP (.mk 0 n row ops args))) (by rw [show_0 hlen, varS, if_neg (by simp at h_c24 h_c34; omega), if_pos (by simpa using h_c34)]; rfl) (hK _ (((Gx.Ext.refl w).trans x1).trans x2))
  refine wp_skip ?_
  refine Gx.then_normal ?_
  refine Gx.seq_reg [0, 1, 2, 3, 4] (by kernel_rfl) ?_
  refine Gx.pure [0] [1, 2, 3, 4] [(35, .pointer (some ⟨k1, 1, none⟩))] rfl (by kernel_rfl) ?_
  refine Gx.cons (Gx.op_load rfl (by kernel_rfl) rfl 1 (.int .i64 n) (by kernel_rfl) (b1.ext x2) (by kernel_rfl) ?_)
  have p_c24 := h_c24; try simp [-List.getD_eq_getElem?_getD] at p_c24
  have p_c34 := h_c34; try simp [-List.getD_eq_getElem?_getD] at p_c34
  refine Gx.cons (Gx.op_call rfl (by kernel_rfl) (by kernel_rfl) (fun R hR => digits_i n _ R (by unfold I64 at *; omega) (by unfold I64 at *; omega) (fun w5 x4  => hR _ _ ?_)))
  have zw5 := x4.size
  refine Gx.cons (Gx.op_concat rfl (by kernel_rfl) rfl (⟨#[97]⟩ : ByteArray) (digB n.toNat) (by kernel_rfl) (by kernel_rfl) (by have hd := dig_size (m := n.toNat) (by unfold I64 at hn; omega); show 1 + (digB n.toNat).size ≤ _; omega) ?_)
  refine Gx.pure [4] [] [(2, .string ((⟨#[97]⟩ : ByteArray) ++ (digB n.toNat)))] rfl (by kernel_rfl) ?_
  refine Gx.ops_end ?_
  refine wp_ret ?_
  refine Gx.block_ret ?_
  refine Gx.then_ret ?_
  refine Gx.ret (v := .string ((⟨#[97]⟩ : ByteArray) ++ (digB n.toNat))) (Gx.res1 rfl (by kernel_rfl)) ?_
  exact Gx.ret_as (v' := .string (showP (.mk 0 n row ops args))) (by rw [show_0 hlen, varS, if_neg (by simp at h_c24 h_c34; omega), if_neg (by simp at h_c34; omega)]; rfl) (hK _ ((((Gx.Ext.refl w).trans x1).trans x2).trans x4))

set_option maxHeartbeats 400000 in
set_option maxRecDepth 10000 in
theorem rShow_1 (w0 : World) (n row : Int) (ops : List ByteArray) (args : List TyP) (A1 A2 : Option Addr) (c1 c2 : Nat) (cs : Nat → List Value) (w : World) (K : Ending → World → Prop) (hE : Gx.Ext w0 w) (hlen : args.length = 0) (hn : I64 n) (hr : I64 row) (hl : ops.length ≤ 1048576) (hz : ∀ i, (ops.getD i e0).size ≤ 1048576) (ho : Gx.Rd w0 A1 ops.length 1 (fun i => [.string (ops.getD i e0)])) (ha : Gx.Rd w0 A2 0 5 cs) (hsz : (showP (.mk 1 n row ops args)).size ≤ 1099511627776) (hK : ∀ w', Gx.Ext w w' → K (.returned (.string (showP (.mk 1 n row ops args)))) w') :
    Calls Tryd.prog 6 #[.agg #[.int .i64 1, .int .i64 n, .int .i64 row, .slice A1 ops.length c1, .slice A2 0 c2]] w K := by
  refine Gx.enter 116 Tryd.func6 rfl rfl (Nat.le_of_ble_eq_true rfl) ?_
  refine Gx.seq_reg [0, 1] (by kernel_rfl) ?_
  refine Gx.cons (Gx.op_new (.cells #[.int .i64 1, .int .i64 n, .int .i64 row, .slice A1 ops.length c1, .slice A2 0 c2] 25) rfl (by kernel_rfl) (by kernel_rfl) (fun k1 w1 l1 x1 b1 => ?_))
  have zw1 := x1.size
  have tb1 := b1.lt
  refine Gx.pure [1] [] [(2, .string (⟨#[]⟩ : ByteArray))] rfl (by kernel_rfl) ?_
  refine Gx.ops_end ?_
  refine wp_seq ?_
  refine wp_seq ?_
  refine Gx.draw (S := fun w' => Gx.Has w' k1 (.cells #[.int .i64 1, .int .i64 n, .int .i64 row, .slice A1 ops.length c1, .slice A2 0 c2] 25)) (by kernel_rfl) (fun w2 x2 => ?_)
  have zw2 := x2.size
  refine Gx.any_take 0 (.pointer (some ⟨k1, 4, none⟩)) rfl (by kernel_rfl) (by kernel_rfl) (by kernel_rfl) (fun _ _ _ h => h) (b1.ext x2) (by kernel_rfl) (fun _ _ => (by kernel_rfl)) ?_
  refine Gx.any_take 1 (.slice A2 0 c2) rfl (by kernel_rfl) (by kernel_rfl) (by kernel_rfl) (fun _ _ _ h => h) (b1.ext x2) (by kernel_rfl) (fun _ hs => Gx.run_load rfl 4 (.slice A2 0 c2) (by kernel_rfl) hs (by kernel_rfl)) ?_
  refine Gx.any_take 2 (.int .i64 0) rfl (by kernel_rfl) (by kernel_rfl) (by kernel_rfl) (fun _ _ _ h => h) (b1.ext x2) (by kernel_rfl) (fun _ _ => (by kernel_rfl)) ?_
  refine Gx.any_take 3 (.pointer (some ⟨k1, 0, none⟩)) rfl (by kernel_rfl) (by kernel_rfl) (by kernel_rfl) (fun _ _ _ h => h) (b1.ext x2) (by kernel_rfl) (fun _ _ => (by kernel_rfl)) ?_
  refine Gx.any_take 4 (.int .i64 1) rfl (by kernel_rfl) (by kernel_rfl) (by kernel_rfl) (fun _ _ _ h => h) (b1.ext x2) (by kernel_rfl) (fun _ hs => Gx.run_load rfl 0 (.int .i64 1) (by kernel_rfl) hs (by kernel_rfl)) ?_
  refine Gx.any_one 5 (by kernel_rfl) (Gx.op_call rfl (by kernel_rfl) (by kernel_rfl) (fun R hR => args_c (1 : Int) _ R  (hR _ _ ⟨(b1.ext x2), ?_⟩)))
  refine Gx.any_take 6 (.bool false) rfl (by kernel_rfl) (by kernel_rfl) (by kernel_rfl) (fun _ _ _ h => h) (b1.ext x2) (by kernel_rfl) (fun _ _ => (by kernel_rfl)) ?_
  refine Gx.any_done (by kernel_rfl) ?_
  refine Gx.then_normal ?_
  refine Gx.cond_f (by kernel_rfl) ?_
  refine wp_skip ?_
  refine Gx.then_normal ?_
  refine wp_seq ?_
  refine Gx.seq_reg [0, 1] (by kernel_rfl) ?_
  refine Gx.pure [0] [1] [(13, .pointer (some ⟨k1, 0, none⟩))] rfl (by kernel_rfl) ?_
  refine Gx.cons (Gx.op_load rfl (by kernel_rfl) rfl 0 (.int .i64 1) (by kernel_rfl) (b1.ext x2) (by kernel_rfl) ?_)
  refine Gx.ops_end ?_
  refine wp_block ?_
  refine Gx.seq_run [(15, .bool false), (16, .bool false)] (by kernel_rfl) ?_
  refine Gx.cond_f (by kernel_rfl) ?_
  refine Gx.seq_run [(39, .bool true), (40, .bool true)] (by kernel_rfl) ?_
  refine Gx.cond_t (by kernel_rfl) ?_
  refine Gx.seq_run [(2, .string (⟨#[105, 110, 116]⟩ : ByteArray))] (by kernel_rfl) ?_
  refine wp_ret ?_
  refine Gx.block_ret ?_
  refine Gx.then_ret ?_
  refine Gx.ret (v := .string (⟨#[105, 110, 116]⟩ : ByteArray)) (Gx.res1 rfl (by kernel_rfl)) ?_
  exact Gx.ret_as (v' := .string (showP (.mk 1 n row ops args))) (by rw [show_1 hlen]) (hK _ (((Gx.Ext.refl w).trans x1).trans x2))

set_option maxHeartbeats 400000 in
set_option maxRecDepth 10000 in
theorem rShow_2 (w0 : World) (n row : Int) (ops : List ByteArray) (args : List TyP) (A1 A2 : Option Addr) (c1 c2 : Nat) (cs : Nat → List Value) (w : World) (K : Ending → World → Prop) (hE : Gx.Ext w0 w) (hlen : args.length = 0) (hn : I64 n) (hr : I64 row) (hl : ops.length ≤ 1048576) (hz : ∀ i, (ops.getD i e0).size ≤ 1048576) (ho : Gx.Rd w0 A1 ops.length 1 (fun i => [.string (ops.getD i e0)])) (ha : Gx.Rd w0 A2 0 5 cs) (hsz : (showP (.mk 2 n row ops args)).size ≤ 1099511627776) (hK : ∀ w', Gx.Ext w w' → K (.returned (.string (showP (.mk 2 n row ops args)))) w') :
    Calls Tryd.prog 6 #[.agg #[.int .i64 2, .int .i64 n, .int .i64 row, .slice A1 ops.length c1, .slice A2 0 c2]] w K := by
  refine Gx.enter 116 Tryd.func6 rfl rfl (Nat.le_of_ble_eq_true rfl) ?_
  refine Gx.seq_reg [0, 1] (by kernel_rfl) ?_
  refine Gx.cons (Gx.op_new (.cells #[.int .i64 2, .int .i64 n, .int .i64 row, .slice A1 ops.length c1, .slice A2 0 c2] 25) rfl (by kernel_rfl) (by kernel_rfl) (fun k1 w1 l1 x1 b1 => ?_))
  have zw1 := x1.size
  have tb1 := b1.lt
  refine Gx.pure [1] [] [(2, .string (⟨#[]⟩ : ByteArray))] rfl (by kernel_rfl) ?_
  refine Gx.ops_end ?_
  refine wp_seq ?_
  refine wp_seq ?_
  refine Gx.draw (S := fun w' => Gx.Has w' k1 (.cells #[.int .i64 2, .int .i64 n, .int .i64 row, .slice A1 ops.length c1, .slice A2 0 c2] 25)) (by kernel_rfl) (fun w2 x2 => ?_)
  have zw2 := x2.size
  refine Gx.any_take 0 (.pointer (some ⟨k1, 4, none⟩)) rfl (by kernel_rfl) (by kernel_rfl) (by kernel_rfl) (fun _ _ _ h => h) (b1.ext x2) (by kernel_rfl) (fun _ _ => (by kernel_rfl)) ?_
  refine Gx.any_take 1 (.slice A2 0 c2) rfl (by kernel_rfl) (by kernel_rfl) (by kernel_rfl) (fun _ _ _ h => h) (b1.ext x2) (by kernel_rfl) (fun _ hs => Gx.run_load rfl 4 (.slice A2 0 c2) (by kernel_rfl) hs (by kernel_rfl)) ?_
  refine Gx.any_take 2 (.int .i64 0) rfl (by kernel_rfl) (by kernel_rfl) (by kernel_rfl) (fun _ _ _ h => h) (b1.ext x2) (by kernel_rfl) (fun _ _ => (by kernel_rfl)) ?_
  refine Gx.any_take 3 (.pointer (some ⟨k1, 0, none⟩)) rfl (by kernel_rfl) (by kernel_rfl) (by kernel_rfl) (fun _ _ _ h => h) (b1.ext x2) (by kernel_rfl) (fun _ _ => (by kernel_rfl)) ?_
  refine Gx.any_take 4 (.int .i64 2) rfl (by kernel_rfl) (by kernel_rfl) (by kernel_rfl) (fun _ _ _ h => h) (b1.ext x2) (by kernel_rfl) (fun _ hs => Gx.run_load rfl 0 (.int .i64 2) (by kernel_rfl) hs (by kernel_rfl)) ?_
  refine Gx.any_one 5 (by kernel_rfl) (Gx.op_call rfl (by kernel_rfl) (by kernel_rfl) (fun R hR => args_c (2 : Int) _ R  (hR _ _ ⟨(b1.ext x2), ?_⟩)))
  refine Gx.any_take 6 (.bool false) rfl (by kernel_rfl) (by kernel_rfl) (by kernel_rfl) (fun _ _ _ h => h) (b1.ext x2) (by kernel_rfl) (fun _ _ => (by kernel_rfl)) ?_
  refine Gx.any_done (by kernel_rfl) ?_
  refine Gx.then_normal ?_
  refine Gx.cond_f (by kernel_rfl) ?_
  refine wp_skip ?_
  refine Gx.then_normal ?_
  refine wp_seq ?_
  refine Gx.seq_reg [0, 1] (by kernel_rfl) ?_
  refine Gx.pure [0] [1] [(13, .pointer (some ⟨k1, 0, none⟩))] rfl (by kernel_rfl) ?_
  refine Gx.cons (Gx.op_load rfl (by kernel_rfl) rfl 0 (.int .i64 2) (by kernel_rfl) (b1.ext x2) (by kernel_rfl) ?_)
  refine Gx.ops_end ?_
  refine wp_block ?_
  refine Gx.seq_run [(15, .bool false), (16, .bool false)] (by kernel_rfl) ?_
  refine Gx.cond_f (by kernel_rfl) ?_
  refine Gx.seq_run [(39, .bool false), (40, .bool false)] (by kernel_rfl) ?_
  refine Gx.cond_f (by kernel_rfl) ?_
  refine Gx.seq_run [(41, .bool true), (42, .bool true)] (by kernel_rfl) ?_
  refine Gx.cond_t (by kernel_rfl) ?_
  refine Gx.seq_run [(2, .string (⟨#[98, 111, 111, 108]⟩ : ByteArray))] (by kernel_rfl) ?_
  refine wp_ret ?_
  refine Gx.block_ret ?_
  refine Gx.then_ret ?_
  refine Gx.ret (v := .string (⟨#[98, 111, 111, 108]⟩ : ByteArray)) (Gx.res1 rfl (by kernel_rfl)) ?_
  exact Gx.ret_as (v' := .string (showP (.mk 2 n row ops args))) (by rw [show_2 hlen]) (hK _ (((Gx.Ext.refl w).trans x1).trans x2))

set_option maxHeartbeats 400000 in
set_option maxRecDepth 10000 in
theorem rShow_3 (w0 : World) (n row : Int) (ops : List ByteArray) (args : List TyP) (A1 A2 : Option Addr) (c1 c2 : Nat) (cs : Nat → List Value) (w : World) (K : Ending → World → Prop) (hE : Gx.Ext w0 w) (hlen : args.length = 0) (hn : I64 n) (hr : I64 row) (hl : ops.length ≤ 1048576) (hz : ∀ i, (ops.getD i e0).size ≤ 1048576) (ho : Gx.Rd w0 A1 ops.length 1 (fun i => [.string (ops.getD i e0)])) (ha : Gx.Rd w0 A2 0 5 cs) (hsz : (showP (.mk 3 n row ops args)).size ≤ 1099511627776) (hK : ∀ w', Gx.Ext w w' → K (.returned (.string (showP (.mk 3 n row ops args)))) w') :
    Calls Tryd.prog 6 #[.agg #[.int .i64 3, .int .i64 n, .int .i64 row, .slice A1 ops.length c1, .slice A2 0 c2]] w K := by
  refine Gx.enter 116 Tryd.func6 rfl rfl (Nat.le_of_ble_eq_true rfl) ?_
  refine Gx.seq_reg [0, 1] (by kernel_rfl) ?_
  refine Gx.cons (Gx.op_new (.cells #[.int .i64 3, .int .i64 n, .int .i64 row, .slice A1 ops.length c1, .slice A2 0 c2] 25) rfl (by kernel_rfl) (by kernel_rfl) (fun k1 w1 l1 x1 b1 => ?_))
  have zw1 := x1.size
  have tb1 := b1.lt
  refine Gx.pure [1] [] [(2, .string (⟨#[]⟩ : ByteArray))] rfl (by kernel_rfl) ?_
  refine Gx.ops_end ?_
  refine wp_seq ?_
  refine wp_seq ?_
  refine Gx.draw (S := fun w' => Gx.Has w' k1 (.cells #[.int .i64 3, .int .i64 n, .int .i64 row, .slice A1 ops.length c1, .slice A2 0 c2] 25)) (by kernel_rfl) (fun w2 x2 => ?_)
  have zw2 := x2.size
  refine Gx.any_take 0 (.pointer (some ⟨k1, 4, none⟩)) rfl (by kernel_rfl) (by kernel_rfl) (by kernel_rfl) (fun _ _ _ h => h) (b1.ext x2) (by kernel_rfl) (fun _ _ => (by kernel_rfl)) ?_
  refine Gx.any_take 1 (.slice A2 0 c2) rfl (by kernel_rfl) (by kernel_rfl) (by kernel_rfl) (fun _ _ _ h => h) (b1.ext x2) (by kernel_rfl) (fun _ hs => Gx.run_load rfl 4 (.slice A2 0 c2) (by kernel_rfl) hs (by kernel_rfl)) ?_
  refine Gx.any_take 2 (.int .i64 0) rfl (by kernel_rfl) (by kernel_rfl) (by kernel_rfl) (fun _ _ _ h => h) (b1.ext x2) (by kernel_rfl) (fun _ _ => (by kernel_rfl)) ?_
  refine Gx.any_take 3 (.pointer (some ⟨k1, 0, none⟩)) rfl (by kernel_rfl) (by kernel_rfl) (by kernel_rfl) (fun _ _ _ h => h) (b1.ext x2) (by kernel_rfl) (fun _ _ => (by kernel_rfl)) ?_
  refine Gx.any_take 4 (.int .i64 3) rfl (by kernel_rfl) (by kernel_rfl) (by kernel_rfl) (fun _ _ _ h => h) (b1.ext x2) (by kernel_rfl) (fun _ hs => Gx.run_load rfl 0 (.int .i64 3) (by kernel_rfl) hs (by kernel_rfl)) ?_
  refine Gx.any_one 5 (by kernel_rfl) (Gx.op_call rfl (by kernel_rfl) (by kernel_rfl) (fun R hR => args_c (3 : Int) _ R  (hR _ _ ⟨(b1.ext x2), ?_⟩)))
  refine Gx.any_take 6 (.bool false) rfl (by kernel_rfl) (by kernel_rfl) (by kernel_rfl) (fun _ _ _ h => h) (b1.ext x2) (by kernel_rfl) (fun _ _ => (by kernel_rfl)) ?_
  refine Gx.any_done (by kernel_rfl) ?_
  refine Gx.then_normal ?_
  refine Gx.cond_f (by kernel_rfl) ?_
  refine wp_skip ?_
  refine Gx.then_normal ?_
  refine wp_seq ?_
  refine Gx.seq_reg [0, 1] (by kernel_rfl) ?_
  refine Gx.pure [0] [1] [(13, .pointer (some ⟨k1, 0, none⟩))] rfl (by kernel_rfl) ?_
  refine Gx.cons (Gx.op_load rfl (by kernel_rfl) rfl 0 (.int .i64 3) (by kernel_rfl) (b1.ext x2) (by kernel_rfl) ?_)
  refine Gx.ops_end ?_
  refine wp_block ?_
  refine Gx.seq_run [(15, .bool false), (16, .bool false)] (by kernel_rfl) ?_
  refine Gx.cond_f (by kernel_rfl) ?_
  refine Gx.seq_run [(39, .bool false), (40, .bool false)] (by kernel_rfl) ?_
  refine Gx.cond_f (by kernel_rfl) ?_
  refine Gx.seq_run [(41, .bool false), (42, .bool false)] (by kernel_rfl) ?_
  refine Gx.cond_f (by kernel_rfl) ?_
  refine Gx.seq_run [(43, .bool true), (44, .bool true)] (by kernel_rfl) ?_
  refine Gx.cond_t (by kernel_rfl) ?_
  refine Gx.seq_run [(2, .string (⟨#[117, 110, 105, 116]⟩ : ByteArray))] (by kernel_rfl) ?_
  refine wp_ret ?_
  refine Gx.block_ret ?_
  refine Gx.then_ret ?_
  refine Gx.ret (v := .string (⟨#[117, 110, 105, 116]⟩ : ByteArray)) (Gx.res1 rfl (by kernel_rfl)) ?_
  exact Gx.ret_as (v' := .string (showP (.mk 3 n row ops args))) (by rw [show_3 hlen]) (hK _ (((Gx.Ext.refl w).trans x1).trans x2))

set_option maxHeartbeats 400000 in
set_option maxRecDepth 10000 in
theorem rShow_4 (w0 : World) (n row : Int) (ops : List ByteArray) (args : List TyP) (A1 A2 : Option Addr) (c1 c2 : Nat) (cs : Nat → List Value) (w : World) (K : Ending → World → Prop) (hE : Gx.Ext w0 w) (hlen : args.length = 1) (hn : I64 n) (hr : I64 row) (hl : ops.length ≤ 1048576) (hz : ∀ i, (ops.getD i e0).size ≤ 1048576) (ho : Gx.Rd w0 A1 ops.length 1 (fun i => [.string (ops.getD i e0)])) (ha : Gx.Rd w0 A2 1 5 cs) (hsz : (showP (.mk 4 n row ops args)).size ≤ 1099511627776) (ihI : ∀ i, i < args.length → ∀ (least : Int) (w : World) (K : Ending → World → Prop), Gx.Ext w0 w → (∀ w', Gx.Ext w w' → K (.returned (.string (inP least (args.getD i ty0)))) w') → Calls Tryd.prog 12 #[.agg (cs i).toArray, .int .i64 least] w K) (hK : ∀ w', Gx.Ext w w' → K (.returned (.string (showP (.mk 4 n row ops args)))) w') :
    Calls Tryd.prog 6 #[.agg #[.int .i64 4, .int .i64 n, .int .i64 row, .slice A1 ops.length c1, .slice A2 1 c2]] w K := by
  refine Gx.enter 116 Tryd.func6 rfl rfl (Nat.le_of_ble_eq_true rfl) ?_
  have hq := hsz; rw [show_4 hlen] at hq; simp only [ByteArray.size_append] at hq
  refine Gx.seq_reg [0, 1] (by kernel_rfl) ?_
  refine Gx.cons (Gx.op_new (.cells #[.int .i64 4, .int .i64 n, .int .i64 row, .slice A1 ops.length c1, .slice A2 1 c2] 25) rfl (by kernel_rfl) (by kernel_rfl) (fun k1 w1 l1 x1 b1 => ?_))
  have zw1 := x1.size
  have tb1 := b1.lt
  refine Gx.pure [1] [] [(2, .string (⟨#[]⟩ : ByteArray))] rfl (by kernel_rfl) ?_
  refine Gx.ops_end ?_
  refine wp_seq ?_
  refine wp_seq ?_
  refine Gx.draw (S := fun w' => Gx.Has w' k1 (.cells #[.int .i64 4, .int .i64 n, .int .i64 row, .slice A1 ops.length c1, .slice A2 1 c2] 25)) (by kernel_rfl) (fun w2 x2 => ?_)
  have zw2 := x2.size
  refine Gx.any_take 0 (.pointer (some ⟨k1, 4, none⟩)) rfl (by kernel_rfl) (by kernel_rfl) (by kernel_rfl) (fun _ _ _ h => h) (b1.ext x2) (by kernel_rfl) (fun _ _ => (by kernel_rfl)) ?_
  refine Gx.any_take 1 (.slice A2 1 c2) rfl (by kernel_rfl) (by kernel_rfl) (by kernel_rfl) (fun _ _ _ h => h) (b1.ext x2) (by kernel_rfl) (fun _ hs => Gx.run_load rfl 4 (.slice A2 1 c2) (by kernel_rfl) hs (by kernel_rfl)) ?_
  refine Gx.any_take 2 (.int .i64 1) rfl (by kernel_rfl) (by kernel_rfl) (by kernel_rfl) (fun _ _ _ h => h) (b1.ext x2) (by kernel_rfl) (fun _ _ => (by kernel_rfl)) ?_
  refine Gx.any_take 3 (.pointer (some ⟨k1, 0, none⟩)) rfl (by kernel_rfl) (by kernel_rfl) (by kernel_rfl) (fun _ _ _ h => h) (b1.ext x2) (by kernel_rfl) (fun _ _ => (by kernel_rfl)) ?_
  refine Gx.any_take 4 (.int .i64 4) rfl (by kernel_rfl) (by kernel_rfl) (by kernel_rfl) (fun _ _ _ h => h) (b1.ext x2) (by kernel_rfl) (fun _ hs => Gx.run_load rfl 0 (.int .i64 4) (by kernel_rfl) hs (by kernel_rfl)) ?_
  refine Gx.any_one 5 (by kernel_rfl) (Gx.op_call rfl (by kernel_rfl) (by kernel_rfl) (fun R hR => args_c (4 : Int) _ R  (hR _ _ ⟨(b1.ext x2), ?_⟩)))
  refine Gx.any_take 6 (.bool false) rfl (by kernel_rfl) (by kernel_rfl) (by kernel_rfl) (fun _ _ _ h => h) (b1.ext x2) (by kernel_rfl) (fun _ _ => (by kernel_rfl)) ?_
  refine Gx.any_done (by kernel_rfl) ?_
  refine Gx.then_normal ?_
  refine Gx.cond_f (by kernel_rfl) ?_
  refine wp_skip ?_
  refine Gx.then_normal ?_
  refine wp_seq ?_
  refine Gx.seq_reg [0, 1] (by kernel_rfl) ?_
  refine Gx.pure [0] [1] [(13, .pointer (some ⟨k1, 0, none⟩))] rfl (by kernel_rfl) ?_
  refine Gx.cons (Gx.op_load rfl (by kernel_rfl) rfl 0 (.int .i64 4) (by kernel_rfl) (b1.ext x2) (by kernel_rfl) ?_)
  refine Gx.ops_end ?_
  refine wp_block ?_
  refine Gx.seq_run [(15, .bool false), (16, .bool false)] (by kernel_rfl) ?_
  refine Gx.cond_f (by kernel_rfl) ?_
  refine Gx.seq_run [(39, .bool false), (40, .bool false)] (by kernel_rfl) ?_
  refine Gx.cond_f (by kernel_rfl) ?_
  refine Gx.seq_run [(41, .bool false), (42, .bool false)] (by kernel_rfl) ?_
  refine Gx.cond_f (by kernel_rfl) ?_
  refine Gx.seq_run [(43, .bool false), (44, .bool false)] (by kernel_rfl) ?_
  refine Gx.cond_f (by kernel_rfl) ?_
  refine Gx.seq_run [(45, .bool true), (46, .bool true)] (by kernel_rfl) ?_
  refine Gx.cond_t (by kernel_rfl) ?_
  refine Gx.seq_reg [0, 1, 2, 3, 4, 5, 6] (by kernel_rfl) ?_
  refine Gx.pure [0] [1, 2, 3, 4, 5, 6] [(47, .pointer (some ⟨k1, 4, none⟩))] rfl (by kernel_rfl) ?_
  refine Gx.cons (Gx.op_load rfl (by kernel_rfl) rfl 4 (.slice A2 1 c2) (by kernel_rfl) (b1.ext x2) (by kernel_rfl) ?_)
  obtain ⟨a1, ha1, hc1⟩ := (Gx.Rd.ext ha (by decide) hE) 0 (by omega)
  refine Gx.cons (Gx.op_indexAddrO rfl (by kernel_rfl) rfl 25 5 (by kernel_rfl) (by kernel_rfl) a1 ha1 1 c2 (by kernel_rfl) .i64 0 (by kernel_rfl) (by omega) ?_)
  refine Gx.cons (Gx.op_loadAgg rfl (by kernel_rfl) rfl (by kernel_rfl) 5 (Gx.cells_ext hc1 (by decide) (((Gx.Ext.refl w).trans x1).trans x2)) (by kernel_rfl) ?_)
  refine Gx.cons (Gx.op_call rfl (by kernel_rfl) (by kernel_rfl) (fun R hR => ihI 0 (by omega) (2 : Int) _ R (Gx.Ext.trans hE (((Gx.Ext.refl w).trans x1).trans x2)) (fun w3 x3  => hR _ _ ?_)))
  have zw3 := x3.size
  refine Gx.cons (Gx.op_concat rfl (by kernel_rfl) rfl (inP (2 : Int) (args.getD 0 ty0)) (⟨#[32, 108, 105, 115, 116]⟩ : ByteArray) (by kernel_rfl) (by kernel_rfl) (by simp only [litz5]; omega) ?_)
  refine Gx.pure [6] [] [(2, .string ((inP (2 : Int) (args.getD 0 ty0)) ++ (⟨#[32, 108, 105, 115, 116]⟩ : ByteArray)))] rfl (by kernel_rfl) ?_
  refine Gx.ops_end ?_
  refine wp_ret ?_
  refine Gx.block_ret ?_
  refine Gx.then_ret ?_
  refine Gx.ret (v := .string ((inP (2 : Int) (args.getD 0 ty0)) ++ (⟨#[32, 108, 105, 115, 116]⟩ : ByteArray))) (Gx.res1 rfl (by kernel_rfl)) ?_
  exact Gx.ret_as (v' := .string (showP (.mk 4 n row ops args))) (by rw [show_4 hlen]) (hK _ ((((Gx.Ext.refl w).trans x1).trans x2).trans x3))

set_option maxHeartbeats 400000 in
set_option maxRecDepth 10000 in
theorem rShow_5 (w0 : World) (n row : Int) (ops : List ByteArray) (args : List TyP) (A1 A2 : Option Addr) (c1 c2 : Nat) (cs : Nat → List Value) (w : World) (K : Ending → World → Prop) (hE : Gx.Ext w0 w) (hlen : args.length = 2) (hn : I64 n) (hr : I64 row) (hl : ops.length ≤ 1048576) (hz : ∀ i, (ops.getD i e0).size ≤ 1048576) (ho : Gx.Rd w0 A1 ops.length 1 (fun i => [.string (ops.getD i e0)])) (ha : Gx.Rd w0 A2 2 5 cs) (hsz : (showP (.mk 5 n row ops args)).size ≤ 1099511627776) (ihI : ∀ i, i < args.length → ∀ (least : Int) (w : World) (K : Ending → World → Prop), Gx.Ext w0 w → (∀ w', Gx.Ext w w' → K (.returned (.string (inP least (args.getD i ty0)))) w') → Calls Tryd.prog 12 #[.agg (cs i).toArray, .int .i64 least] w K) (hK : ∀ w', Gx.Ext w w' → K (.returned (.string (showP (.mk 5 n row ops args)))) w') :
    Calls Tryd.prog 6 #[.agg #[.int .i64 5, .int .i64 n, .int .i64 row, .slice A1 ops.length c1, .slice A2 2 c2]] w K := by
  refine Gx.enter 116 Tryd.func6 rfl rfl (Nat.le_of_ble_eq_true rfl) ?_
  have hq := hsz; rw [show_5 hlen] at hq; simp only [ByteArray.size_append] at hq
  refine Gx.seq_reg [0, 1] (by kernel_rfl) ?_
  refine Gx.cons (Gx.op_new (.cells #[.int .i64 5, .int .i64 n, .int .i64 row, .slice A1 ops.length c1, .slice A2 2 c2] 25) rfl (by kernel_rfl) (by kernel_rfl) (fun k1 w1 l1 x1 b1 => ?_))
  have zw1 := x1.size
  have tb1 := b1.lt
  refine Gx.pure [1] [] [(2, .string (⟨#[]⟩ : ByteArray))] rfl (by kernel_rfl) ?_
  refine Gx.ops_end ?_
  refine wp_seq ?_
  refine wp_seq ?_
  refine Gx.draw (S := fun w' => Gx.Has w' k1 (.cells #[.int .i64 5, .int .i64 n, .int .i64 row, .slice A1 ops.length c1, .slice A2 2 c2] 25)) (by kernel_rfl) (fun w2 x2 => ?_)
  have zw2 := x2.size
  refine Gx.any_take 0 (.pointer (some ⟨k1, 4, none⟩)) rfl (by kernel_rfl) (by kernel_rfl) (by kernel_rfl) (fun _ _ _ h => h) (b1.ext x2) (by kernel_rfl) (fun _ _ => (by kernel_rfl)) ?_
  refine Gx.any_take 1 (.slice A2 2 c2) rfl (by kernel_rfl) (by kernel_rfl) (by kernel_rfl) (fun _ _ _ h => h) (b1.ext x2) (by kernel_rfl) (fun _ hs => Gx.run_load rfl 4 (.slice A2 2 c2) (by kernel_rfl) hs (by kernel_rfl)) ?_
  refine Gx.any_take 2 (.int .i64 2) rfl (by kernel_rfl) (by kernel_rfl) (by kernel_rfl) (fun _ _ _ h => h) (b1.ext x2) (by kernel_rfl) (fun _ _ => (by kernel_rfl)) ?_
  refine Gx.any_take 3 (.pointer (some ⟨k1, 0, none⟩)) rfl (by kernel_rfl) (by kernel_rfl) (by kernel_rfl) (fun _ _ _ h => h) (b1.ext x2) (by kernel_rfl) (fun _ _ => (by kernel_rfl)) ?_
  refine Gx.any_take 4 (.int .i64 5) rfl (by kernel_rfl) (by kernel_rfl) (by kernel_rfl) (fun _ _ _ h => h) (b1.ext x2) (by kernel_rfl) (fun _ hs => Gx.run_load rfl 0 (.int .i64 5) (by kernel_rfl) hs (by kernel_rfl)) ?_
  refine Gx.any_one 5 (by kernel_rfl) (Gx.op_call rfl (by kernel_rfl) (by kernel_rfl) (fun R hR => args_c (5 : Int) _ R  (hR _ _ ⟨(b1.ext x2), ?_⟩)))
  refine Gx.any_take 6 (.bool false) rfl (by kernel_rfl) (by kernel_rfl) (by kernel_rfl) (fun _ _ _ h => h) (b1.ext x2) (by kernel_rfl) (fun _ _ => (by kernel_rfl)) ?_
  refine Gx.any_done (by kernel_rfl) ?_
  refine Gx.then_normal ?_
  refine Gx.cond_f (by kernel_rfl) ?_
  refine wp_skip ?_
  refine Gx.then_normal ?_
  refine wp_seq ?_
  refine Gx.seq_reg [0, 1] (by kernel_rfl) ?_
  refine Gx.pure [0] [1] [(13, .pointer (some ⟨k1, 0, none⟩))] rfl (by kernel_rfl) ?_
  refine Gx.cons (Gx.op_load rfl (by kernel_rfl) rfl 0 (.int .i64 5) (by kernel_rfl) (b1.ext x2) (by kernel_rfl) ?_)
  refine Gx.ops_end ?_
  refine wp_block ?_
  refine Gx.seq_run [(15, .bool false), (16, .bool false)] (by kernel_rfl) ?_
  refine Gx.cond_f (by kernel_rfl) ?_
  refine Gx.seq_run [(39, .bool false), (40, .bool false)] (by kernel_rfl) ?_
  refine Gx.cond_f (by kernel_rfl) ?_
  refine Gx.seq_run [(41, .bool false), (42, .bool false)] (by kernel_rfl) ?_
  refine Gx.cond_f (by kernel_rfl) ?_
  refine Gx.seq_run [(43, .bool false), (44, .bool false)] (by kernel_rfl) ?_
  refine Gx.cond_f (by kernel_rfl) ?_
  refine Gx.seq_run [(45, .bool false), (46, .bool false)] (by kernel_rfl) ?_
  refine Gx.cond_f (by kernel_rfl) ?_
  refine Gx.seq_run [(53, .bool true), (54, .bool true)] (by kernel_rfl) ?_
  refine Gx.cond_t (by kernel_rfl) ?_
  refine wp_seq ?_
  refine Gx.draw (S := fun w' => Gx.Has w' k1 (.cells #[.int .i64 5, .int .i64 n, .int .i64 row, .slice A1 ops.length c1, .slice A2 2 c2] 25) ∧ Gx.Ext w w') (by kernel_rfl) (fun w3 x3 => ?_)
  have zw3 := x3.size
  refine Gx.any_take 0 (.pointer (some ⟨k1, 4, none⟩)) rfl (by kernel_rfl) (by kernel_rfl) (by kernel_rfl) (fun _ _ _ h => h) ⟨((b1.ext x2).ext x3), ((((Gx.Ext.refl w).trans x1).trans x2).trans x3)⟩ (by kernel_rfl) (fun _ _ => (by kernel_rfl)) ?_
  refine Gx.any_take 1 (.slice A2 2 c2) rfl (by kernel_rfl) (by kernel_rfl) (by kernel_rfl) (fun _ _ _ h => h) ⟨((b1.ext x2).ext x3), ((((Gx.Ext.refl w).trans x1).trans x2).trans x3)⟩ (by kernel_rfl) (fun _ hs => Gx.run_load rfl 4 (.slice A2 2 c2) (by kernel_rfl) hs.1 (by kernel_rfl)) ?_
  obtain ⟨a1, ha1, hc1⟩ := (Gx.Rd.ext ha (by decide) hE) 0 (by omega)
  refine Gx.any_take 2 (.pointer (some (a1.add (0 * 5)))) rfl (by kernel_rfl) (by kernel_rfl) (by kernel_rfl) (fun _ _ _ h => h) ⟨((b1.ext x2).ext x3), ((((Gx.Ext.refl w).trans x1).trans x2).trans x3)⟩ (by kernel_rfl) (fun _ _ => Gx.run_indexAddrO rfl 25 5 (by kernel_rfl) (by kernel_rfl) a1 ha1 2 c2 (by kernel_rfl) .i64 0 (by kernel_rfl) (by omega)) ?_
  refine Gx.any_take 3 ((.agg (cs 0).toArray)) rfl (by kernel_rfl) (by kernel_rfl) (by kernel_rfl) (fun _ _ _ h => h) ⟨((b1.ext x2).ext x3), ((((Gx.Ext.refl w).trans x1).trans x2).trans x3)⟩ (by kernel_rfl) (fun _ hs => Gx.run_loadAgg rfl (by kernel_rfl) 5 (Gx.cells_ext hc1 (by decide) hs.2) (by kernel_rfl)) ?_
  refine Gx.any_take 6 (.pointer (some ⟨k1, 4, none⟩)) rfl (by kernel_rfl) (by kernel_rfl) (by kernel_rfl) (fun _ _ _ h => h) ⟨((b1.ext x2).ext x3), ((((Gx.Ext.refl w).trans x1).trans x2).trans x3)⟩ (by kernel_rfl) (fun _ _ => (by kernel_rfl)) ?_
  refine Gx.any_take 7 (.slice A2 2 c2) rfl (by kernel_rfl) (by kernel_rfl) (by kernel_rfl) (fun _ _ _ h => h) ⟨((b1.ext x2).ext x3), ((((Gx.Ext.refl w).trans x1).trans x2).trans x3)⟩ (by kernel_rfl) (fun _ hs => Gx.run_load rfl 4 (.slice A2 2 c2) (by kernel_rfl) hs.1 (by kernel_rfl)) ?_
  obtain ⟨a2, ha2, hc2⟩ := (Gx.Rd.ext ha (by decide) hE) 1 (by omega)
  refine Gx.any_take 8 (.pointer (some (a2.add (1 * 5)))) rfl (by kernel_rfl) (by kernel_rfl) (by kernel_rfl) (fun _ _ _ h => h) ⟨((b1.ext x2).ext x3), ((((Gx.Ext.refl w).trans x1).trans x2).trans x3)⟩ (by kernel_rfl) (fun _ _ => Gx.run_indexAddrO rfl 25 5 (by kernel_rfl) (by kernel_rfl) a2 ha2 2 c2 (by kernel_rfl) .i64 1 (by kernel_rfl) (by omega)) ?_
  refine Gx.any_take 9 ((.agg (cs 1).toArray)) rfl (by kernel_rfl) (by kernel_rfl) (by kernel_rfl) (fun _ _ _ h => h) ⟨((b1.ext x2).ext x3), ((((Gx.Ext.refl w).trans x1).trans x2).trans x3)⟩ (by kernel_rfl) (fun _ hs => Gx.run_loadAgg rfl (by kernel_rfl) 5 (Gx.cells_ext hc2 (by decide) hs.2) (by kernel_rfl)) ?_
  refine Gx.any_one 4 (by kernel_rfl) (Gx.op_call rfl (by kernel_rfl) (by kernel_rfl) (fun R hR => ihI 0 (by omega) (2 : Int) _ R (Gx.Ext.trans hE ((((Gx.Ext.refl w).trans x1).trans x2).trans x3)) (fun w4 x4  => hR _ _ ⟨⟨(((b1.ext x2).ext x3).ext x4), (((((Gx.Ext.refl w).trans x1).trans x2).trans x3).trans x4)⟩, ?_⟩)))
  have zw4 := x4.size
  refine Gx.any_take 5 (.string ((inP (2 : Int) (args.getD 0 ty0)) ++ (⟨#[32, 42, 32]⟩ : ByteArray))) rfl (by kernel_rfl) (by kernel_rfl) (by kernel_rfl) (fun _ _ _ h => h) ⟨(((b1.ext x2).ext x3).ext x4), (((((Gx.Ext.refl w).trans x1).trans x2).trans x3).trans x4)⟩ (by kernel_rfl) (fun _ _ => Gx.run_concat rfl (inP (2 : Int) (args.getD 0 ty0)) (⟨#[32, 42, 32]⟩ : ByteArray) (by kernel_rfl) (by kernel_rfl) (by simp only [litz3]; omega)) ?_
  refine Gx.any_one 10 (by kernel_rfl) (Gx.op_call rfl (by kernel_rfl) (by kernel_rfl) (fun R hR => ihI 1 (by omega) (1 : Int) _ R (Gx.Ext.trans hE (((((Gx.Ext.refl w).trans x1).trans x2).trans x3).trans x4)) (fun w5 x5  => hR _ _ ⟨⟨((((b1.ext x2).ext x3).ext x4).ext x5), ((((((Gx.Ext.refl w).trans x1).trans x2).trans x3).trans x4).trans x5)⟩, ?_⟩)))
  have zw5 := x5.size
  refine Gx.any_take 11 (.string (((inP (2 : Int) (args.getD 0 ty0)) ++ (⟨#[32, 42, 32]⟩ : ByteArray)) ++ (inP (1 : Int) (args.getD 1 ty0)))) rfl (by kernel_rfl) (by kernel_rfl) (by kernel_rfl) (fun _ _ _ h => h) ⟨((((b1.ext x2).ext x3).ext x4).ext x5), ((((((Gx.Ext.refl w).trans x1).trans x2).trans x3).trans x4).trans x5)⟩ (by kernel_rfl) (fun _ _ => Gx.run_concat rfl ((inP (2 : Int) (args.getD 0 ty0)) ++ (⟨#[32, 42, 32]⟩ : ByteArray)) (inP (1 : Int) (args.getD 1 ty0)) (by kernel_rfl) (by kernel_rfl) (by simp only [ByteArray.size_append, litz3]; omega)) ?_
  refine Gx.any_take 12 (.string (((inP (2 : Int) (args.getD 0 ty0)) ++ (⟨#[32, 42, 32]⟩ : ByteArray)) ++ (inP (1 : Int) (args.getD 1 ty0)))) rfl (by kernel_rfl) (by kernel_rfl) (by kernel_rfl) (fun _ _ _ h => h) ⟨((((b1.ext x2).ext x3).ext x4).ext x5), ((((((Gx.Ext.refl w).trans x1).trans x2).trans x3).trans x4).trans x5)⟩ (by kernel_rfl) (fun _ _ => (by kernel_rfl)) ?_
  refine Gx.any_done (by kernel_rfl) ?_
  refine Gx.then_normal ?_
  refine wp_ret ?_
  refine Gx.block_ret ?_
  refine Gx.then_ret ?_
  refine Gx.ret (v := .string (((inP (2 : Int) (args.getD 0 ty0)) ++ (⟨#[32, 42, 32]⟩ : ByteArray)) ++ (inP (1 : Int) (args.getD 1 ty0)))) (Gx.res1 rfl (by kernel_rfl)) ?_
  exact Gx.ret_as (v' := .string (showP (.mk 5 n row ops args))) (by rw [show_5 hlen]) (hK _ ((((((Gx.Ext.refl w).trans x1).trans x2).trans x3).trans x4).trans x5))

set_option maxHeartbeats 400000 in
set_option maxRecDepth 10000 in
theorem rShow_bad (w0 : World) (k : Int) (n row : Int) (ops : List ByteArray) (args : List TyP) (A1 A2 : Option Addr) (c1 c2 : Nat) (cs : Nat → List Value) (w : World) (K : Ending → World → Prop) (hbad : ¬ (args.length : Int) = arity k) (hK : ∀ w', Gx.Ext w w' → K (.returned (.string (showP (.mk k n row ops args)))) w') :
    Calls Tryd.prog 6 #[.agg #[.int .i64 k, .int .i64 n, .int .i64 row, .slice A1 ops.length c1, .slice A2 args.length c2]] w K := by
  refine Gx.enter 116 Tryd.func6 rfl rfl (Nat.le_of_ble_eq_true rfl) ?_
  refine Gx.seq_reg [0, 1] (by kernel_rfl) ?_
  refine Gx.cons (Gx.op_new (.cells #[.int .i64 k, .int .i64 n, .int .i64 row, .slice A1 ops.length c1, .slice A2 args.length c2] 25) rfl (by kernel_rfl) (by kernel_rfl) (fun k1 w1 l1 x1 b1 => ?_))
  have zw1 := x1.size
  have tb1 := b1.lt
  refine Gx.pure [1] [] [(2, .string (⟨#[]⟩ : ByteArray))] rfl (by kernel_rfl) ?_
  refine Gx.ops_end ?_
  refine wp_seq ?_
  refine wp_seq ?_
  refine Gx.draw (S := fun w' => Gx.Has w' k1 (.cells #[.int .i64 k, .int .i64 n, .int .i64 row, .slice A1 ops.length c1, .slice A2 args.length c2] 25)) (by kernel_rfl) (fun w2 x2 => ?_)
  have zw2 := x2.size
  refine Gx.any_take 0 (.pointer (some ⟨k1, 4, none⟩)) rfl (by kernel_rfl) (by kernel_rfl) (by kernel_rfl) (fun _ _ _ h => h) (b1.ext x2) (by kernel_rfl) (fun _ _ => (by kernel_rfl)) ?_
  refine Gx.any_take 1 (.slice A2 args.length c2) rfl (by kernel_rfl) (by kernel_rfl) (by kernel_rfl) (fun _ _ _ h => h) (b1.ext x2) (by kernel_rfl) (fun _ hs => Gx.run_load rfl 4 (.slice A2 args.length c2) (by kernel_rfl) hs (by kernel_rfl)) ?_
  refine Gx.any_take 2 (.int .i64 ((args.length : Nat) : Int)) rfl (by kernel_rfl) (by kernel_rfl) (by kernel_rfl) (fun _ _ _ h => h) (b1.ext x2) (by kernel_rfl) (fun _ _ => (by kernel_rfl)) ?_
  refine Gx.any_take 3 (.pointer (some ⟨k1, 0, none⟩)) rfl (by kernel_rfl) (by kernel_rfl) (by kernel_rfl) (fun _ _ _ h => h) (b1.ext x2) (by kernel_rfl) (fun _ _ => (by kernel_rfl)) ?_
  refine Gx.any_take 4 (.int .i64 k) rfl (by kernel_rfl) (by kernel_rfl) (by kernel_rfl) (fun _ _ _ h => h) (b1.ext x2) (by kernel_rfl) (fun _ hs => Gx.run_load rfl 0 (.int .i64 k) (by kernel_rfl) hs (by kernel_rfl)) ?_
  refine Gx.any_one 5 (by kernel_rfl) (Gx.op_call rfl (by kernel_rfl) (by kernel_rfl) (fun R hR => args_c k _ R  (hR _ _ ⟨(b1.ext x2), ?_⟩)))
  refine Gx.any_take 6 (.bool (((args.length : Nat) : Int) != (arity k))) rfl (by kernel_rfl) (by kernel_rfl) (by kernel_rfl) (fun _ _ _ h => h) (b1.ext x2) (by kernel_rfl) (fun _ _ => (by kernel_rfl)) ?_
  refine Gx.any_done (by kernel_rfl) ?_
  refine Gx.then_normal ?_
  refine Gx.cond (((args.length : Nat) : Int) != (arity k)) (by kernel_rfl) (fun h_c12 => ?_) (fun h_c12 => ?_)
  · skip
    refine Gx.seq_run [(2, .string (⟨#[]⟩ : ByteArray))] (by kernel_rfl) ?_
    refine wp_ret ?_
    refine Gx.then_ret ?_
    refine Gx.ret (v := .string (⟨#[]⟩ : ByteArray)) (Gx.res1 rfl (by kernel_rfl)) ?_
    have p_c12 := h_c12; try simp [-List.getD_eq_getElem?_getD] at p_c12
    exact Gx.ret_as (v' := .string (showP (.mk k n row ops args))) (by rw [show_bad hbad]; rfl) (hK _ (((Gx.Ext.refl w).trans x1).trans x2))
  have p_c12 := h_c12; try simp [-List.getD_eq_getElem?_getD] at p_c12
  exact absurd (by simpa using h_c12) hbad

end Go.Proofs.YtmlmppdffeacdaaDoor
