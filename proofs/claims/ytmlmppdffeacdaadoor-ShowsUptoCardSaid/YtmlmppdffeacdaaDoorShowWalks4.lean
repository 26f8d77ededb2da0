/- The walks of the functions that show types, written by a program of ours (wip/gx/gx.py, wip/shows/showgen.py). -/
import Derived.Test.YtmlmppdffeacdaaDoorRows
import Derived.Test.YtmlmppdffeacdaaDoorGw
import Derived.Test.YtmlmppdffeacdaaDoorShowPlain
import Derived.Test.YtmlmppdffeacdaaDoorShowWalks1
import Derived.Test.YtmlmppdffeacdaaDoorShowWalks2
import Derived.Test.YtmlmppdffeacdaaDoorShowWalks3
namespace Go.Proofs.YtmlmppdffeacdaaDoor
open Go.RowKit Go.Show
attribute [local irreducible] Go.wpOps Go.Code.wp Go.wpOp Go.wpAnyH Go.Calls
set_option maxHeartbeats 2000000 in
set_option maxRecDepth 10000 in
theorem proper_s (w0 : World) (k : Int) (n row : Int) (ops : List ByteArray) (args : List TyP) (A1 A2 : Option Addr) (c1 c2 : Nat) (cs : Nat → List Value) (deep : Int) (w : World) (K : Ending → World → Prop) (hE : Gx.Ext w0 w) (hn : I64 n) (hr : I64 row) (hk : I64 k) (hl : ops.length ≤ 1048576 ∧ args.length ≤ 1048576) (ho : Gx.Rd w0 A1 ops.length 1 (fun i => [.string (ops.getD i e0)])) (ha : Gx.Rd w0 A2 args.length 5 cs) (hdp : 0 ≤ deep ∧ deep ≤ 301) (ihP : ∀ i, i < args.length → ∀ (deep : Int) (w : World) (K : Ending → World → Prop), (0 ≤ deep ∧ deep ≤ 301) → Gx.Ext w0 w → (∀ w', Gx.Ext w w' → ∀ (m : Int) (ok : Bool), (ok = true → Wf (args.getD i ty0)) → (0 ≤ m ∧ m ≤ 1000 * (302 - deep)) → K (.returned (.tuple #[.int .i64 m, .bool ok])) w') → Calls Tryd.prog 7 #[.agg (cs i).toArray, .int .i64 deep] w K) (hK : ∀ w', Gx.Ext w w' → ∀ (m : Int) (ok : Bool), (ok = true → Wf (.mk k n row ops args)) → (0 ≤ m ∧ m ≤ 1000 * (302 - deep)) → K (.returned (.tuple #[.int .i64 m, .bool ok])) w') :
    Calls Tryd.prog 7 #[.agg #[.int .i64 k, .int .i64 n, .int .i64 row, .slice A1 ops.length c1, .slice A2 args.length c2], .int .i64 deep] w K := by
  refine Gx.enter 145 Tryd.func7 rfl rfl (Nat.le_of_ble_eq_true rfl) ?_
  refine Gx.seq_reg [0, 1, 2] (by kernel_rfl) ?_
  refine Gx.cons (Gx.op_new (.cells #[.int .i64 k, .int .i64 n, .int .i64 row, .slice A1 ops.length c1, .slice A2 args.length c2] 25) rfl (by kernel_rfl) (by kernel_rfl) (fun k1 w1 l1 x1 b1 => ?_))
  have zw1 := x1.size
  have tb1 := b1.lt
  refine Gx.pure [1, 2] [] [(5, .bool false), (4, .int .i64 0)] rfl (by kernel_rfl) ?_
  refine Gx.ops_end ?_
  refine wp_seq ?_
  refine wp_seq ?_
  refine Gx.splitC (decide (deep > (300 : Int))) (fun h_d1 => ?_) (fun h_d1 => ?_)
  · skip
    refine Gx.draw (S := fun w' => True) (by kernel_rfl) (fun w2 x2 => ?_)
    have zw2 := x2.size
    refine Gx.any_take 0 (.int .i64 deep) rfl (by kernel_rfl) (by kernel_rfl) (by kernel_rfl) (fun _ _ _ h => h) trivial (by kernel_rfl) (fun _ _ => (by kernel_rfl)) ?_
    refine Gx.any_take_as 1 (.bool (decide (deep > (300 : Int)))) (.bool true) (by rw [h_d1]) rfl (by kernel_rfl) (by kernel_rfl) (by kernel_rfl) (fun _ _ _ h => h) trivial (by kernel_rfl) (fun _ _ => (by kernel_rfl)) ?_
    refine Gx.any_take 2 (.bool true) rfl (by kernel_rfl) (by kernel_rfl) (by kernel_rfl) (fun _ _ _ h => h) trivial (by kernel_rfl) (fun _ _ => (by kernel_rfl)) ?_
    refine Gx.any_skip 3 rfl (by kernel_rfl) (by kernel_rfl) (by kernel_rfl) (fun _ _ _ h => h) trivial (by kernel_rfl) ?_
    refine Gx.any_skip 4 rfl (by kernel_rfl) (by kernel_rfl) (by kernel_rfl) (fun _ _ _ h => h) trivial (by kernel_rfl) ?_
    refine Gx.any_skip 5 rfl (by kernel_rfl) (by kernel_rfl) (by kernel_rfl) (fun _ _ _ h => h) trivial (by kernel_rfl) ?_
    refine Gx.any_skip 6 rfl (by kernel_rfl) (by kernel_rfl) (by kernel_rfl) (fun _ _ _ h => h) trivial (by kernel_rfl) ?_
    refine Gx.any_skip 7 rfl (by kernel_rfl) (by kernel_rfl) (by kernel_rfl) (fun _ _ _ h => h) trivial (by kernel_rfl) ?_
    refine Gx.any_skip 8 rfl (by kernel_rfl) (by kernel_rfl) (by kernel_rfl) (fun _ _ _ h => h) trivial (by kernel_rfl) ?_
    refine Gx.any_skip 9 rfl (by kernel_rfl) (by kernel_rfl) (by kernel_rfl) (fun _ _ _ h => h) trivial (by kernel_rfl) ?_
    refine Gx.any_take 10 (.bool true) rfl (by kernel_rfl) (by kernel_rfl) (by kernel_rfl) (fun _ _ _ h => h) trivial (by kernel_rfl) (fun _ _ => (by kernel_rfl)) ?_
    refine Gx.any_take 11 (.bool true) rfl (by kernel_rfl) (by kernel_rfl) (by kernel_rfl) (fun _ _ _ h => h) trivial (by kernel_rfl) (fun _ _ => (by kernel_rfl)) ?_
    refine Gx.any_skip 12 rfl (by kernel_rfl) (by kernel_rfl) (by kernel_rfl) (fun _ _ _ h => h) trivial (by kernel_rfl) ?_
    refine Gx.any_skip 13 rfl (by kernel_rfl) (by kernel_rfl) (by kernel_rfl) (fun _ _ _ h => h) trivial (by kernel_rfl) ?_
    refine Gx.any_skip 14 rfl (by kernel_rfl) (by kernel_rfl) (by kernel_rfl) (fun _ _ _ h => h) trivial (by kernel_rfl) ?_
    refine Gx.any_skip 15 rfl (by kernel_rfl) (by kernel_rfl) (by kernel_rfl) (fun _ _ _ h => h) trivial (by kernel_rfl) ?_
    refine Gx.any_take 16 (.bool true) rfl (by kernel_rfl) (by kernel_rfl) (by kernel_rfl) (fun _ _ _ h => h) trivial (by kernel_rfl) (fun _ _ => (by kernel_rfl)) ?_
    refine Gx.any_done (by kernel_rfl) ?_
    refine Gx.then_normal ?_
    refine Gx.cond_t (by kernel_rfl) ?_
    refine Gx.seq_run [(5, .bool false), (4, .int .i64 0)] (by kernel_rfl) ?_
    refine wp_ret ?_
    refine Gx.then_ret ?_
    refine Gx.ret (Gx.res2 (v := .int .i64 0) (u := .bool false) rfl (by kernel_rfl) (by kernel_rfl)) ?_
    have p_d1 := h_d1; try simp [-List.getD_eq_getElem?_getD] at p_d1
    exact hK _ (((Gx.Ext.refl w).trans x1).trans x2) (0 : Int) false (fun h => by cases h) (by omega)
  refine Gx.splitC (((args.length : Nat) : Int) != (arity k)) (fun h_d2 => ?_) (fun h_d2 => ?_)
  · skip
    refine Gx.draw (S := fun w' => Gx.Has w' k1 (.cells #[.int .i64 k, .int .i64 n, .int .i64 row, .slice A1 ops.length c1, .slice A2 args.length c2] 25)) (by kernel_rfl) (fun w3 x3 => ?_)
    have zw3 := x3.size
    refine Gx.any_take 0 (.int .i64 deep) rfl (by kernel_rfl) (by kernel_rfl) (by kernel_rfl) (fun _ _ _ h => h) (b1.ext x3) (by kernel_rfl) (fun _ _ => (by kernel_rfl)) ?_
    refine Gx.any_take_as 1 (.bool (decide (deep > (300 : Int)))) (.bool false) (by rw [h_d1]) rfl (by kernel_rfl) (by kernel_rfl) (by kernel_rfl) (fun _ _ _ h => h) (b1.ext x3) (by kernel_rfl) (fun _ _ => (by kernel_rfl)) ?_
    refine Gx.any_take 2 (.bool false) rfl (by kernel_rfl) (by kernel_rfl) (by kernel_rfl) (fun _ _ _ h => h) (b1.ext x3) (by kernel_rfl) (fun _ _ => (by kernel_rfl)) ?_
    refine Gx.any_take 3 (.pointer (some ⟨k1, 4, none⟩)) rfl (by kernel_rfl) (by kernel_rfl) (by kernel_rfl) (fun _ _ _ h => h) (b1.ext x3) (by kernel_rfl) (fun _ _ => (by kernel_rfl)) ?_
    refine Gx.any_take 4 (.slice A2 args.length c2) rfl (by kernel_rfl) (by kernel_rfl) (by kernel_rfl) (fun _ _ _ h => h) (b1.ext x3) (by kernel_rfl) (fun _ hs => Gx.run_load rfl 4 (.slice A2 args.length c2) (by kernel_rfl) hs (by kernel_rfl)) ?_
    refine Gx.any_take 5 (.int .i64 ((args.length : Nat) : Int)) rfl (by kernel_rfl) (by kernel_rfl) (by kernel_rfl) (fun _ _ _ h => h) (b1.ext x3) (by kernel_rfl) (fun _ _ => (by kernel_rfl)) ?_
    refine Gx.any_take 6 (.pointer (some ⟨k1, 0, none⟩)) rfl (by kernel_rfl) (by kernel_rfl) (by kernel_rfl) (fun _ _ _ h => h) (b1.ext x3) (by kernel_rfl) (fun _ _ => (by kernel_rfl)) ?_
    refine Gx.any_take 7 (.int .i64 k) rfl (by kernel_rfl) (by kernel_rfl) (by kernel_rfl) (fun _ _ _ h => h) (b1.ext x3) (by kernel_rfl) (fun _ hs => Gx.run_load rfl 0 (.int .i64 k) (by kernel_rfl) hs (by kernel_rfl)) ?_
    refine Gx.any_one 8 (by kernel_rfl) (Gx.op_call rfl (by kernel_rfl) (by kernel_rfl) (fun R hR => args_c k _ R  (hR _ _ ⟨(b1.ext x3), ?_⟩)))
    refine Gx.any_take_as 9 (.bool (((args.length : Nat) : Int) != (arity k))) (.bool true) (by rw [h_d2]) rfl (by kernel_rfl) (by kernel_rfl) (by kernel_rfl) (fun _ _ _ h => h) (b1.ext x3) (by kernel_rfl) (fun _ _ => (by kernel_rfl)) ?_
    refine Gx.any_take 10 (.bool true) rfl (by kernel_rfl) (by kernel_rfl) (by kernel_rfl) (fun _ _ _ h => h) (b1.ext x3) (by kernel_rfl) (fun _ _ => (by kernel_rfl)) ?_
    refine Gx.any_take 11 (.bool true) rfl (by kernel_rfl) (by kernel_rfl) (by kernel_rfl) (fun _ _ _ h => h) (b1.ext x3) (by kernel_rfl) (fun _ _ => (by kernel_rfl)) ?_
    refine Gx.any_skip 12 rfl (by kernel_rfl) (by kernel_rfl) (by kernel_rfl) (fun _ _ _ h => h) (b1.ext x3) (by kernel_rfl) ?_
    refine Gx.any_skip 13 rfl (by kernel_rfl) (by kernel_rfl) (by kernel_rfl) (fun _ _ _ h => h) (b1.ext x3) (by kernel_rfl) ?_
    refine Gx.any_skip 14 rfl (by kernel_rfl) (by kernel_rfl) (by kernel_rfl) (fun _ _ _ h => h) (b1.ext x3) (by kernel_rfl) ?_
    refine Gx.any_skip 15 rfl (by kernel_rfl) (by kernel_rfl) (by kernel_rfl) (fun _ _ _ h => h) (b1.ext x3) (by kernel_rfl) ?_
    refine Gx.any_take 16 (.bool true) rfl (by kernel_rfl) (by kernel_rfl) (by kernel_rfl) (fun _ _ _ h => h) (b1.ext x3) (by kernel_rfl) (fun _ _ => (by kernel_rfl)) ?_
    refine Gx.any_done (by kernel_rfl) ?_
    refine Gx.then_normal ?_
    refine Gx.cond_t (by kernel_rfl) ?_
    refine Gx.seq_run [(5, .bool false), (4, .int .i64 0)] (by kernel_rfl) ?_
    refine wp_ret ?_
    refine Gx.then_ret ?_
    refine Gx.ret (Gx.res2 (v := .int .i64 0) (u := .bool false) rfl (by kernel_rfl) (by kernel_rfl)) ?_
    have p_d1 := h_d1; try simp [-List.getD_eq_getElem?_getD] at p_d1
    have p_d2 := h_d2; try simp [-List.getD_eq_getElem?_getD] at p_d2
    exact hK _ (((Gx.Ext.refl w).trans x1).trans x3) (0 : Int) false (fun h => by cases h) (by omega)
  refine Gx.draw (S := fun w' => Gx.Has w' k1 (.cells #[.int .i64 k, .int .i64 n, .int .i64 row, .slice A1 ops.length c1, .slice A2 args.length c2] 25)) (by kernel_rfl) (fun w4 x4 => ?_)
  have zw4 := x4.size
  refine Gx.any_take 0 (.int .i64 deep) rfl (by kernel_rfl) (by kernel_rfl) (by kernel_rfl) (fun _ _ _ h => h) (b1.ext x4) (by kernel_rfl) (fun _ _ => (by kernel_rfl)) ?_
  refine Gx.any_take_as 1 (.bool (decide (deep > (300 : Int)))) (.bool false) (by rw [h_d1]) rfl (by kernel_rfl) (by kernel_rfl) (by kernel_rfl) (fun _ _ _ h => h) (b1.ext x4) (by kernel_rfl) (fun _ _ => (by kernel_rfl)) ?_
  refine Gx.any_take 2 (.bool false) rfl (by kernel_rfl) (by kernel_rfl) (by kernel_rfl) (fun _ _ _ h => h) (b1.ext x4) (by kernel_rfl) (fun _ _ => (by kernel_rfl)) ?_
  refine Gx.any_take 3 (.pointer (some ⟨k1, 4, none⟩)) rfl (by kernel_rfl) (by kernel_rfl) (by kernel_rfl) (fun _ _ _ h => h) (b1.ext x4) (by kernel_rfl) (fun _ _ => (by kernel_rfl)) ?_
  refine Gx.any_take 4 (.slice A2 args.length c2) rfl (by kernel_rfl) (by kernel_rfl) (by kernel_rfl) (fun _ _ _ h => h) (b1.ext x4) (by kernel_rfl) (fun _ hs => Gx.run_load rfl 4 (.slice A2 args.length c2) (by kernel_rfl) hs (by kernel_rfl)) ?_
  refine Gx.any_take 5 (.int .i64 ((args.length : Nat) : Int)) rfl (by kernel_rfl) (by kernel_rfl) (by kernel_rfl) (fun _ _ _ h => h) (b1.ext x4) (by kernel_rfl) (fun _ _ => (by kernel_rfl)) ?_
  refine Gx.any_take 6 (.pointer (some ⟨k1, 0, none⟩)) rfl (by kernel_rfl) (by kernel_rfl) (by kernel_rfl) (fun _ _ _ h => h) (b1.ext x4) (by kernel_rfl) (fun _ _ => (by kernel_rfl)) ?_
  refine Gx.any_take 7 (.int .i64 k) rfl (by kernel_rfl) (by kernel_rfl) (by kernel_rfl) (fun _ _ _ h => h) (b1.ext x4) (by kernel_rfl) (fun _ hs => Gx.run_load rfl 0 (.int .i64 k) (by kernel_rfl) hs (by kernel_rfl)) ?_
  refine Gx.any_one 8 (by kernel_rfl) (Gx.op_call rfl (by kernel_rfl) (by kernel_rfl) (fun R hR => args_c k _ R  (hR _ _ ⟨(b1.ext x4), ?_⟩)))
  refine Gx.any_take_as 9 (.bool (((args.length : Nat) : Int) != (arity k))) (.bool false) (by rw [h_d2]) rfl (by kernel_rfl) (by kernel_rfl) (by kernel_rfl) (fun _ _ _ h => h) (b1.ext x4) (by kernel_rfl) (fun _ _ => (by kernel_rfl)) ?_
  refine Gx.any_take 10 (.bool false) rfl (by kernel_rfl) (by kernel_rfl) (by kernel_rfl) (fun _ _ _ h => h) (b1.ext x4) (by kernel_rfl) (fun _ _ => (by kernel_rfl)) ?_
  refine Gx.any_take 11 (.bool false) rfl (by kernel_rfl) (by kernel_rfl) (by kernel_rfl) (fun _ _ _ h => h) (b1.ext x4) (by kernel_rfl) (fun _ _ => (by kernel_rfl)) ?_
  refine Gx.any_take 12 (.pointer (some ⟨k1, 3, none⟩)) rfl (by kernel_rfl) (by kernel_rfl) (by kernel_rfl) (fun _ _ _ h => h) (b1.ext x4) (by kernel_rfl) (fun _ _ => (by kernel_rfl)) ?_
  refine Gx.any_take 13 (.slice A1 ops.length c1) rfl (by kernel_rfl) (by kernel_rfl) (by kernel_rfl) (fun _ _ _ h => h) (b1.ext x4) (by kernel_rfl) (fun _ hs => Gx.run_load rfl 3 (.slice A1 ops.length c1) (by kernel_rfl) hs (by kernel_rfl)) ?_
  refine Gx.any_take 14 (.int .i64 ((ops.length : Nat) : Int)) rfl (by kernel_rfl) (by kernel_rfl) (by kernel_rfl) (fun _ _ _ h => h) (b1.ext x4) (by kernel_rfl) (fun _ _ => (by kernel_rfl)) ?_
  refine Gx.any_take 15 (.bool (decide (((ops.length : Nat) : Int) > (300 : Int)))) rfl (by kernel_rfl) (by kernel_rfl) (by kernel_rfl) (fun _ _ _ h => h) (b1.ext x4) (by kernel_rfl) (fun _ _ => (by kernel_rfl)) ?_
  refine Gx.any_take 16 (.bool (decide (((ops.length : Nat) : Int) > (300 : Int)))) rfl (by kernel_rfl) (by kernel_rfl) (by kernel_rfl) (fun _ _ _ h => h) (b1.ext x4) (by kernel_rfl) (fun _ _ => (by kernel_rfl)) ?_
  refine Gx.any_done (by kernel_rfl) ?_
  refine Gx.then_normal ?_
  refine Gx.cond (decide (((ops.length : Nat) : Int) > (300 : Int))) (by kernel_rfl) (fun h_c29 => ?_) (fun h_c29 => ?_)
  · skip
    refine Gx.seq_run [(5, .bool false), (4, .int .i64 0)] (by kernel_rfl) ?_
    refine wp_ret ?_
    refine Gx.then_ret ?_
    refine Gx.ret (Gx.res2 (v := .int .i64 0) (u := .bool false) rfl (by kernel_rfl) (by kernel_rfl)) ?_
    have p_d1 := h_d1; try simp [-List.getD_eq_getElem?_getD] at p_d1
    have p_d2 := h_d2; try simp [-List.getD_eq_getElem?_getD] at p_d2
    have p_c29 := h_c29; try simp [-List.getD_eq_getElem?_getD] at p_c29
    exact hK _ (((Gx.Ext.refl w).trans x1).trans x4) (0 : Int) false (fun h => by cases h) (by omega)
  refine wp_skip ?_
  refine Gx.then_normal ?_
  refine Gx.seq_reg [0, 1, 2, 3] (by kernel_rfl) ?_
  refine Gx.pure [0] [1, 2, 3] [(30, .pointer (some ⟨k1, 0, none⟩))] rfl (by kernel_rfl) ?_
  refine Gx.cons (Gx.op_load rfl (by kernel_rfl) rfl 0 (.int .i64 k) (by kernel_rfl) (b1.ext x4) (by kernel_rfl) ?_)
  refine Gx.pure [2, 3] [] [(6, .bool (k == (0 : Int))), (32, .bool (k == (0 : Int)))] rfl (by kernel_rfl) ?_
  refine Gx.ops_end ?_
  refine Gx.seq_reg [0, 1, 2, 3] (by kernel_rfl) ?_
  refine Gx.pure [0] [1, 2, 3] [(33, .pointer (some ⟨k1, 0, none⟩))] rfl (by kernel_rfl) ?_
  refine Gx.cons (Gx.op_load rfl (by kernel_rfl) rfl 0 (.int .i64 k) (by kernel_rfl) (b1.ext x4) (by kernel_rfl) ?_)
  refine Gx.pure [2, 3] [] [(7, .bool (k == (6 : Int))), (35, .bool (k == (6 : Int)))] rfl (by kernel_rfl) ?_
  refine Gx.ops_end ?_
  refine wp_seq ?_
  refine Gx.cut (d' := []) (n' := 145) (fun l' w' => l' = [(1, .int .i64 deep), (2, .pointer (some ⟨k1, 0, none⟩)), (80, .bool ((((((k == (0 : Int)) && ((decide (n < (1 : Int))) || (decide (n > (1000000000 : Int))))) || ((!(k == (0 : Int))) && (n != (0 : Int)))) || ((!(k == (6 : Int))) && ((decide (((ops.length : Nat) : Int) > (0 : Int))) || (row != (0 : Int))))) || (decide (row < (0 : Int)))) || (decide (row > (1000000000 : Int)))))] ∧ w4 = w') (fun K1 hK1 => ?_) (fun bb1 ll1 w5 hI1 => ?_)
  · refine Gx.reg [0, 1, 2, 3, 4, 5, 6, 7, 8, 9, 10, 11, 12, 13, 14, 15, 16, 17, 18, 19, 20, 21, 22, 23, 24, 25, 26, 27, 28, 29, 30, 31, 32, 33, 34, 35, 36, 37, 38, 39, 40, 41, 42, 43, 44] (by kernel_rfl) ?_
    refine Gx.pure [0, 1] [2, 3, 4, 5, 6, 7, 8, 9, 10, 11, 12, 13, 14, 15, 16, 17, 18, 19, 20, 21, 22, 23, 24, 25, 26, 27, 28, 29, 30, 31, 32, 33, 34, 35, 36, 37, 38, 39, 40, 41, 42, 43, 44] [(37, .bool (k == (0 : Int))), (36, .bool (k == (0 : Int)))] rfl (by kernel_rfl) ?_
    refine Gx.split (k == (0 : Int)) (fun h_g37 => ?_) (fun h_g37 => ?_)
    · rw [h_g37]
      refine Gx.pure [2] [3, 4, 5, 6, 7, 8, 9, 10, 11, 12, 13, 14, 15, 16, 17, 18, 19, 20, 21, 22, 23, 24, 25, 26, 27, 28, 29, 30, 31, 32, 33, 34, 35, 36, 37, 38, 39, 40, 41, 42, 43, 44] [(38, .pointer (some ⟨k1, 1, none⟩))] rfl (by kernel_rfl) ?_
      refine Gx.cons (Gx.op_load rfl (by kernel_rfl) rfl 1 (.int .i64 n) (by kernel_rfl) (b1.ext x4) (by kernel_rfl) ?_)
      refine Gx.pure [4, 5] [6, 7, 8, 9, 10, 11, 12, 13, 14, 15, 16, 17, 18, 19, 20, 21, 22, 23, 24, 25, 26, 27, 28, 29, 30, 31, 32, 33, 34, 35, 36, 37, 38, 39, 40, 41, 42, 43, 44] [(41, .bool (decide (n < (1 : Int)))), (40, .bool (decide (n < (1 : Int))))] rfl (by kernel_rfl) ?_
      refine Gx.split (decide (n < (1 : Int))) (fun h_g41 => ?_) (fun h_g41 => ?_)
      · rw [h_g41]
        refine Gx.pure [6, 7, 8, 9, 10, 11, 12, 13, 14, 15, 16, 17, 18, 19, 20, 21, 22, 23, 24, 25, 26, 27, 28, 29, 30, 31, 32, 33, 34, 35, 36, 37, 38, 39, 40, 41, 42, 43, 44] [] [(80, .bool true), (79, undef), (78, undef), (77, undef), (76, .bool true), (75, .bool true), (74, undef), (73, undef), (72, undef), (71, .bool true), (70, .bool true), (69, undef), (68, undef), (67, undef), (66, undef), (65, undef), (64, undef), (63, undef), (62, undef), (61, undef), (60, undef), (59, undef), (58, undef), (57, undef), (56, .bool true), (55, .bool true), (54, undef), (53, undef), (52, undef), (51, undef), (50, undef), (49, undef), (48, undef), (47, .bool true), (46, .bool true), (45, .bool true), (44, undef), (43, undef), (42, undef)] rfl (by kernel_rfl) ?_
        refine Gx.ops_end ?_
        rw [Gx.forget [(1, .int .i64 deep), (2, .pointer (some ⟨k1, 0, none⟩)), (80, .bool ((((((k == (0 : Int)) && ((decide (n < (1 : Int))) || (decide (n > (1000000000 : Int))))) || ((!(k == (0 : Int))) && (n != (0 : Int)))) || ((!(k == (6 : Int))) && ((decide (((ops.length : Nat) : Int) > (0 : Int))) || (row != (0 : Int))))) || (decide (row < (0 : Int)))) || (decide (row > (1000000000 : Int)))))] (by rw [h_g37, h_g41]; try kernel_rfl)]
        exact hK1 _ _ _ ⟨rfl, rfl⟩
      rw [h_g41]
      refine Gx.pure [6] [7, 8, 9, 10, 11, 12, 13, 14, 15, 16, 17, 18, 19, 20, 21, 22, 23, 24, 25, 26, 27, 28, 29, 30, 31, 32, 33, 34, 35, 36, 37, 38, 39, 40, 41, 42, 43, 44] [(42, .pointer (some ⟨k1, 1, none⟩))] rfl (by kernel_rfl) ?_
      refine Gx.cons (Gx.op_load rfl (by kernel_rfl) rfl 1 (.int .i64 n) (by kernel_rfl) (b1.ext x4) (by kernel_rfl) ?_)
      refine Gx.pure [8, 9, 10, 11] [12, 13, 14, 15, 16, 17, 18, 19, 20, 21, 22, 23, 24, 25, 26, 27, 28, 29, 30, 31, 32, 33, 34, 35, 36, 37, 38, 39, 40, 41, 42, 43, 44] [(47, .bool (decide (n > (1000000000 : Int)))), (46, .bool (decide (n > (1000000000 : Int)))), (45, .bool (decide (n > (1000000000 : Int)))), (44, .bool (decide (n > (1000000000 : Int))))] rfl (by kernel_rfl) ?_
      refine Gx.split (decide (n > (1000000000 : Int))) (fun h_g47 => ?_) (fun h_g47 => ?_)
      · rw [h_g47]
        refine Gx.pure [12, 13, 14, 15, 16, 17, 18, 19, 20, 21, 22, 23, 24, 25, 26, 27, 28, 29, 30, 31, 32, 33, 34, 35, 36, 37, 38, 39, 40, 41, 42, 43, 44] [] [(80, .bool true), (79, undef), (78, undef), (77, undef), (76, .bool true), (75, .bool true), (74, undef), (73, undef), (72, undef), (71, .bool true), (70, .bool true), (69, undef), (68, undef), (67, undef), (66, undef), (65, undef), (64, undef), (63, undef), (62, undef), (61, undef), (60, undef), (59, undef), (58, undef), (57, undef), (56, .bool true), (55, .bool true), (54, undef), (53, undef), (52, undef), (51, undef), (50, undef), (49, undef), (48, undef)] rfl (by kernel_rfl) ?_
        refine Gx.ops_end ?_
        rw [Gx.forget [(1, .int .i64 deep), (2, .pointer (some ⟨k1, 0, none⟩)), (80, .bool ((((((k == (0 : Int)) && ((decide (n < (1 : Int))) || (decide (n > (1000000000 : Int))))) || ((!(k == (0 : Int))) && (n != (0 : Int)))) || ((!(k == (6 : Int))) && ((decide (((ops.length : Nat) : Int) > (0 : Int))) || (row != (0 : Int))))) || (decide (row < (0 : Int)))) || (decide (row > (1000000000 : Int)))))] (by rw [h_g37, h_g41, h_g47]; try kernel_rfl)]
        exact hK1 _ _ _ ⟨rfl, rfl⟩
      rw [h_g47]
      refine Gx.pure [12, 13, 14, 15, 16, 17, 18, 19, 20, 21, 22, 23] [24, 25, 26, 27, 28, 29, 30, 31, 32, 33, 34, 35, 36, 37, 38, 39, 40, 41, 42, 43, 44] [(59, .bool (!(k == (6 : Int)))), (58, .bool (!(k == (6 : Int)))), (57, .bool (k == (6 : Int))), (56, .bool false), (55, .bool false), (54, .bool false), (53, undef), (52, undef), (51, undef), (50, .bool false), (49, .bool false), (48, .bool true)] rfl (by kernel_rfl) ?_
      refine Gx.split (!(k == (6 : Int))) (fun h_g59 => ?_) (fun h_g59 => ?_)
      · rw [h_g59]
        refine Gx.pure [24] [25, 26, 27, 28, 29, 30, 31, 32, 33, 34, 35, 36, 37, 38, 39, 40, 41, 42, 43, 44] [(60, .pointer (some ⟨k1, 3, none⟩))] rfl (by kernel_rfl) ?_
        refine Gx.cons (Gx.op_load rfl (by kernel_rfl) rfl 3 (.slice A1 ops.length c1) (by kernel_rfl) (b1.ext x4) (by kernel_rfl) ?_)
        refine Gx.pure [26, 27, 28] [29, 30, 31, 32, 33, 34, 35, 36, 37, 38, 39, 40, 41, 42, 43, 44] [(64, .bool (decide (((ops.length : Nat) : Int) > (0 : Int)))), (63, .bool (decide (((ops.length : Nat) : Int) > (0 : Int)))), (62, .int .i64 ((ops.length : Nat) : Int))] rfl (by kernel_rfl) ?_
        refine Gx.split (decide (((ops.length : Nat) : Int) > (0 : Int))) (fun h_g64 => ?_) (fun h_g64 => ?_)
        · rw [h_g64]
          refine Gx.pure [29, 30, 31, 32, 33, 34, 35, 36, 37, 38, 39, 40, 41, 42, 43, 44] [] [(80, .bool true), (79, undef), (78, undef), (77, undef), (76, .bool true), (75, .bool true), (74, undef), (73, undef), (72, undef), (71, .bool true), (70, .bool true), (69, .bool true), (68, .bool true), (67, undef), (66, undef), (65, undef)] rfl (by kernel_rfl) ?_
          refine Gx.ops_end ?_
          rw [Gx.forget [(1, .int .i64 deep), (2, .pointer (some ⟨k1, 0, none⟩)), (80, .bool ((((((k == (0 : Int)) && ((decide (n < (1 : Int))) || (decide (n > (1000000000 : Int))))) || ((!(k == (0 : Int))) && (n != (0 : Int)))) || ((!(k == (6 : Int))) && ((decide (((ops.length : Nat) : Int) > (0 : Int))) || (row != (0 : Int))))) || (decide (row < (0 : Int)))) || (decide (row > (1000000000 : Int)))))] (by rw [h_g37, h_g41, h_g47, h_g59, h_g64]; try kernel_rfl)]
          exact hK1 _ _ _ ⟨rfl, rfl⟩
        rw [h_g64]
        refine Gx.pure [29] [30, 31, 32, 33, 34, 35, 36, 37, 38, 39, 40, 41, 42, 43, 44] [(65, .pointer (some ⟨k1, 2, none⟩))] rfl (by kernel_rfl) ?_
        refine Gx.cons (Gx.op_load rfl (by kernel_rfl) rfl 2 (.int .i64 row) (by kernel_rfl) (b1.ext x4) (by kernel_rfl) ?_)
        refine Gx.pure [31, 32, 33, 34, 35] [36, 37, 38, 39, 40, 41, 42, 43, 44] [(71, .bool (row != (0 : Int))), (70, .bool (row != (0 : Int))), (69, .bool (row != (0 : Int))), (68, .bool (row != (0 : Int))), (67, .bool (row != (0 : Int)))] rfl (by kernel_rfl) ?_
        refine Gx.split (row != (0 : Int)) (fun h_g71 => ?_) (fun h_g71 => ?_)
        · rw [h_g71]
          refine Gx.pure [36, 37, 38, 39, 40, 41, 42, 43, 44] [] [(80, .bool true), (79, undef), (78, undef), (77, undef), (76, .bool true), (75, .bool true), (74, undef), (73, undef), (72, undef)] rfl (by kernel_rfl) ?_
          refine Gx.ops_end ?_
          rw [Gx.forget [(1, .int .i64 deep), (2, .pointer (some ⟨k1, 0, none⟩)), (80, .bool ((((((k == (0 : Int)) && ((decide (n < (1 : Int))) || (decide (n > (1000000000 : Int))))) || ((!(k == (0 : Int))) && (n != (0 : Int)))) || ((!(k == (6 : Int))) && ((decide (((ops.length : Nat) : Int) > (0 : Int))) || (row != (0 : Int))))) || (decide (row < (0 : Int)))) || (decide (row > (1000000000 : Int)))))] (by rw [h_g37, h_g41, h_g47, h_g59, h_g64, h_g71]; try kernel_rfl)]
          exact hK1 _ _ _ ⟨rfl, rfl⟩
        rw [h_g71]
        refine Gx.pure [36] [37, 38, 39, 40, 41, 42, 43, 44] [(72, .pointer (some ⟨k1, 2, none⟩))] rfl (by kernel_rfl) ?_
        refine Gx.cons (Gx.op_load rfl (by kernel_rfl) rfl 2 (.int .i64 row) (by kernel_rfl) (b1.ext x4) (by kernel_rfl) ?_)
        refine Gx.pure [38, 39, 40] [41, 42, 43, 44] [(76, .bool (decide (row < (0 : Int)))), (75, .bool (decide (row < (0 : Int)))), (74, .bool (decide (row < (0 : Int))))] rfl (by kernel_rfl) ?_
        refine Gx.split (decide (row < (0 : Int))) (fun h_g76 => ?_) (fun h_g76 => ?_)
        · rw [h_g76]
          refine Gx.pure [41, 42, 43, 44] [] [(80, .bool true), (79, undef), (78, undef), (77, undef)] rfl (by kernel_rfl) ?_
          refine Gx.ops_end ?_
          rw [Gx.forget [(1, .int .i64 deep), (2, .pointer (some ⟨k1, 0, none⟩)), (80, .bool ((((((k == (0 : Int)) && ((decide (n < (1 : Int))) || (decide (n > (1000000000 : Int))))) || ((!(k == (0 : Int))) && (n != (0 : Int)))) || ((!(k == (6 : Int))) && ((decide (((ops.length : Nat) : Int) > (0 : Int))) || (row != (0 : Int))))) || (decide (row < (0 : Int)))) || (decide (row > (1000000000 : Int)))))] (by rw [h_g37, h_g41, h_g47, h_g59, h_g64, h_g71, h_g76]; try kernel_rfl)]
          exact hK1 _ _ _ ⟨rfl, rfl⟩
        rw [h_g76]
        refine Gx.pure [41] [42, 43, 44] [(77, .pointer (some ⟨k1, 2, none⟩))] rfl (by kernel_rfl) ?_
        refine Gx.cons (Gx.op_load rfl (by kernel_rfl) rfl 2 (.int .i64 row) (by kernel_rfl) (b1.ext x4) (by kernel_rfl) ?_)
        refine Gx.pure [43, 44] [] [(80, .bool (decide (row > (1000000000 : Int)))), (79, .bool (decide (row > (1000000000 : Int))))] rfl (by kernel_rfl) ?_
        refine Gx.ops_end ?_
        rw [Gx.forget [(1, .int .i64 deep), (2, .pointer (some ⟨k1, 0, none⟩)), (80, .bool ((((((k == (0 : Int)) && ((decide (n < (1 : Int))) || (decide (n > (1000000000 : Int))))) || ((!(k == (0 : Int))) && (n != (0 : Int)))) || ((!(k == (6 : Int))) && ((decide (((ops.length : Nat) : Int) > (0 : Int))) || (row != (0 : Int))))) || (decide (row < (0 : Int)))) || (decide (row > (1000000000 : Int)))))] (by rw [h_g37, h_g41, h_g47, h_g59, h_g64, h_g71, h_g76]; try kernel_rfl)]
        exact hK1 _ _ _ ⟨rfl, rfl⟩
      rw [h_g59]
      refine Gx.pure [24, 25, 26, 27, 28, 29, 30, 31, 32, 33, 34, 35, 36] [37, 38, 39, 40, 41, 42, 43, 44] [(72, .pointer (some ⟨k1, 2, none⟩)), (71, .bool false), (70, .bool false), (69, .bool false), (68, undef), (67, undef), (66, undef), (65, undef), (64, undef), (63, undef), (62, undef), (61, undef), (60, undef)] rfl (by kernel_rfl) ?_
      refine Gx.cons (Gx.op_load rfl (by kernel_rfl) rfl 2 (.int .i64 row) (by kernel_rfl) (b1.ext x4) (by kernel_rfl) ?_)
      refine Gx.pure [38, 39, 40] [41, 42, 43, 44] [(76, .bool (decide (row < (0 : Int)))), (75, .bool (decide (row < (0 : Int)))), (74, .bool (decide (row < (0 : Int))))] rfl (by kernel_rfl) ?_
      refine Gx.split (decide (row < (0 : Int))) (fun h_g76 => ?_) (fun h_g76 => ?_)
      · rw [h_g76]
        refine Gx.pure [41, 42, 43, 44] [] [(80, .bool true), (79, undef), (78, undef), (77, undef)] rfl (by kernel_rfl) ?_
        refine Gx.ops_end ?_
        rw [Gx.forget [(1, .int .i64 deep), (2, .pointer (some ⟨k1, 0, none⟩)), (80, .bool ((((((k == (0 : Int)) && ((decide (n < (1 : Int))) || (decide (n > (1000000000 : Int))))) || ((!(k == (0 : Int))) && (n != (0 : Int)))) || ((!(k == (6 : Int))) && ((decide (((ops.length : Nat) : Int) > (0 : Int))) || (row != (0 : Int))))) || (decide (row < (0 : Int)))) || (decide (row > (1000000000 : Int)))))] (by rw [h_g37, h_g41, h_g47, h_g59, h_g76]; try kernel_rfl)]
        exact hK1 _ _ _ ⟨rfl, rfl⟩
      rw [h_g76]
      refine Gx.pure [41] [42, 43, 44] [(77, .pointer (some ⟨k1, 2, none⟩))] rfl (by kernel_rfl) ?_
      refine Gx.cons (Gx.op_load rfl (by kernel_rfl) rfl 2 (.int .i64 row) (by kernel_rfl) (b1.ext x4) (by kernel_rfl) ?_)
      refine Gx.pure [43, 44] [] [(80, .bool (decide (row > (1000000000 : Int)))), (79, .bool (decide (row > (1000000000 : Int))))] rfl (by kernel_rfl) ?_
      refine Gx.ops_end ?_
      rw [Gx.forget [(1, .int .i64 deep), (2, .pointer (some ⟨k1, 0, none⟩)), (80, .bool ((((((k == (0 : Int)) && ((decide (n < (1 : Int))) || (decide (n > (1000000000 : Int))))) || ((!(k == (0 : Int))) && (n != (0 : Int)))) || ((!(k == (6 : Int))) && ((decide (((ops.length : Nat) : Int) > (0 : Int))) || (row != (0 : Int))))) || (decide (row < (0 : Int)))) || (decide (row > (1000000000 : Int)))))] (by rw [h_g37, h_g41, h_g47, h_g59, h_g76]; try kernel_rfl)]
      exact hK1 _ _ _ ⟨rfl, rfl⟩
    rw [h_g37]
    refine Gx.pure [2, 3, 4, 5, 6, 7, 8, 9, 10, 11, 12, 13, 14, 15] [16, 17, 18, 19, 20, 21, 22, 23, 24, 25, 26, 27, 28, 29, 30, 31, 32, 33, 34, 35, 36, 37, 38, 39, 40, 41, 42, 43, 44] [(51, .pointer (some ⟨k1, 1, none⟩)), (50, .bool true), (49, .bool true), (48, .bool false), (47, .bool false), (46, .bool false), (45, undef), (44, undef), (43, undef), (42, undef), (41, undef), (40, undef), (39, undef), (38, undef)] rfl (by kernel_rfl) ?_
    refine Gx.cons (Gx.op_load rfl (by kernel_rfl) rfl 1 (.int .i64 n) (by kernel_rfl) (b1.ext x4) (by kernel_rfl) ?_)
    refine Gx.pure [17, 18, 19, 20] [21, 22, 23, 24, 25, 26, 27, 28, 29, 30, 31, 32, 33, 34, 35, 36, 37, 38, 39, 40, 41, 42, 43, 44] [(56, .bool (n != (0 : Int))), (55, .bool (n != (0 : Int))), (54, .bool (n != (0 : Int))), (53, .bool (n != (0 : Int)))] rfl (by kernel_rfl) ?_
    refine Gx.split (n != (0 : Int)) (fun h_g56 => ?_) (fun h_g56 => ?_)
    · rw [h_g56]
      refine Gx.pure [21, 22, 23, 24, 25, 26, 27, 28, 29, 30, 31, 32, 33, 34, 35, 36, 37, 38, 39, 40, 41, 42, 43, 44] [] [(80, .bool true), (79, undef), (78, undef), (77, undef), (76, .bool true), (75, .bool true), (74, undef), (73, undef), (72, undef), (71, .bool true), (70, .bool true), (69, undef), (68, undef), (67, undef), (66, undef), (65, undef), (64, undef), (63, undef), (62, undef), (61, undef), (60, undef), (59, undef), (58, undef), (57, undef)] rfl (by kernel_rfl) ?_
      refine Gx.ops_end ?_
      rw [Gx.forget [(1, .int .i64 deep), (2, .pointer (some ⟨k1, 0, none⟩)), (80, .bool ((((((k == (0 : Int)) && ((decide (n < (1 : Int))) || (decide (n > (1000000000 : Int))))) || ((!(k == (0 : Int))) && (n != (0 : Int)))) || ((!(k == (6 : Int))) && ((decide (((ops.length : Nat) : Int) > (0 : Int))) || (row != (0 : Int))))) || (decide (row < (0 : Int)))) || (decide (row > (1000000000 : Int)))))] (by rw [h_g37, h_g56]; try kernel_rfl)]
      exact hK1 _ _ _ ⟨rfl, rfl⟩
    rw [h_g56]
    refine Gx.pure [21, 22, 23] [24, 25, 26, 27, 28, 29, 30, 31, 32, 33, 34, 35, 36, 37, 38, 39, 40, 41, 42, 43, 44] [(59, .bool (!(k == (6 : Int)))), (58, .bool (!(k == (6 : Int)))), (57, .bool (k == (6 : Int)))] rfl (by kernel_rfl) ?_
    refine Gx.split (!(k == (6 : Int))) (fun h_g59 => ?_) (fun h_g59 => ?_)
    · rw [h_g59]
      refine Gx.pure [24] [25, 26, 27, 28, 29, 30, 31, 32, 33, 34, 35, 36, 37, 38, 39, 40, 41, 42, 43, 44] [(60, .pointer (some ⟨k1, 3, none⟩))] rfl (by kernel_rfl) ?_
      refine Gx.cons (Gx.op_load rfl (by kernel_rfl) rfl 3 (.slice A1 ops.length c1) (by kernel_rfl) (b1.ext x4) (by kernel_rfl) ?_)
      refine Gx.pure [26, 27, 28] [29, 30, 31, 32, 33, 34, 35, 36, 37, 38, 39, 40, 41, 42, 43, 44] [(64, .bool (decide (((ops.length : Nat) : Int) > (0 : Int)))), (63, .bool (decide (((ops.length : Nat) : Int) > (0 : Int)))), (62, .int .i64 ((ops.length : Nat) : Int))] rfl (by kernel_rfl) ?_
      refine Gx.split (decide (((ops.length : Nat) : Int) > (0 : Int))) (fun h_g64 => ?_) (fun h_g64 => ?_)
      · rw [h_g64]
        refine Gx.pure [29, 30, 31, 32, 33, 34, 35, 36, 37, 38, 39, 40, 41, 42, 43, 44] [] [(80, .bool true), (79, undef), (78, undef), (77, undef), (76, .bool true), (75, .bool true), (74, undef), (73, undef), (72, undef), (71, .bool true), (70, .bool true), (69, .bool true), (68, .bool true), (67, undef), (66, undef), (65, undef)] rfl (by kernel_rfl) ?_
        refine Gx.ops_end ?_
        rw [Gx.forget [(1, .int .i64 deep), (2, .pointer (some ⟨k1, 0, none⟩)), (80, .bool ((((((k == (0 : Int)) && ((decide (n < (1 : Int))) || (decide (n > (1000000000 : Int))))) || ((!(k == (0 : Int))) && (n != (0 : Int)))) || ((!(k == (6 : Int))) && ((decide (((ops.length : Nat) : Int) > (0 : Int))) || (row != (0 : Int))))) || (decide (row < (0 : Int)))) || (decide (row > (1000000000 : Int)))))] (by rw [h_g37, h_g56, h_g59, h_g64]; try kernel_rfl)]
        exact hK1 _ _ _ ⟨rfl, rfl⟩
      rw [h_g64]
      refine Gx.pure [29] [30, 31, 32, 33, 34, 35, 36, 37, 38, 39, 40, 41, 42, 43, 44] [(65, .pointer (some ⟨k1, 2, none⟩))] rfl (by kernel_rfl) ?_
      refine Gx.cons (Gx.op_load rfl (by kernel_rfl) rfl 2 (.int .i64 row) (by kernel_rfl) (b1.ext x4) (by kernel_rfl) ?_)
      refine Gx.pure [31, 32, 33, 34, 35] [36, 37, 38, 39, 40, 41, 42, 43, 44] [(71, .bool (row != (0 : Int))), (70, .bool (row != (0 : Int))), (69, .bool (row != (0 : Int))), (68, .bool (row != (0 : Int))), (67, .bool (row != (0 : Int)))] rfl (by kernel_rfl) ?_
      refine Gx.split (row != (0 : Int)) (fun h_g71 => ?_) (fun h_g71 => ?_)
      · rw [h_g71]
        refine Gx.pure [36, 37, 38, 39, 40, 41, 42, 43, 44] [] [(80, .bool true), (79, undef), (78, undef), (77, undef), (76, .bool true), (75, .bool true), (74, undef), (73, undef), (72, undef)] rfl (by kernel_rfl) ?_
        refine Gx.ops_end ?_
        rw [Gx.forget [(1, .int .i64 deep), (2, .pointer (some ⟨k1, 0, none⟩)), (80, .bool ((((((k == (0 : Int)) && ((decide (n < (1 : Int))) || (decide (n > (1000000000 : Int))))) || ((!(k == (0 : Int))) && (n != (0 : Int)))) || ((!(k == (6 : Int))) && ((decide (((ops.length : Nat) : Int) > (0 : Int))) || (row != (0 : Int))))) || (decide (row < (0 : Int)))) || (decide (row > (1000000000 : Int)))))] (by rw [h_g37, h_g56, h_g59, h_g64, h_g71]; try kernel_rfl)]
        exact hK1 _ _ _ ⟨rfl, rfl⟩
      rw [h_g71]
      refine Gx.pure [36] [37, 38, 39, 40, 41, 42, 43, 44] [(72, .pointer (some ⟨k1, 2, none⟩))] rfl (by kernel_rfl) ?_
      refine Gx.cons (Gx.op_load rfl (by kernel_rfl) rfl 2 (.int .i64 row) (by kernel_rfl) (b1.ext x4) (by kernel_rfl) ?_)
      refine Gx.pure [38, 39, 40] [41, 42, 43, 44] [(76, .bool (decide (row < (0 : Int)))), (75, .bool (decide (row < (0 : Int)))), (74, .bool (decide (row < (0 : Int))))] rfl (by kernel_rfl) ?_
      refine Gx.split (decide (row < (0 : Int))) (fun h_g76 => ?_) (fun h_g76 => ?_)
      · rw [h_g76]
        refine Gx.pure [41, 42, 43, 44] [] [(80, .bool true), (79, undef), (78, undef), (77, undef)] rfl (by kernel_rfl) ?_
        refine Gx.ops_end ?_
        rw [Gx.forget [(1, .int .i64 deep), (2, .pointer (some ⟨k1, 0, none⟩)), (80, .bool ((((((k == (0 : Int)) && ((decide (n < (1 : Int))) || (decide (n > (1000000000 : Int))))) || ((!(k == (0 : Int))) && (n != (0 : Int)))) || ((!(k == (6 : Int))) && ((decide (((ops.length : Nat) : Int) > (0 : Int))) || (row != (0 : Int))))) || (decide (row < (0 : Int)))) || (decide (row > (1000000000 : Int)))))] (by rw [h_g37, h_g56, h_g59, h_g64, h_g71, h_g76]; try kernel_rfl)]
        exact hK1 _ _ _ ⟨rfl, rfl⟩
      rw [h_g76]
      refine Gx.pure [41] [42, 43, 44] [(77, .pointer (some ⟨k1, 2, none⟩))] rfl (by kernel_rfl) ?_
      refine Gx.cons (Gx.op_load rfl (by kernel_rfl) rfl 2 (.int .i64 row) (by kernel_rfl) (b1.ext x4) (by kernel_rfl) ?_)
      refine Gx.pure [43, 44] [] [(80, .bool (decide (row > (1000000000 : Int)))), (79, .bool (decide (row > (1000000000 : Int))))] rfl (by kernel_rfl) ?_
      refine Gx.ops_end ?_
      rw [Gx.forget [(1, .int .i64 deep), (2, .pointer (some ⟨k1, 0, none⟩)), (80, .bool ((((((k == (0 : Int)) && ((decide (n < (1 : Int))) || (decide (n > (1000000000 : Int))))) || ((!(k == (0 : Int))) && (n != (0 : Int)))) || ((!(k == (6 : Int))) && ((decide (((ops.length : Nat) : Int) > (0 : Int))) || (row != (0 : Int))))) || (decide (row < (0 : Int)))) || (decide (row > (1000000000 : Int)))))] (by rw [h_g37, h_g56, h_g59, h_g64, h_g71, h_g76]; try kernel_rfl)]
      exact hK1 _ _ _ ⟨rfl, rfl⟩
    rw [h_g59]
    refine Gx.pure [24, 25, 26, 27, 28, 29, 30, 31, 32, 33, 34, 35, 36] [37, 38, 39, 40, 41, 42, 43, 44] [(72, .pointer (some ⟨k1, 2, none⟩)), (71, .bool false), (70, .bool false), (69, .bool false), (68, undef), (67, undef), (66, undef), (65, undef), (64, undef), (63, undef), (62, undef), (61, undef), (60, undef)] rfl (by kernel_rfl) ?_
    refine Gx.cons (Gx.op_load rfl (by kernel_rfl) rfl 2 (.int .i64 row) (by kernel_rfl) (b1.ext x4) (by kernel_rfl) ?_)
    refine Gx.pure [38, 39, 40] [41, 42, 43, 44] [(76, .bool (decide (row < (0 : Int)))), (75, .bool (decide (row < (0 : Int)))), (74, .bool (decide (row < (0 : Int))))] rfl (by kernel_rfl) ?_
    refine Gx.split (decide (row < (0 : Int))) (fun h_g76 => ?_) (fun h_g76 => ?_)
    · rw [h_g76]
      refine Gx.pure [41, 42, 43, 44] [] [(80, .bool true), (79, undef), (78, undef), (77, undef)] rfl (by kernel_rfl) ?_
      refine Gx.ops_end ?_
      rw [Gx.forget [(1, .int .i64 deep), (2, .pointer (some ⟨k1, 0, none⟩)), (80, .bool ((((((k == (0 : Int)) && ((decide (n < (1 : Int))) || (decide (n > (1000000000 : Int))))) || ((!(k == (0 : Int))) && (n != (0 : Int)))) || ((!(k == (6 : Int))) && ((decide (((ops.length : Nat) : Int) > (0 : Int))) || (row != (0 : Int))))) || (decide (row < (0 : Int)))) || (decide (row > (1000000000 : Int)))))] (by rw [h_g37, h_g56, h_g59, h_g76]; try kernel_rfl)]
      exact hK1 _ _ _ ⟨rfl, rfl⟩
    rw [h_g76]
    refine Gx.pure [41] [42, 43, 44] [(77, .pointer (some ⟨k1, 2, none⟩))] rfl (by kernel_rfl) ?_
    refine Gx.cons (Gx.op_load rfl (by kernel_rfl) rfl 2 (.int .i64 row) (by kernel_rfl) (b1.ext x4) (by kernel_rfl) ?_)
    refine Gx.pure [43, 44] [] [(80, .bool (decide (row > (1000000000 : Int)))), (79, .bool (decide (row > (1000000000 : Int))))] rfl (by kernel_rfl) ?_
    refine Gx.ops_end ?_
    rw [Gx.forget [(1, .int .i64 deep), (2, .pointer (some ⟨k1, 0, none⟩)), (80, .bool ((((((k == (0 : Int)) && ((decide (n < (1 : Int))) || (decide (n > (1000000000 : Int))))) || ((!(k == (0 : Int))) && (n != (0 : Int)))) || ((!(k == (6 : Int))) && ((decide (((ops.length : Nat) : Int) > (0 : Int))) || (row != (0 : Int))))) || (decide (row < (0 : Int)))) || (decide (row > (1000000000 : Int)))))] (by rw [h_g37, h_g56, h_g59, h_g76]; try kernel_rfl)]
    exact hK1 _ _ _ ⟨rfl, rfl⟩
  obtain ⟨rfl, rfl⟩ := hI1
  refine Gx.cond ((((((k == (0 : Int)) && ((decide (n < (1 : Int))) || (decide (n > (1000000000 : Int))))) || ((!(k == (0 : Int))) && (n != (0 : Int)))) || ((!(k == (6 : Int))) && ((decide (((ops.length : Nat) : Int) > (0 : Int))) || (row != (0 : Int))))) || (decide (row < (0 : Int)))) || (decide (row > (1000000000 : Int)))) (by kernel_rfl) (fun h_c80 => ?_) (fun h_c80 => ?_)
  · skip
    refine Gx.seq_run [(5, .bool false), (4, .int .i64 0)] (by kernel_rfl) ?_
    refine wp_ret ?_
    refine Gx.then_ret ?_
    refine Gx.ret (Gx.res2 (v := .int .i64 0) (u := .bool false) rfl (by kernel_rfl) (by kernel_rfl)) ?_
    have p_d1 := h_d1; try simp [-List.getD_eq_getElem?_getD] at p_d1
    have p_d2 := h_d2; try simp [-List.getD_eq_getElem?_getD] at p_d2
    have p_c29 := h_c29; try simp [-List.getD_eq_getElem?_getD] at p_c29
    have p_c80 := h_c80; try simp [-List.getD_eq_getElem?_getD] at p_c80
    exact hK _ (((Gx.Ext.refl w).trans x1).trans x4) (0 : Int) false (fun h => by cases h) (by omega)
  refine wp_skip ?_
  refine Gx.then_normal ?_
  refine wp_seq ?_
  refine Gx.seq_run [(8, .int .i64 0)] (by kernel_rfl) ?_
  refine wp_block ?_
  have p_d1 := h_d1; try simp [-List.getD_eq_getElem?_getD] at p_d1
  have p_d2 := h_d2; try simp [-List.getD_eq_getElem?_getD] at p_d2
  have p_c29 := h_c29; try simp [-List.getD_eq_getElem?_getD] at p_c29
  have p_c80 := h_c80; try simp [-List.getD_eq_getElem?_getD] at p_c80
  refine Gx.loop (n' := 145) (d' := []) (fun mz l' w' => ∃ (i : Nat), l' = [(1, .int .i64 deep), (2, .pointer (some ⟨k1, 0, none⟩)), (8, .int .i64 ((i : Nat) : Int))] ∧ mz = ops.length - i ∧ Gx.Ext w w' ∧ Gx.Has w' k1 (.cells #[.int .i64 k, .int .i64 n, .int .i64 row, .slice A1 ops.length c1, .slice A2 args.length c2] 25) ∧ (i ≤ ops.length)) _ _ [(1, .int .i64 deep), (2, .pointer (some ⟨k1, 0, none⟩)), (8, .int .i64 ((0 : Nat) : Int))] (Gx.forget [(1, .int .i64 deep), (2, .pointer (some ⟨k1, 0, none⟩)), (8, .int .i64 ((0 : Nat) : Int))] (by kernel_rfl)) ⟨0, rfl, rfl, (((Gx.Ext.refl w).trans x1).trans x4), (b1.ext x4), (Nat.zero_le _)⟩ (fun bb2 m1 ll2 w6 hI2 K2 hK2 => ?_)
  obtain ⟨i, rfl, rfl, x5, b2, hi⟩ := hI2
  have zw6 := x5.size
  have tb2 := b2.lt
  refine wp_seq ?_
  refine Gx.seq_reg [0, 1, 2, 3, 4] (by kernel_rfl) ?_
  refine Gx.pure [0, 1] [2, 3, 4] [(82, .pointer (some ⟨k1, 3, none⟩)), (81, .int .i64 ((i : Nat) : Int))] rfl (by kernel_rfl) ?_
  refine Gx.cons (Gx.op_load rfl (by kernel_rfl) rfl 3 (.slice A1 ops.length c1) (by kernel_rfl) b2 (by kernel_rfl) ?_)
  refine Gx.pure [3, 4] [] [(85, .bool (decide (((i : Nat) : Int) < ((ops.length : Nat) : Int)))), (84, .int .i64 ((ops.length : Nat) : Int))] rfl (by kernel_rfl) ?_
  refine Gx.ops_end ?_
  refine Gx.cond (decide (((i : Nat) : Int) < ((ops.length : Nat) : Int))) (by kernel_rfl) (fun h_c85 => ?_) (fun h_c85 => ?_)
  · skip
    refine wp_skip ?_
    refine Gx.then_normal ?_
    refine wp_seq ?_
    refine wp_block ?_
    refine wp_seq ?_
    refine Gx.splitC ((ops.getD i e0).toList == (⟨#[]⟩ : ByteArray).toList) (fun h_d3 => ?_) (fun h_d3 => ?_)
    · skip
      refine Gx.draw (S := fun w' => Gx.Has w' k1 (.cells #[.int .i64 k, .int .i64 n, .int .i64 row, .slice A1 ops.length c1, .slice A2 args.length c2] 25) ∧ Gx.Ext w w') (by kernel_rfl) (fun w7 x6 => ?_)
      have zw7 := x6.size
      refine Gx.any_take 0 (.pointer (some ⟨k1, 3, none⟩)) rfl (by kernel_rfl) (by kernel_rfl) (by kernel_rfl) (fun _ _ _ h => h) ⟨(b2.ext x6), (((Gx.Ext.refl w).trans x5).trans x6)⟩ (by kernel_rfl) (fun _ _ => (by kernel_rfl)) ?_
      refine Gx.any_take 1 (.slice A1 ops.length c1) rfl (by kernel_rfl) (by kernel_rfl) (by kernel_rfl) (fun _ _ _ h => h) ⟨(b2.ext x6), (((Gx.Ext.refl w).trans x5).trans x6)⟩ (by kernel_rfl) (fun _ hs => Gx.run_load rfl 3 (.slice A1 ops.length c1) (by kernel_rfl) hs.1 (by kernel_rfl)) ?_
      refine Gx.any_take 2 (.int .i64 ((i : Nat) : Int)) rfl (by kernel_rfl) (by kernel_rfl) (by kernel_rfl) (fun _ _ _ h => h) ⟨(b2.ext x6), (((Gx.Ext.refl w).trans x5).trans x6)⟩ (by kernel_rfl) (fun _ _ => (by kernel_rfl)) ?_
      have p_c85 := h_c85; try simp [-List.getD_eq_getElem?_getD] at p_c85
      have p_d3 := h_d3; try simp [-List.getD_eq_getElem?_getD] at p_d3
      obtain ⟨a1, ha1, hc1⟩ := (Gx.Rd.ext ho (by decide) hE) i (by omega)
      refine Gx.any_take 3 (.pointer (some (a1.add (i * 1)))) rfl (by kernel_rfl) (by kernel_rfl) (by kernel_rfl) (fun _ _ _ h => h) ⟨(b2.ext x6), (((Gx.Ext.refl w).trans x5).trans x6)⟩ (by kernel_rfl) (fun _ _ => Gx.run_indexAddrO rfl 9 1 (by kernel_rfl) (by kernel_rfl) a1 ha1 ops.length c1 (by kernel_rfl) .i64 i (by kernel_rfl) (by omega)) ?_
      refine Gx.any_take 4 (.string (ops.getD i e0)) rfl (by kernel_rfl) (by kernel_rfl) (by kernel_rfl) (fun _ _ _ h => h) ⟨(b2.ext x6), (((Gx.Ext.refl w).trans x5).trans x6)⟩ (by kernel_rfl) (fun _ hs => Gx.run_loadO rfl [.string (ops.getD i e0)] (.string (ops.getD i e0)) (by kernel_rfl) 1 (Gx.cells_ext hc1 (by decide) hs.2) (by kernel_rfl) (by kernel_rfl)) ?_
      refine Gx.any_take_as 5 (.bool ((ops.getD i e0).toList == (⟨#[]⟩ : ByteArray).toList)) (.bool true) (by rw [h_d3]) rfl (by kernel_rfl) (by kernel_rfl) (by kernel_rfl) (fun _ _ _ h => h) ⟨(b2.ext x6), (((Gx.Ext.refl w).trans x5).trans x6)⟩ (by kernel_rfl) (fun _ _ => (by kernel_rfl)) ?_
      refine Gx.any_take 6 (.bool true) rfl (by kernel_rfl) (by kernel_rfl) (by kernel_rfl) (fun _ _ _ h => h) ⟨(b2.ext x6), (((Gx.Ext.refl w).trans x5).trans x6)⟩ (by kernel_rfl) (fun _ _ => (by kernel_rfl)) ?_
      refine Gx.any_skip 7 rfl (by kernel_rfl) (by kernel_rfl) (by kernel_rfl) (fun _ _ _ h => h) ⟨(b2.ext x6), (((Gx.Ext.refl w).trans x5).trans x6)⟩ (by kernel_rfl) ?_
      refine Gx.any_skip 8 rfl (by kernel_rfl) (by kernel_rfl) (by kernel_rfl) (fun _ _ _ h => h) ⟨(b2.ext x6), (((Gx.Ext.refl w).trans x5).trans x6)⟩ (by kernel_rfl) ?_
      refine Gx.any_skip 9 rfl (by kernel_rfl) (by kernel_rfl) (by kernel_rfl) (fun _ _ _ h => h) ⟨(b2.ext x6), (((Gx.Ext.refl w).trans x5).trans x6)⟩ (by kernel_rfl) ?_
      refine Gx.any_skip 10 rfl (by kernel_rfl) (by kernel_rfl) (by kernel_rfl) (fun _ _ _ h => h) ⟨(b2.ext x6), (((Gx.Ext.refl w).trans x5).trans x6)⟩ (by kernel_rfl) ?_
      refine Gx.any_skip 11 rfl (by kernel_rfl) (by kernel_rfl) (by kernel_rfl) (fun _ _ _ h => h) ⟨(b2.ext x6), (((Gx.Ext.refl w).trans x5).trans x6)⟩ (by kernel_rfl) ?_
      refine Gx.any_skip 12 rfl (by kernel_rfl) (by kernel_rfl) (by kernel_rfl) (fun _ _ _ h => h) ⟨(b2.ext x6), (((Gx.Ext.refl w).trans x5).trans x6)⟩ (by kernel_rfl) ?_
      refine Gx.any_skip 13 rfl (by kernel_rfl) (by kernel_rfl) (by kernel_rfl) (fun _ _ _ h => h) ⟨(b2.ext x6), (((Gx.Ext.refl w).trans x5).trans x6)⟩ (by kernel_rfl) ?_
      refine Gx.any_skip 14 rfl (by kernel_rfl) (by kernel_rfl) (by kernel_rfl) (fun _ _ _ h => h) ⟨(b2.ext x6), (((Gx.Ext.refl w).trans x5).trans x6)⟩ (by kernel_rfl) ?_
      refine Gx.any_skip 15 rfl (by kernel_rfl) (by kernel_rfl) (by kernel_rfl) (fun _ _ _ h => h) ⟨(b2.ext x6), (((Gx.Ext.refl w).trans x5).trans x6)⟩ (by kernel_rfl) ?_
      refine Gx.any_skip 16 rfl (by kernel_rfl) (by kernel_rfl) (by kernel_rfl) (fun _ _ _ h => h) ⟨(b2.ext x6), (((Gx.Ext.refl w).trans x5).trans x6)⟩ (by kernel_rfl) ?_
      refine Gx.any_skip 17 rfl (by kernel_rfl) (by kernel_rfl) (by kernel_rfl) (fun _ _ _ h => h) ⟨(b2.ext x6), (((Gx.Ext.refl w).trans x5).trans x6)⟩ (by kernel_rfl) ?_
      refine Gx.any_skip 18 rfl (by kernel_rfl) (by kernel_rfl) (by kernel_rfl) (fun _ _ _ h => h) ⟨(b2.ext x6), (((Gx.Ext.refl w).trans x5).trans x6)⟩ (by kernel_rfl) ?_
      refine Gx.any_skip 19 rfl (by kernel_rfl) (by kernel_rfl) (by kernel_rfl) (fun _ _ _ h => h) ⟨(b2.ext x6), (((Gx.Ext.refl w).trans x5).trans x6)⟩ (by kernel_rfl) ?_
      refine Gx.any_skip 20 rfl (by kernel_rfl) (by kernel_rfl) (by kernel_rfl) (fun _ _ _ h => h) ⟨(b2.ext x6), (((Gx.Ext.refl w).trans x5).trans x6)⟩ (by kernel_rfl) ?_
      refine Gx.any_skip 21 rfl (by kernel_rfl) (by kernel_rfl) (by kernel_rfl) (fun _ _ _ h => h) ⟨(b2.ext x6), (((Gx.Ext.refl w).trans x5).trans x6)⟩ (by kernel_rfl) ?_
      refine Gx.any_skip 22 rfl (by kernel_rfl) (by kernel_rfl) (by kernel_rfl) (fun _ _ _ h => h) ⟨(b2.ext x6), (((Gx.Ext.refl w).trans x5).trans x6)⟩ (by kernel_rfl) ?_
      refine Gx.any_take 23 (.bool true) rfl (by kernel_rfl) (by kernel_rfl) (by kernel_rfl) (fun _ _ _ h => h) ⟨(b2.ext x6), (((Gx.Ext.refl w).trans x5).trans x6)⟩ (by kernel_rfl) (fun _ _ => (by kernel_rfl)) ?_
      refine Gx.any_done (by kernel_rfl) ?_
      refine Gx.then_normal ?_
      refine Gx.cond_t (by kernel_rfl) ?_
      refine Gx.seq_run [(5, .bool false), (4, .int .i64 0)] (by kernel_rfl) ?_
      refine wp_ret ?_
      refine Gx.block_ret ?_
      refine Gx.then_ret ?_
      refine Gx.then_ret ?_
      refine Gx.block_ret ?_
      refine Gx.then_ret ?_
      refine Gx.ret (Gx.res2 (v := .int .i64 0) (u := .bool false) rfl (by kernel_rfl) (by kernel_rfl)) ?_
      exact hK _ (((Gx.Ext.refl w).trans x5).trans x6) (0 : Int) false (fun h => by cases h) (by omega)
    refine Gx.splitC (decide (((i : Nat) : Int) > (0 : Int))) (fun h_d4 => ?_) (fun h_d4 => ?_)
    · skip
      refine Gx.draw (S := fun w' => Gx.Has w' k1 (.cells #[.int .i64 k, .int .i64 n, .int .i64 row, .slice A1 ops.length c1, .slice A2 args.length c2] 25) ∧ Gx.Ext w w') (by kernel_rfl) (fun w8 x7 => ?_)
      have zw8 := x7.size
      refine Gx.any_take 0 (.pointer (some ⟨k1, 3, none⟩)) rfl (by kernel_rfl) (by kernel_rfl) (by kernel_rfl) (fun _ _ _ h => h) ⟨(b2.ext x7), (((Gx.Ext.refl w).trans x5).trans x7)⟩ (by kernel_rfl) (fun _ _ => (by kernel_rfl)) ?_
      refine Gx.any_take 1 (.slice A1 ops.length c1) rfl (by kernel_rfl) (by kernel_rfl) (by kernel_rfl) (fun _ _ _ h => h) ⟨(b2.ext x7), (((Gx.Ext.refl w).trans x5).trans x7)⟩ (by kernel_rfl) (fun _ hs => Gx.run_load rfl 3 (.slice A1 ops.length c1) (by kernel_rfl) hs.1 (by kernel_rfl)) ?_
      refine Gx.any_take 2 (.int .i64 ((i : Nat) : Int)) rfl (by kernel_rfl) (by kernel_rfl) (by kernel_rfl) (fun _ _ _ h => h) ⟨(b2.ext x7), (((Gx.Ext.refl w).trans x5).trans x7)⟩ (by kernel_rfl) (fun _ _ => (by kernel_rfl)) ?_
      have p_c85 := h_c85; try simp [-List.getD_eq_getElem?_getD] at p_c85
      have p_d3 := h_d3; try simp [-List.getD_eq_getElem?_getD] at p_d3
      have p_d4 := h_d4; try simp [-List.getD_eq_getElem?_getD] at p_d4
      obtain ⟨a2, ha2, hc2⟩ := (Gx.Rd.ext ho (by decide) hE) i (by omega)
      refine Gx.any_take 3 (.pointer (some (a2.add (i * 1)))) rfl (by kernel_rfl) (by kernel_rfl) (by kernel_rfl) (fun _ _ _ h => h) ⟨(b2.ext x7), (((Gx.Ext.refl w).trans x5).trans x7)⟩ (by kernel_rfl) (fun _ _ => Gx.run_indexAddrO rfl 9 1 (by kernel_rfl) (by kernel_rfl) a2 ha2 ops.length c1 (by kernel_rfl) .i64 i (by kernel_rfl) (by omega)) ?_
      refine Gx.any_take 4 (.string (ops.getD i e0)) rfl (by kernel_rfl) (by kernel_rfl) (by kernel_rfl) (fun _ _ _ h => h) ⟨(b2.ext x7), (((Gx.Ext.refl w).trans x5).trans x7)⟩ (by kernel_rfl) (fun _ hs => Gx.run_loadO rfl [.string (ops.getD i e0)] (.string (ops.getD i e0)) (by kernel_rfl) 1 (Gx.cells_ext hc2 (by decide) hs.2) (by kernel_rfl) (by kernel_rfl)) ?_
      refine Gx.any_take_as 5 (.bool ((ops.getD i e0).toList == (⟨#[]⟩ : ByteArray).toList)) (.bool false) (by rw [h_d3]) rfl (by kernel_rfl) (by kernel_rfl) (by kernel_rfl) (fun _ _ _ h => h) ⟨(b2.ext x7), (((Gx.Ext.refl w).trans x5).trans x7)⟩ (by kernel_rfl) (fun _ _ => (by kernel_rfl)) ?_
      refine Gx.any_take 6 (.bool false) rfl (by kernel_rfl) (by kernel_rfl) (by kernel_rfl) (fun _ _ _ h => h) ⟨(b2.ext x7), (((Gx.Ext.refl w).trans x5).trans x7)⟩ (by kernel_rfl) (fun _ _ => (by kernel_rfl)) ?_
      refine Gx.any_take 7 (.int .i64 ((i : Nat) : Int)) rfl (by kernel_rfl) (by kernel_rfl) (by kernel_rfl) (fun _ _ _ h => h) ⟨(b2.ext x7), (((Gx.Ext.refl w).trans x5).trans x7)⟩ (by kernel_rfl) (fun _ _ => (by kernel_rfl)) ?_
      refine Gx.any_take_as 8 (.bool (decide (((i : Nat) : Int) > (0 : Int)))) (.bool true) (by rw [h_d4]) rfl (by kernel_rfl) (by kernel_rfl) (by kernel_rfl) (fun _ _ _ h => h) ⟨(b2.ext x7), (((Gx.Ext.refl w).trans x5).trans x7)⟩ (by kernel_rfl) (fun _ _ => (by kernel_rfl)) ?_
      refine Gx.any_take 9 (.bool true) rfl (by kernel_rfl) (by kernel_rfl) (by kernel_rfl) (fun _ _ _ h => h) ⟨(b2.ext x7), (((Gx.Ext.refl w).trans x5).trans x7)⟩ (by kernel_rfl) (fun _ _ => (by kernel_rfl)) ?_
      refine Gx.any_take 10 (.pointer (some ⟨k1, 3, none⟩)) rfl (by kernel_rfl) (by kernel_rfl) (by kernel_rfl) (fun _ _ _ h => h) ⟨(b2.ext x7), (((Gx.Ext.refl w).trans x5).trans x7)⟩ (by kernel_rfl) (fun _ _ => (by kernel_rfl)) ?_
      refine Gx.any_take 11 (.slice A1 ops.length c1) rfl (by kernel_rfl) (by kernel_rfl) (by kernel_rfl) (fun _ _ _ h => h) ⟨(b2.ext x7), (((Gx.Ext.refl w).trans x5).trans x7)⟩ (by kernel_rfl) (fun _ hs => Gx.run_load rfl 3 (.slice A1 ops.length c1) (by kernel_rfl) hs.1 (by kernel_rfl)) ?_
      refine Gx.any_take 12 (.int .i64 ((i : Nat) : Int)) rfl (by kernel_rfl) (by kernel_rfl) (by kernel_rfl) (fun _ _ _ h => h) ⟨(b2.ext x7), (((Gx.Ext.refl w).trans x5).trans x7)⟩ (by kernel_rfl) (fun _ _ => (by kernel_rfl)) ?_
      refine Gx.any_take_as 13 (.int .i64 (IntKind.i64.wrap (((i : Nat) : Int) - (1 : Int)))) (.int .i64 ((i - 1 : Nat) : Int)) (congrArg (Value.int .i64) (by rw [IntWalk.i64_in _ (by omega)]; omega)) rfl (by kernel_rfl) (by kernel_rfl) (by kernel_rfl) (fun _ _ _ h => h) ⟨(b2.ext x7), (((Gx.Ext.refl w).trans x5).trans x7)⟩ (by kernel_rfl) (fun _ _ => (by kernel_rfl)) ?_
      obtain ⟨a3, ha3, hc3⟩ := (Gx.Rd.ext ho (by decide) hE) (i - 1) (by omega)
      refine Gx.any_take 14 (.pointer (some (a3.add ((i - 1) * 1)))) rfl (by kernel_rfl) (by kernel_rfl) (by kernel_rfl) (fun _ _ _ h => h) ⟨(b2.ext x7), (((Gx.Ext.refl w).trans x5).trans x7)⟩ (by kernel_rfl) (fun _ _ => Gx.run_indexAddrO rfl 9 1 (by kernel_rfl) (by kernel_rfl) a3 ha3 ops.length c1 (by kernel_rfl) .i64 (i - 1) (by kernel_rfl) (by omega)) ?_
      refine Gx.any_take 15 (.string (ops.getD (i - 1) e0)) rfl (by kernel_rfl) (by kernel_rfl) (by kernel_rfl) (fun _ _ _ h => h) ⟨(b2.ext x7), (((Gx.Ext.refl w).trans x5).trans x7)⟩ (by kernel_rfl) (fun _ hs => Gx.run_loadO rfl [.string (ops.getD (i - 1) e0)] (.string (ops.getD (i - 1) e0)) (by kernel_rfl) 1 (Gx.cells_ext hc3 (by decide) hs.2) (by kernel_rfl) (by kernel_rfl)) ?_
      refine Gx.any_take 16 (.pointer (some ⟨k1, 3, none⟩)) rfl (by kernel_rfl) (by kernel_rfl) (by kernel_rfl) (fun _ _ _ h => h) ⟨(b2.ext x7), (((Gx.Ext.refl w).trans x5).trans x7)⟩ (by kernel_rfl) (fun _ _ => (by kernel_rfl)) ?_
      refine Gx.any_take 17 (.slice A1 ops.length c1) rfl (by kernel_rfl) (by kernel_rfl) (by kernel_rfl) (fun _ _ _ h => h) ⟨(b2.ext x7), (((Gx.Ext.refl w).trans x5).trans x7)⟩ (by kernel_rfl) (fun _ hs => Gx.run_load rfl 3 (.slice A1 ops.length c1) (by kernel_rfl) hs.1 (by kernel_rfl)) ?_
      refine Gx.any_take 18 (.int .i64 ((i : Nat) : Int)) rfl (by kernel_rfl) (by kernel_rfl) (by kernel_rfl) (fun _ _ _ h => h) ⟨(b2.ext x7), (((Gx.Ext.refl w).trans x5).trans x7)⟩ (by kernel_rfl) (fun _ _ => (by kernel_rfl)) ?_
      obtain ⟨a4, ha4, hc4⟩ := (Gx.Rd.ext ho (by decide) hE) i (by omega)
      refine Gx.any_take 19 (.pointer (some (a4.add (i * 1)))) rfl (by kernel_rfl) (by kernel_rfl) (by kernel_rfl) (fun _ _ _ h => h) ⟨(b2.ext x7), (((Gx.Ext.refl w).trans x5).trans x7)⟩ (by kernel_rfl) (fun _ _ => Gx.run_indexAddrO rfl 9 1 (by kernel_rfl) (by kernel_rfl) a4 ha4 ops.length c1 (by kernel_rfl) .i64 i (by kernel_rfl) (by omega)) ?_
      refine Gx.any_take 20 (.string (ops.getD i e0)) rfl (by kernel_rfl) (by kernel_rfl) (by kernel_rfl) (fun _ _ _ h => h) ⟨(b2.ext x7), (((Gx.Ext.refl w).trans x5).trans x7)⟩ (by kernel_rfl) (fun _ hs => Gx.run_loadO rfl [.string (ops.getD i e0)] (.string (ops.getD i e0)) (by kernel_rfl) 1 (Gx.cells_ext hc4 (by decide) hs.2) (by kernel_rfl) (by kernel_rfl)) ?_
      refine Gx.any_take 21 (.bool (!(Go.Op.bytesLess (ops.getD (i - 1) e0).toList (ops.getD i e0).toList || ((ops.getD (i - 1) e0).toList == (ops.getD i e0).toList)))) rfl (by kernel_rfl) (by kernel_rfl) (by kernel_rfl) (fun _ _ _ h => h) ⟨(b2.ext x7), (((Gx.Ext.refl w).trans x5).trans x7)⟩ (by kernel_rfl) (fun _ _ => (by kernel_rfl)) ?_
      refine Gx.any_take 22 (.bool (!(Go.Op.bytesLess (ops.getD (i - 1) e0).toList (ops.getD i e0).toList || ((ops.getD (i - 1) e0).toList == (ops.getD i e0).toList)))) rfl (by kernel_rfl) (by kernel_rfl) (by kernel_rfl) (fun _ _ _ h => h) ⟨(b2.ext x7), (((Gx.Ext.refl w).trans x5).trans x7)⟩ (by kernel_rfl) (fun _ _ => (by kernel_rfl)) ?_
      refine Gx.any_take 23 (.bool (!(Go.Op.bytesLess (ops.getD (i - 1) e0).toList (ops.getD i e0).toList || ((ops.getD (i - 1) e0).toList == (ops.getD i e0).toList)))) rfl (by kernel_rfl) (by kernel_rfl) (by kernel_rfl) (fun _ _ _ h => h) ⟨(b2.ext x7), (((Gx.Ext.refl w).trans x5).trans x7)⟩ (by kernel_rfl) (fun _ _ => (by kernel_rfl)) ?_
      refine Gx.any_done (by kernel_rfl) ?_
      refine Gx.then_normal ?_
      refine Gx.cond (!(Go.Op.bytesLess (ops.getD (i - 1) e0).toList (ops.getD i e0).toList || ((ops.getD (i - 1) e0).toList == (ops.getD i e0).toList))) (by kernel_rfl) (fun h_c111 => ?_) (fun h_c111 => ?_)
      · skip
        refine Gx.seq_run [(5, .bool false), (4, .int .i64 0)] (by kernel_rfl) ?_
        refine wp_ret ?_
        refine Gx.block_ret ?_
        refine Gx.then_ret ?_
        refine Gx.then_ret ?_
        refine Gx.block_ret ?_
        refine Gx.then_ret ?_
        refine Gx.ret (Gx.res2 (v := .int .i64 0) (u := .bool false) rfl (by kernel_rfl) (by kernel_rfl)) ?_
        have p_c111 := h_c111; try simp [-List.getD_eq_getElem?_getD] at p_c111
        exact hK _ (((Gx.Ext.refl w).trans x5).trans x7) (0 : Int) false (fun h => by cases h) (by omega)
      refine wp_skip ?_
      refine Gx.block_normal ?_
      refine Gx.then_normal ?_
      refine Gx.reg [0, 1, 2] (by kernel_rfl) ?_
      refine Gx.pure [0] [1, 2] [(86, .int .i64 ((i : Nat) : Int))] rfl (by kernel_rfl) ?_
      have p_c111 := h_c111; try simp [-List.getD_eq_getElem?_getD] at p_c111
      refine Gx.pure_eq [1] [2] [(87, .int .i64 (IntKind.i64.wrap (((i : Nat) : Int) + (1 : Int))))] [(87, .int .i64 ((i + 1 : Nat) : Int))] rfl (by kernel_rfl) (Gx.eqI (Gx.i64n (by omega) (by omega))) ?_
      refine Gx.pure [2] [] [(8, .int .i64 ((i + 1 : Nat) : Int))] rfl (by kernel_rfl) ?_
      refine Gx.ops_nil ?_
      refine Gx.then_normal ?_
      rw [Gx.forget [(1, .int .i64 deep), (2, .pointer (some ⟨k1, 0, none⟩)), (8, .int .i64 (((i + 1) : Nat) : Int))] (by kernel_rfl)]
      exact hK2 _ _ _ _ (by omega) ⟨(i + 1), rfl, rfl, (((Gx.Ext.refl w).trans x5).trans x7), (b2.ext x7), (by omega)⟩
    refine Gx.draw (S := fun w' => Gx.Has w' k1 (.cells #[.int .i64 k, .int .i64 n, .int .i64 row, .slice A1 ops.length c1, .slice A2 args.length c2] 25) ∧ Gx.Ext w w') (by kernel_rfl) (fun w9 x8 => ?_)
    have zw9 := x8.size
    refine Gx.any_take 0 (.pointer (some ⟨k1, 3, none⟩)) rfl (by kernel_rfl) (by kernel_rfl) (by kernel_rfl) (fun _ _ _ h => h) ⟨(b2.ext x8), (((Gx.Ext.refl w).trans x5).trans x8)⟩ (by kernel_rfl) (fun _ _ => (by kernel_rfl)) ?_
    refine Gx.any_take 1 (.slice A1 ops.length c1) rfl (by kernel_rfl) (by kernel_rfl) (by kernel_rfl) (fun _ _ _ h => h) ⟨(b2.ext x8), (((Gx.Ext.refl w).trans x5).trans x8)⟩ (by kernel_rfl) (fun _ hs => Gx.run_load rfl 3 (.slice A1 ops.length c1) (by kernel_rfl) hs.1 (by kernel_rfl)) ?_
    refine Gx.any_take 2 (.int .i64 ((i : Nat) : Int)) rfl (by kernel_rfl) (by kernel_rfl) (by kernel_rfl) (fun _ _ _ h => h) ⟨(b2.ext x8), (((Gx.Ext.refl w).trans x5).trans x8)⟩ (by kernel_rfl) (fun _ _ => (by kernel_rfl)) ?_
    have p_c85 := h_c85; try simp [-List.getD_eq_getElem?_getD] at p_c85
    have p_d3 := h_d3; try simp [-List.getD_eq_getElem?_getD] at p_d3
    have p_d4 := h_d4; try simp [-List.getD_eq_getElem?_getD] at p_d4
    obtain ⟨a5, ha5, hc5⟩ := (Gx.Rd.ext ho (by decide) hE) i (by omega)
    refine Gx.any_take 3 (.pointer (some (a5.add (i * 1)))) rfl (by kernel_rfl) (by kernel_rfl) (by kernel_rfl) (fun _ _ _ h => h) ⟨(b2.ext x8), (((Gx.Ext.refl w).trans x5).trans x8)⟩ (by kernel_rfl) (fun _ _ => Gx.run_indexAddrO rfl 9 1 (by kernel_rfl) (by kernel_rfl) a5 ha5 ops.length c1 (by kernel_rfl) .i64 i (by kernel_rfl) (by omega)) ?_
    refine Gx.any_take 4 (.string (ops.getD i e0)) rfl (by kernel_rfl) (by kernel_rfl) (by kernel_rfl) (fun _ _ _ h => h) ⟨(b2.ext x8), (((Gx.Ext.refl w).trans x5).trans x8)⟩ (by kernel_rfl) (fun _ hs => Gx.run_loadO rfl [.string (ops.getD i e0)] (.string (ops.getD i e0)) (by kernel_rfl) 1 (Gx.cells_ext hc5 (by decide) hs.2) (by kernel_rfl) (by kernel_rfl)) ?_
    refine Gx.any_take_as 5 (.bool ((ops.getD i e0).toList == (⟨#[]⟩ : ByteArray).toList)) (.bool false) (by rw [h_d3]) rfl (by kernel_rfl) (by kernel_rfl) (by kernel_rfl) (fun _ _ _ h => h) ⟨(b2.ext x8), (((Gx.Ext.refl w).trans x5).trans x8)⟩ (by kernel_rfl) (fun _ _ => (by kernel_rfl)) ?_
    refine Gx.any_take 6 (.bool false) rfl (by kernel_rfl) (by kernel_rfl) (by kernel_rfl) (fun _ _ _ h => h) ⟨(b2.ext x8), (((Gx.Ext.refl w).trans x5).trans x8)⟩ (by kernel_rfl) (fun _ _ => (by kernel_rfl)) ?_
    refine Gx.any_take 7 (.int .i64 ((i : Nat) : Int)) rfl (by kernel_rfl) (by kernel_rfl) (by kernel_rfl) (fun _ _ _ h => h) ⟨(b2.ext x8), (((Gx.Ext.refl w).trans x5).trans x8)⟩ (by kernel_rfl) (fun _ _ => (by kernel_rfl)) ?_
    refine Gx.any_take_as 8 (.bool (decide (((i : Nat) : Int) > (0 : Int)))) (.bool false) (by rw [h_d4]) rfl (by kernel_rfl) (by kernel_rfl) (by kernel_rfl) (fun _ _ _ h => h) ⟨(b2.ext x8), (((Gx.Ext.refl w).trans x5).trans x8)⟩ (by kernel_rfl) (fun _ _ => (by kernel_rfl)) ?_
    refine Gx.any_take 9 (.bool false) rfl (by kernel_rfl) (by kernel_rfl) (by kernel_rfl) (fun _ _ _ h => h) ⟨(b2.ext x8), (((Gx.Ext.refl w).trans x5).trans x8)⟩ (by kernel_rfl) (fun _ _ => (by kernel_rfl)) ?_
    refine Gx.any_skip 10 rfl (by kernel_rfl) (by kernel_rfl) (by kernel_rfl) (fun _ _ _ h => h) ⟨(b2.ext x8), (((Gx.Ext.refl w).trans x5).trans x8)⟩ (by kernel_rfl) ?_
    refine Gx.any_skip 11 rfl (by kernel_rfl) (by kernel_rfl) (by kernel_rfl) (fun _ _ _ h => h) ⟨(b2.ext x8), (((Gx.Ext.refl w).trans x5).trans x8)⟩ (by kernel_rfl) ?_
    refine Gx.any_skip 12 rfl (by kernel_rfl) (by kernel_rfl) (by kernel_rfl) (fun _ _ _ h => h) ⟨(b2.ext x8), (((Gx.Ext.refl w).trans x5).trans x8)⟩ (by kernel_rfl) ?_
    refine Gx.any_skip 13 rfl (by kernel_rfl) (by kernel_rfl) (by kernel_rfl) (fun _ _ _ h => h) ⟨(b2.ext x8), (((Gx.Ext.refl w).trans x5).trans x8)⟩ (by kernel_rfl) ?_
    refine Gx.any_skip 14 rfl (by kernel_rfl) (by kernel_rfl) (by kernel_rfl) (fun _ _ _ h => h) ⟨(b2.ext x8), (((Gx.Ext.refl w).trans x5).trans x8)⟩ (by kernel_rfl) ?_
    refine Gx.any_skip 15 rfl (by kernel_rfl) (by kernel_rfl) (by kernel_rfl) (fun _ _ _ h => h) ⟨(b2.ext x8), (((Gx.Ext.refl w).trans x5).trans x8)⟩ (by kernel_rfl) ?_
    refine Gx.any_skip 16 rfl (by kernel_rfl) (by kernel_rfl) (by kernel_rfl) (fun _ _ _ h => h) ⟨(b2.ext x8), (((Gx.Ext.refl w).trans x5).trans x8)⟩ (by kernel_rfl) ?_
    refine Gx.any_skip 17 rfl (by kernel_rfl) (by kernel_rfl) (by kernel_rfl) (fun _ _ _ h => h) ⟨(b2.ext x8), (((Gx.Ext.refl w).trans x5).trans x8)⟩ (by kernel_rfl) ?_
    refine Gx.any_skip 18 rfl (by kernel_rfl) (by kernel_rfl) (by kernel_rfl) (fun _ _ _ h => h) ⟨(b2.ext x8), (((Gx.Ext.refl w).trans x5).trans x8)⟩ (by kernel_rfl) ?_
    refine Gx.any_skip 19 rfl (by kernel_rfl) (by kernel_rfl) (by kernel_rfl) (fun _ _ _ h => h) ⟨(b2.ext x8), (((Gx.Ext.refl w).trans x5).trans x8)⟩ (by kernel_rfl) ?_
    refine Gx.any_skip 20 rfl (by kernel_rfl) (by kernel_rfl) (by kernel_rfl) (fun _ _ _ h => h) ⟨(b2.ext x8), (((Gx.Ext.refl w).trans x5).trans x8)⟩ (by kernel_rfl) ?_
    refine Gx.any_skip 21 rfl (by kernel_rfl) (by kernel_rfl) (by kernel_rfl) (fun _ _ _ h => h) ⟨(b2.ext x8), (((Gx.Ext.refl w).trans x5).trans x8)⟩ (by kernel_rfl) ?_
    refine Gx.any_take 22 (.bool false) rfl (by kernel_rfl) (by kernel_rfl) (by kernel_rfl) (fun _ _ _ h => h) ⟨(b2.ext x8), (((Gx.Ext.refl w).trans x5).trans x8)⟩ (by kernel_rfl) (fun _ _ => (by kernel_rfl)) ?_
    refine Gx.any_take 23 (.bool false) rfl (by kernel_rfl) (by kernel_rfl) (by kernel_rfl) (fun _ _ _ h => h) ⟨(b2.ext x8), (((Gx.Ext.refl w).trans x5).trans x8)⟩ (by kernel_rfl) (fun _ _ => (by kernel_rfl)) ?_
    refine Gx.any_done (by kernel_rfl) ?_
    refine Gx.then_normal ?_
    refine Gx.cond_f (by kernel_rfl) ?_
    refine wp_skip ?_
    refine Gx.block_normal ?_
    refine Gx.then_normal ?_
    refine Gx.reg [0, 1, 2] (by kernel_rfl) ?_
    refine Gx.pure [0] [1, 2] [(86, .int .i64 ((i : Nat) : Int))] rfl (by kernel_rfl) ?_
    refine Gx.pure_eq [1] [2] [(87, .int .i64 (IntKind.i64.wrap (((i : Nat) : Int) + (1 : Int))))] [(87, .int .i64 ((i + 1 : Nat) : Int))] rfl (by kernel_rfl) (Gx.eqI (Gx.i64n (by omega) (by omega))) ?_
    refine Gx.pure [2] [] [(8, .int .i64 ((i + 1 : Nat) : Int))] rfl (by kernel_rfl) ?_
    refine Gx.ops_nil ?_
    refine Gx.then_normal ?_
    rw [Gx.forget [(1, .int .i64 deep), (2, .pointer (some ⟨k1, 0, none⟩)), (8, .int .i64 (((i + 1) : Nat) : Int))] (by kernel_rfl)]
    exact hK2 _ _ _ _ (by omega) ⟨(i + 1), rfl, rfl, (((Gx.Ext.refl w).trans x5).trans x8), (b2.ext x8), (by omega)⟩
  refine wp_exit ?_
  refine Gx.then_exit ?_
  refine Gx.then_exit ?_
  refine Gx.block_exit ?_
  refine Gx.then_normal ?_
  refine Gx.seq_reg [0, 1, 2, 3, 4] (by kernel_rfl) ?_
  refine Gx.pure [0] [1, 2, 3, 4] [(112, .pointer (some ⟨k1, 3, none⟩))] rfl (by kernel_rfl) ?_
  refine Gx.cons (Gx.op_load rfl (by kernel_rfl) rfl 3 (.slice A1 ops.length c1) (by kernel_rfl) b2 (by kernel_rfl) ?_)
  refine Gx.pure [2] [3, 4] [(114, .int .i64 ((ops.length : Nat) : Int))] rfl (by kernel_rfl) ?_
  have p_c85 := h_c85; try simp [-List.getD_eq_getElem?_getD] at p_c85
  refine Gx.pure_eq [3] [4] [(115, .int .i64 (IntKind.i64.wrap ((1 : Int) + ((ops.length : Nat) : Int))))] [(115, .int .i64 ((1 + ops.length : Nat) : Int))] rfl (by kernel_rfl) (Gx.eqI (Gx.i64n (by omega) (by omega))) ?_
  refine Gx.pure [4] [] [(9, .int .i64 ((1 + ops.length : Nat) : Int))] rfl (by kernel_rfl) ?_
  refine Gx.ops_end ?_
  refine wp_seq ?_
  refine Gx.seq_run [(10, .int .i64 0)] (by kernel_rfl) ?_
  refine wp_block ?_
  refine Gx.loop (n' := 145) (d' := []) (fun mz l' w' => ∃ (j : Nat) (m : Int), l' = [(1, .int .i64 deep), (2, .pointer (some ⟨k1, 0, none⟩)), (9, .int .i64 m), (10, .int .i64 ((j : Nat) : Int))] ∧ mz = args.length - j ∧ Gx.Ext w w' ∧ Gx.Has w' k1 (.cells #[.int .i64 k, .int .i64 n, .int .i64 row, .slice A1 ops.length c1, .slice A2 args.length c2] 25) ∧ (j ≤ args.length) ∧ (0 ≤ m ∧ m ≤ 301) ∧ (∀ i, i < j → Wf (args.getD i ty0))) _ _ [(1, .int .i64 deep), (2, .pointer (some ⟨k1, 0, none⟩)), (9, .int .i64 ((1 + ops.length : Nat) : Int)), (10, .int .i64 ((0 : Nat) : Int))] (Gx.forget [(1, .int .i64 deep), (2, .pointer (some ⟨k1, 0, none⟩)), (9, .int .i64 ((1 + ops.length : Nat) : Int)), (10, .int .i64 ((0 : Nat) : Int))] (by kernel_rfl)) ⟨0, ((1 + ops.length : Nat) : Int), rfl, rfl, ((Gx.Ext.refl w).trans x5), b2, (Nat.zero_le _), (by omega), (fun i hi => absurd hi (Nat.not_lt_zero i))⟩ (fun bb3 m2 ll3 w10 hI3 K3 hK3 => ?_)
  obtain ⟨j, m, rfl, rfl, x9, b3, hj, hm, hws⟩ := hI3
  have zw10 := x9.size
  have tb3 := b3.lt
  refine wp_seq ?_
  refine Gx.seq_reg [0, 1, 2, 3, 4] (by kernel_rfl) ?_
  refine Gx.pure [0, 1] [2, 3, 4] [(117, .pointer (some ⟨k1, 4, none⟩)), (116, .int .i64 ((j : Nat) : Int))] rfl (by kernel_rfl) ?_
  refine Gx.cons (Gx.op_load rfl (by kernel_rfl) rfl 4 (.slice A2 args.length c2) (by kernel_rfl) b3 (by kernel_rfl) ?_)
  refine Gx.pure [3, 4] [] [(120, .bool (decide (((j : Nat) : Int) < ((args.length : Nat) : Int)))), (119, .int .i64 ((args.length : Nat) : Int))] rfl (by kernel_rfl) ?_
  refine Gx.ops_end ?_
  refine Gx.cond (decide (((j : Nat) : Int) < ((args.length : Nat) : Int))) (by kernel_rfl) (fun h_c120 => ?_) (fun h_c120 => ?_)
  · skip
    refine wp_skip ?_
    refine Gx.then_normal ?_
    refine wp_seq ?_
    refine wp_block ?_
    refine Gx.seq_reg [0, 1, 2, 3, 4, 5, 6, 7, 8, 9, 10, 11, 12] (by kernel_rfl) ?_
    refine Gx.pure [0] [1, 2, 3, 4, 5, 6, 7, 8, 9, 10, 11, 12] [(124, .pointer (some ⟨k1, 4, none⟩))] rfl (by kernel_rfl) ?_
    refine Gx.cons (Gx.op_load rfl (by kernel_rfl) rfl 4 (.slice A2 args.length c2) (by kernel_rfl) b3 (by kernel_rfl) ?_)
    refine Gx.pure [2] [3, 4, 5, 6, 7, 8, 9, 10, 11, 12] [(126, .int .i64 ((j : Nat) : Int))] rfl (by kernel_rfl) ?_
    have p_c120 := h_c120; try simp [-List.getD_eq_getElem?_getD] at p_c120
    obtain ⟨a6, ha6, hc6⟩ := (Gx.Rd.ext ha (by decide) hE) j (by omega)
    refine Gx.cons (Gx.op_indexAddrO rfl (by kernel_rfl) rfl 25 5 (by kernel_rfl) (by kernel_rfl) a6 ha6 args.length c2 (by kernel_rfl) .i64 j (by kernel_rfl) (by omega) ?_)
    refine Gx.cons (Gx.op_loadAgg rfl (by kernel_rfl) rfl (by kernel_rfl) 5 (Gx.cells_ext hc6 (by decide) ((Gx.Ext.refl w).trans x9)) (by kernel_rfl) ?_)
    refine Gx.pure [5] [6, 7, 8, 9, 10, 11, 12] [(129, .int .i64 deep)] rfl (by kernel_rfl) ?_
    refine Gx.pure_eq [6] [7, 8, 9, 10, 11, 12] [(130, .int .i64 (IntKind.i64.wrap (deep + (1 : Int))))] [(130, .int .i64 (deep + (1 : Int)))] rfl (by kernel_rfl) (Gx.eqI (IntWalk.i64_in _ (by omega))) ?_
    refine Gx.cons (Gx.op_call rfl (by kernel_rfl) (by kernel_rfl) (fun R hR => ihP j (by omega) (deep + (1 : Int)) _ R (by omega) (Gx.Ext.trans hE ((Gx.Ext.refl w).trans x9)) (fun w11 x10 m3 ok1 hw1 hb1 => hR _ _ ?_)))
    have zw11 := x10.size
    refine Gx.pure [8, 9, 10, 11, 12] [] [(12, .bool ok1), (11, .int .i64 m3), (133, .bool ok1), (132, .int .i64 m3), (123, .tuple #[.int .i64 m3, .bool ok1])] rfl (by kernel_rfl) ?_
    refine Gx.ops_end ?_
    refine Gx.seq_reg [0, 1, 2, 3] (by kernel_rfl) ?_
    refine Gx.pure [0, 1] [2, 3] [(135, .int .i64 m3), (134, .int .i64 m)] rfl (by kernel_rfl) ?_
    refine Gx.pure_eq [2] [3] [(136, .int .i64 (IntKind.i64.wrap (m + m3)))] [(136, .int .i64 (m + m3))] rfl (by kernel_rfl) (Gx.eqI (IntWalk.i64_in _ (by omega))) ?_
    refine Gx.pure [3] [] [(9, .int .i64 (m + m3))] rfl (by kernel_rfl) ?_
    refine Gx.ops_end ?_
    refine Gx.cut (d' := []) (n' := 145) (fun l' w' => l' = [(1, .int .i64 deep), (2, .pointer (some ⟨k1, 0, none⟩)), (9, .int .i64 (m + m3)), (10, .int .i64 ((j : Nat) : Int)), (142, .bool ((!ok1) || (decide ((m + m3) > (300 : Int)))))] ∧ w11 = w') (fun K4 hK4 => ?_) (fun bb4 ll4 w12 hI4 => ?_)
    · refine Gx.reg [0, 1, 2, 3, 4, 5] (by kernel_rfl) ?_
      refine Gx.pure [0, 1, 2] [3, 4, 5] [(139, .bool (!ok1)), (138, .bool (!ok1)), (137, .bool ok1)] rfl (by kernel_rfl) ?_
      refine Gx.split (!ok1) (fun h_g139 => ?_) (fun h_g139 => ?_)
      · rw [h_g139]
        refine Gx.pure [3, 4, 5] [] [(142, .bool true), (141, undef), (140, undef)] rfl (by kernel_rfl) ?_
        refine Gx.ops_end ?_
        rw [Gx.forget [(1, .int .i64 deep), (2, .pointer (some ⟨k1, 0, none⟩)), (9, .int .i64 (m + m3)), (10, .int .i64 ((j : Nat) : Int)), (142, .bool ((!ok1) || (decide ((m + m3) > (300 : Int)))))] (by rw [h_g139]; try kernel_rfl)]
        exact hK4 _ _ _ ⟨rfl, rfl⟩
      rw [h_g139]
      refine Gx.pure [3, 4, 5] [] [(142, .bool (decide ((m + m3) > (300 : Int)))), (141, .bool (decide ((m + m3) > (300 : Int)))), (140, .int .i64 (m + m3))] rfl (by kernel_rfl) ?_
      refine Gx.ops_end ?_
      rw [Gx.forget [(1, .int .i64 deep), (2, .pointer (some ⟨k1, 0, none⟩)), (9, .int .i64 (m + m3)), (10, .int .i64 ((j : Nat) : Int)), (142, .bool ((!ok1) || (decide ((m + m3) > (300 : Int)))))] (by rw [h_g139]; try kernel_rfl)]
      exact hK4 _ _ _ ⟨rfl, rfl⟩
    obtain ⟨rfl, rfl⟩ := hI4
    refine Gx.cond ((!ok1) || (decide ((m + m3) > (300 : Int)))) (by kernel_rfl) (fun h_c142 => ?_) (fun h_c142 => ?_)
    · skip
      refine Gx.seq_run [(5, .bool false), (4, .int .i64 (m + m3)), (143, .int .i64 (m + m3))] (by kernel_rfl) ?_
      refine wp_ret ?_
      refine Gx.block_ret ?_
      refine Gx.then_ret ?_
      refine Gx.then_ret ?_
      refine Gx.block_ret ?_
      refine Gx.then_ret ?_
      refine Gx.ret (Gx.res2 (v := .int .i64 (m + m3)) (u := .bool false) rfl (by kernel_rfl) (by kernel_rfl)) ?_
      have p_c142 := h_c142; try simp [-List.getD_eq_getElem?_getD] at p_c142
      exact hK _ (((Gx.Ext.refl w).trans x9).trans x10) (m + m3) false (fun h => by cases h) (by omega)
    refine wp_skip ?_
    refine Gx.block_normal ?_
    refine Gx.then_normal ?_
    refine Gx.reg [0, 1, 2] (by kernel_rfl) ?_
    refine Gx.pure [0] [1, 2] [(121, .int .i64 ((j : Nat) : Int))] rfl (by kernel_rfl) ?_
    have p_c142 := h_c142; try simp [-List.getD_eq_getElem?_getD] at p_c142
    refine Gx.pure_eq [1] [2] [(122, .int .i64 (IntKind.i64.wrap (((j : Nat) : Int) + (1 : Int))))] [(122, .int .i64 ((j + 1 : Nat) : Int))] rfl (by kernel_rfl) (Gx.eqI (Gx.i64n (by omega) (by omega))) ?_
    refine Gx.pure [2] [] [(10, .int .i64 ((j + 1 : Nat) : Int))] rfl (by kernel_rfl) ?_
    refine Gx.ops_nil ?_
    refine Gx.then_normal ?_
    rw [Gx.forget [(1, .int .i64 deep), (2, .pointer (some ⟨k1, 0, none⟩)), (9, .int .i64 (m + m3)), (10, .int .i64 (((j + 1) : Nat) : Int))] (by kernel_rfl)]
    exact hK3 _ _ _ _ (by omega) ⟨(j + 1), (m + m3), rfl, rfl, (((Gx.Ext.refl w).trans x9).trans x10), (b3.ext x10), (by omega), (by omega), (fun i hi => by rcases Nat.lt_or_ge i j with q | q; exact hws i q; (obtain rfl : i = j := by omega); exact hw1 (by simp_all))⟩
  refine wp_exit ?_
  refine Gx.then_exit ?_
  refine Gx.then_exit ?_
  refine Gx.block_exit ?_
  refine Gx.then_normal ?_
  refine Gx.seq_run [(5, .bool true), (4, .int .i64 m), (144, .int .i64 m)] (by kernel_rfl) ?_
  refine wp_ret ?_
  refine Gx.ret (Gx.res2 (v := .int .i64 m) (u := .bool true) rfl (by kernel_rfl) (by kernel_rfl)) ?_
  have p_c120 := h_c120; try simp [-List.getD_eq_getElem?_getD] at p_c120
  exact hK _ ((Gx.Ext.refl w).trans x9) m true (fun _ => Wf.mk p_d2 (fun hk0 => by omega) (by omega) (fun i hi => hws i (by omega))) (by omega)


theorem proper_in {w0 : World} {t : TyP} {v : Value} (h : TyIn w0 t v) : ∀ (deep : Int) (w : World) (K : Ending → World → Prop), (0 ≤ deep ∧ deep ≤ 301) → Gx.Ext w0 w → (∀ w', Gx.Ext w w' → ∀ (m : Int) (ok : Bool), (ok = true → Wf t) → (0 ≤ m ∧ m ≤ 1000 * (302 - deep)) → K (.returned (.tuple #[.int .i64 m, .bool ok])) w') → Calls Tryd.prog 7 #[v, .int .i64 deep] w K := by
  induction h with
  | @mk k n row ops args A1 A2 c1 c2 cs hk hn hr hc1 hl hz ho ha hV ih =>
    intro deep w K hd hE hK
    exact proper_s w0 k n row ops args A1 A2 c1 c2 cs deep w K hE hn hr hk hl ho ha hd ih hK

set_option maxHeartbeats 400000 in
set_option maxRecDepth 10000 in
theorem Proper_c (k n row : Int) (ops : List ByteArray) (args : List TyP) (A1 A2 : Option Addr) (c1 c2 : Nat) (w : World) (K : Ending → World → Prop) (hT : TyIn w (.mk k n row ops args) (.agg #[.int .i64 k, .int .i64 n, .int .i64 row, .slice A1 ops.length c1, .slice A2 args.length c2])) (hK : ∀ w', Gx.Ext w w' → ∀ (b : Bool), (b = true → Wf (.mk k n row ops args)) → K (.returned (.bool b)) w') :
    Calls Tryd.prog 4 #[.agg #[.int .i64 k, .int .i64 n, .int .i64 row, .slice A1 ops.length c1, .slice A2 args.length c2]] w K := by
  refine Gx.enter 15 Tryd.func4 rfl rfl (Nat.le_of_ble_eq_true rfl) ?_
  refine Gx.seq_reg [0, 1] (by kernel_rfl) ?_
  refine Gx.cons (Gx.op_new (.cells #[.int .i64 k, .int .i64 n, .int .i64 row, .slice A1 ops.length c1, .slice A2 args.length c2] 25) rfl (by kernel_rfl) (by kernel_rfl) (fun k1 w1 l1 x1 b1 => ?_))
  have zw1 := x1.size
  have tb1 := b1.lt
  refine Gx.pure [1] [] [(2, .bool false)] rfl (by kernel_rfl) ?_
  refine Gx.ops_end ?_
  refine Gx.seq_reg [0, 1, 2, 3, 4, 5, 6] (by kernel_rfl) ?_
  refine Gx.cons (Gx.op_load rfl (by kernel_rfl) rfl 0 (.agg #[.int .i64 k, .int .i64 n, .int .i64 row, .slice A1 ops.length c1, .slice A2 args.length c2]) (by kernel_rfl) b1 (by kernel_rfl) ?_)
  refine Gx.cons (Gx.op_call rfl (by kernel_rfl) (by kernel_rfl) (fun R hR => proper_in (hT.ext ((Gx.Ext.refl w).trans x1)) (0 : Int) _ R (by omega) (Gx.Ext.refl _) (fun w2 x2 m1 ok1 hw1 hb1 => hR _ _ ?_)))
  have zw2 := x2.size
  refine Gx.pure [2, 3, 4, 5, 6] [] [(4, .bool ok1), (3, .int .i64 m1), (9, .bool ok1), (8, .int .i64 m1), (5, .tuple #[.int .i64 m1, .bool ok1])] rfl (by kernel_rfl) ?_
  refine Gx.ops_end ?_
  refine Gx.cut (d' := []) (n' := 15) (fun l' w' => l' = [(2, .bool (ok1 && (decide (m1 ≤ (300 : Int)))))] ∧ w2 = w') (fun K1 hK1 => ?_) (fun bb1 ll1 w3 hI1 => ?_)
  · refine Gx.reg [0, 1, 2, 3, 4, 5] (by kernel_rfl) ?_
    refine Gx.pure [0, 1] [2, 3, 4, 5] [(11, .bool ok1), (10, .bool ok1)] rfl (by kernel_rfl) ?_
    refine Gx.split ok1 (fun h_g11 => ?_) (fun h_g11 => ?_)
    · rw [h_g11]
      refine Gx.pure [2, 3, 4, 5] [] [(2, .bool (decide (m1 ≤ (300 : Int)))), (14, .bool (decide (m1 ≤ (300 : Int)))), (13, .bool (decide (m1 ≤ (300 : Int)))), (12, .int .i64 m1)] rfl (by kernel_rfl) ?_
      refine Gx.ops_end ?_
      rw [Gx.forget [(2, .bool (ok1 && (decide (m1 ≤ (300 : Int)))))] (by rw [h_g11]; try kernel_rfl)]
      exact hK1 _ _ _ ⟨rfl, rfl⟩
    rw [h_g11]
    refine Gx.pure [2, 3, 4, 5] [] [(2, .bool false), (14, .bool false), (13, undef), (12, undef)] rfl (by kernel_rfl) ?_
    refine Gx.ops_end ?_
    rw [Gx.forget [(2, .bool (ok1 && (decide (m1 ≤ (300 : Int)))))] (by rw [h_g11]; try kernel_rfl)]
    exact hK1 _ _ _ ⟨rfl, rfl⟩
  obtain ⟨rfl, rfl⟩ := hI1
  refine wp_ret ?_
  refine Gx.ret (v := .bool (ok1 && (decide (m1 ≤ (300 : Int))))) (Gx.res1 rfl (by kernel_rfl)) ?_
  exact hK _ (((Gx.Ext.refl w).trans x1).trans x2) _ (fun h => hw1 (by simp at h; exact h.1))

end Go.Proofs.YtmlmppdffeacdaaDoor
