/- The walks of the functions that show types, written by a program of ours (wip/gx/gx.py, wip/shows/showgen.py). -/
import Derived.Test.YtmlmppdffeacdaaDoorRows
import Derived.Test.YtmlmppdffeacdaaDoorGw
import Derived.Test.YtmlmppdffeacdaaDoorShowPlain
import Derived.Test.YtmlmppdffeacdaaDoorShowWalks1
import Derived.Test.YtmlmppdffeacdaaDoorShowWalks2
namespace Go.Proofs.YtmlmppdffeacdaaDoor
open Go.RowKit Go.Show
attribute [local irreducible] Go.wpOps Go.Code.wp Go.wpOp Go.wpAnyH Go.Calls
set_option maxHeartbeats 400000 in
set_option maxRecDepth 10000 in
theorem rShow_6 (w0 : World) (n row : Int) (ops : List ByteArray) (args : List TyP) (A1 A2 : Option Addr) (c1 c2 : Nat) (cs : Nat → List Value) (w : World) (K : Ending → World → Prop) (hE : Gx.Ext w0 w) (hlen : args.length = 2) (hn : I64 n) (hr : I64 row) (hl : ops.length ≤ 1048576) (hz : ∀ i, (ops.getD i e0).size ≤ 1048576) (ho : Gx.Rd w0 A1 ops.length 1 (fun i => [.string (ops.getD i e0)])) (ha : Gx.Rd w0 A2 2 5 cs) (hsz : (showP (.mk 6 n row ops args)).size ≤ 1099511627776) (ihI : ∀ i, i < args.length → ∀ (least : Int) (w : World) (K : Ending → World → Prop), Gx.Ext w0 w → (∀ w', Gx.Ext w w' → K (.returned (.string (inP least (args.getD i ty0)))) w') → Calls Tryd.prog 12 #[.agg (cs i).toArray, .int .i64 least] w K) (hK : ∀ w', Gx.Ext w w' → K (.returned (.string (showP (.mk 6 n row ops args)))) w') :
    Calls Tryd.prog 6 #[.agg #[.int .i64 6, .int .i64 n, .int .i64 row, .slice A1 ops.length c1, .slice A2 2 c2]] w K := by
  refine Gx.enter 116 Tryd.func6 rfl rfl (Nat.le_of_ble_eq_true rfl) ?_
  have hq := hsz; rw [show_6 hlen] at hq; simp only [ByteArray.size_append] at hq
  refine Gx.seq_reg [0, 1] (by kernel_rfl) ?_
  refine Gx.cons (Gx.op_new (.cells #[.int .i64 6, .int .i64 n, .int .i64 row, .slice A1 ops.length c1, .slice A2 2 c2] 25) rfl (by kernel_rfl) (by kernel_rfl) (fun k1 w1 l1 x1 b1 => ?_))
  have zw1 := x1.size
  have tb1 := b1.lt
  refine Gx.pure [1] [] [(2, .string (⟨#[]⟩ : ByteArray))] rfl (by kernel_rfl) ?_
  refine Gx.ops_end ?_
  refine wp_seq ?_
  refine wp_seq ?_
  refine Gx.draw (S := fun w' => Gx.Has w' k1 (.cells #[.int .i64 6, .int .i64 n, .int .i64 row, .slice A1 ops.length c1, .slice A2 2 c2] 25)) (by kernel_rfl) (fun w2 x2 => ?_)
  have zw2 := x2.size
  refine Gx.any_take 0 (.pointer (some ⟨k1, 4, none⟩)) rfl (by kernel_rfl) (by kernel_rfl) (by kernel_rfl) (fun _ _ _ h => h) (b1.ext x2) (by kernel_rfl) (fun _ _ => (by kernel_rfl)) ?_
  refine Gx.any_take 1 (.slice A2 2 c2) rfl (by kernel_rfl) (by kernel_rfl) (by kernel_rfl) (fun _ _ _ h => h) (b1.ext x2) (by kernel_rfl) (fun _ hs => Gx.run_load rfl 4 (.slice A2 2 c2) (by kernel_rfl) hs (by kernel_rfl)) ?_
  refine Gx.any_take 2 (.int .i64 2) rfl (by kernel_rfl) (by kernel_rfl) (by kernel_rfl) (fun _ _ _ h => h) (b1.ext x2) (by kernel_rfl) (fun _ _ => (by kernel_rfl)) ?_
  refine Gx.any_take 3 (.pointer (some ⟨k1, 0, none⟩)) rfl (by kernel_rfl) (by kernel_rfl) (by kernel_rfl) (fun _ _ _ h => h) (b1.ext x2) (by kernel_rfl) (fun _ _ => (by kernel_rfl)) ?_
  refine Gx.any_take 4 (.int .i64 6) rfl (by kernel_rfl) (by kernel_rfl) (by kernel_rfl) (fun _ _ _ h => h) (b1.ext x2) (by kernel_rfl) (fun _ hs => Gx.run_load rfl 0 (.int .i64 6) (by kernel_rfl) hs (by kernel_rfl)) ?_
  refine Gx.any_one 5 (by kernel_rfl) (Gx.op_call rfl (by kernel_rfl) (by kernel_rfl) (fun R hR => args_c (6 : Int) _ R  (hR _ _ ⟨(b1.ext x2), ?_⟩)))
  refine Gx.any_take 6 (.bool false) rfl (by kernel_rfl) (by kernel_rfl) (by kernel_rfl) (fun _ _ _ h => h) (b1.ext x2) (by kernel_rfl) (fun _ _ => (by kernel_rfl)) ?_
  refine Gx.any_done (by kernel_rfl) ?_
  refine Gx.then_normal ?_
  refine Gx.cond_f (by kernel_rfl) ?_
  refine wp_skip ?_
  refine Gx.then_normal ?_
  refine wp_seq ?_
  refine Gx.seq_reg [0, 1] (by kernel_rfl) ?_
  refine Gx.pure [0] [1] [(13, .pointer (some ⟨k1, 0, none⟩))] rfl (by kernel_rfl) ?_
  refine Gx.cons (Gx.op_load rfl (by kernel_rfl) rfl 0 (.int .i64 6) (by kernel_rfl) (b1.ext x2) (by kernel_rfl) ?_)
  refine Gx.ops_end ?_
  refine wp_block ?_
  refine Gx.seq_run [(15, .bool false), (16, .bool false)] (by kernel_rfl) ?_
  refine Gx.cond_f (by kernel_rfl) ?_
  refine Gx.seq_run [(39, .bool false), (40, .bool false)] (by kernel_rfl) ?_
  refine Gx.cond_f (by kernel_rfl) ?_
  refine Gx.seq_run [(41, .bool false), (42, .bool false)] (by kernel_rfl) ?_
  refine Gx.cond_f (by kernel_rfl) ?_
  refine Gx.seq_run [(43, .bool false), (44, .bool false)] (by kernel_rfl) ?_
  refine Gx.cond_f (by kernel_rfl) ?_
  refine Gx.seq_run [(45, .bool false), (46, .bool false)] (by kernel_rfl) ?_
  refine Gx.cond_f (by kernel_rfl) ?_
  refine Gx.seq_run [(53, .bool false), (54, .bool false)] (by kernel_rfl) ?_
  refine Gx.cond_f (by kernel_rfl) ?_
  refine wp_skip ?_
  refine Gx.block_normal ?_
  refine Gx.then_normal ?_
  refine Gx.seq_run [(3, .string (⟨#[]⟩ : ByteArray))] (by kernel_rfl) ?_
  refine wp_seq ?_
  refine Gx.seq_run [(4, .int .i64 0)] (by kernel_rfl) ?_
  refine wp_block ?_
  refine Gx.loop (n' := 116) (d' := []) (fun mz l' w' => ∃ (i : Nat), l' = [(1, .pointer (some ⟨k1, 0, none⟩)), (3, .string (joinB (ops.take i))), (4, .int .i64 ((i : Nat) : Int))] ∧ mz = ops.length - i ∧ Gx.Ext w w' ∧ Gx.Has w' k1 (.cells #[.int .i64 6, .int .i64 n, .int .i64 row, .slice A1 ops.length c1, .slice A2 2 c2] 25) ∧ (i ≤ ops.length) ∧ ((joinB (ops.take i)).size ≤ i * 1048578)) _ _ [(1, .pointer (some ⟨k1, 0, none⟩)), (3, .string (joinB (ops.take 0))), (4, .int .i64 ((0 : Nat) : Int))] (Gx.forget [(1, .pointer (some ⟨k1, 0, none⟩)), (3, .string (joinB (ops.take 0))), (4, .int .i64 ((0 : Nat) : Int))] (by kernel_rfl)) ⟨0, rfl, rfl, (((Gx.Ext.refl w).trans x1).trans x2), (b1.ext x2), (Nat.zero_le _), (by show 0 ≤ _; omega)⟩ (fun bb1 m1 ll1 w3 hI1 K1 hK1 => ?_)
  obtain ⟨i, rfl, rfl, x3, b2, hi, hjz⟩ := hI1
  have zw3 := x3.size
  have tb2 := b2.lt
  have hzi := hz i
  refine wp_seq ?_
  refine Gx.seq_reg [0, 1, 2, 3, 4] (by kernel_rfl) ?_
  refine Gx.pure [0, 1] [2, 3, 4] [(68, .pointer (some ⟨k1, 3, none⟩)), (67, .int .i64 ((i : Nat) : Int))] rfl (by kernel_rfl) ?_
  refine Gx.cons (Gx.op_load rfl (by kernel_rfl) rfl 3 (.slice A1 ops.length c1) (by kernel_rfl) b2 (by kernel_rfl) ?_)
  refine Gx.pure [3, 4] [] [(71, .bool (decide (((i : Nat) : Int) < ((ops.length : Nat) : Int)))), (70, .int .i64 ((ops.length : Nat) : Int))] rfl (by kernel_rfl) ?_
  refine Gx.ops_end ?_
  refine Gx.cond (decide (((i : Nat) : Int) < ((ops.length : Nat) : Int))) (by kernel_rfl) (fun h_c71 => ?_) (fun h_c71 => ?_)
  · skip
    refine wp_skip ?_
    refine Gx.then_normal ?_
    refine wp_seq ?_
    refine wp_block ?_
    refine wp_seq ?_
    refine Gx.seq_run [(75, .bool (decide (((i : Nat) : Int) > (0 : Int)))), (74, .int .i64 ((i : Nat) : Int))] (by kernel_rfl) ?_
    refine Gx.cond (decide (((i : Nat) : Int) > (0 : Int))) (by kernel_rfl) (fun h_c75 => ?_) (fun h_c75 => ?_)
    · skip
      refine Gx.reg [0, 1, 2] (by kernel_rfl) ?_
      refine Gx.pure [0] [1, 2] [(76, .string (joinB (ops.take i)))] rfl (by kernel_rfl) ?_
      have p_c71 := h_c71; try simp [-List.getD_eq_getElem?_getD] at p_c71
      have p_c75 := h_c75; try simp [-List.getD_eq_getElem?_getD] at p_c75
      refine Gx.cons (Gx.op_concat rfl (by kernel_rfl) rfl (joinB (ops.take i)) (⟨#[44, 32]⟩ : ByteArray) (by kernel_rfl) (by kernel_rfl) (by have hd := dig_size (m := row.toNat) (by unfold I64 at hr; omega); simp only [litz2]; omega) ?_)
      refine Gx.pure [2] [] [(3, .string ((joinB (ops.take i)) ++ (⟨#[44, 32]⟩ : ByteArray)))] rfl (by kernel_rfl) ?_
      refine Gx.ops_nil ?_
      refine Gx.then_normal ?_
      refine Gx.reg [0, 1, 2, 3, 4, 5, 6, 7] (by kernel_rfl) ?_
      refine Gx.pure [0, 1] [2, 3, 4, 5, 6, 7] [(79, .pointer (some ⟨k1, 3, none⟩)), (78, .string ((joinB (ops.take i)) ++ (⟨#[44, 32]⟩ : ByteArray)))] rfl (by kernel_rfl) ?_
      refine Gx.cons (Gx.op_load rfl (by kernel_rfl) rfl 3 (.slice A1 ops.length c1) (by kernel_rfl) b2 (by kernel_rfl) ?_)
      refine Gx.pure [3] [4, 5, 6, 7] [(81, .int .i64 ((i : Nat) : Int))] rfl (by kernel_rfl) ?_
      obtain ⟨a1, ha1, hc1⟩ := (Gx.Rd.ext ho (by decide) hE) i (by omega)
      refine Gx.cons (Gx.op_indexAddrO rfl (by kernel_rfl) rfl 9 1 (by kernel_rfl) (by kernel_rfl) a1 ha1 ops.length c1 (by kernel_rfl) .i64 i (by kernel_rfl) (by omega) ?_)
      refine Gx.cons (Gx.op_loadO rfl (by kernel_rfl) rfl [.string (ops.getD i e0)] (.string (ops.getD i e0)) (by kernel_rfl) 1 (Gx.cells_ext hc1 (by decide) ((Gx.Ext.refl w).trans x3)) (by kernel_rfl) (by kernel_rfl) ?_)
      refine Gx.cons (Gx.op_concat rfl (by kernel_rfl) rfl ((joinB (ops.take i)) ++ (⟨#[44, 32]⟩ : ByteArray)) (ops.getD i e0) (by kernel_rfl) (by kernel_rfl) (by have hd := dig_size (m := row.toNat) (by unfold I64 at hr; omega); simp only [ByteArray.size_append, litz2]; omega) ?_)
      refine Gx.pure [7] [] [(3, .string (((joinB (ops.take i)) ++ (⟨#[44, 32]⟩ : ByteArray)) ++ (ops.getD i e0)))] rfl (by kernel_rfl) ?_
      refine Gx.ops_nil ?_
      refine Gx.block_normal ?_
      refine Gx.then_normal ?_
      refine Gx.reg [0, 1, 2] (by kernel_rfl) ?_
      refine Gx.pure [0] [1, 2] [(72, .int .i64 ((i : Nat) : Int))] rfl (by kernel_rfl) ?_
      refine Gx.pure_eq [1] [2] [(73, .int .i64 (IntKind.i64.wrap (((i : Nat) : Int) + (1 : Int))))] [(73, .int .i64 ((i + 1 : Nat) : Int))] rfl (by kernel_rfl) (Gx.eqI (Gx.i64n (by omega) (by omega))) ?_
      refine Gx.pure [2] [] [(4, .int .i64 ((i + 1 : Nat) : Int))] rfl (by kernel_rfl) ?_
      refine Gx.ops_nil ?_
      refine Gx.then_normal ?_
      rw [Gx.forget [(1, .pointer (some ⟨k1, 0, none⟩)), (3, .string (joinB (ops.take (i + 1)))), (4, .int .i64 (((i + 1) : Nat) : Int))] (by rw [join_succ (by omega), if_pos (by simpa using h_c75)]; try kernel_rfl)]
      exact hK1 _ _ _ _ (by omega) ⟨(i + 1), rfl, rfl, ((Gx.Ext.refl w).trans x3), b2, (by omega), (by rw [join_succ (by omega)]; split <;> simp only [ByteArray.size_append, litz2] <;> omega)⟩
    refine wp_skip ?_
    refine Gx.then_normal ?_
    refine Gx.reg [0, 1, 2, 3, 4, 5, 6, 7] (by kernel_rfl) ?_
    refine Gx.pure [0, 1] [2, 3, 4, 5, 6, 7] [(79, .pointer (some ⟨k1, 3, none⟩)), (78, .string (joinB (ops.take i)))] rfl (by kernel_rfl) ?_
    refine Gx.cons (Gx.op_load rfl (by kernel_rfl) rfl 3 (.slice A1 ops.length c1) (by kernel_rfl) b2 (by kernel_rfl) ?_)
    refine Gx.pure [3] [4, 5, 6, 7] [(81, .int .i64 ((i : Nat) : Int))] rfl (by kernel_rfl) ?_
    have p_c71 := h_c71; try simp [-List.getD_eq_getElem?_getD] at p_c71
    have p_c75 := h_c75; try simp [-List.getD_eq_getElem?_getD] at p_c75
    obtain ⟨a2, ha2, hc2⟩ := (Gx.Rd.ext ho (by decide) hE) i (by omega)
    refine Gx.cons (Gx.op_indexAddrO rfl (by kernel_rfl) rfl 9 1 (by kernel_rfl) (by kernel_rfl) a2 ha2 ops.length c1 (by kernel_rfl) .i64 i (by kernel_rfl) (by omega) ?_)
    refine Gx.cons (Gx.op_loadO rfl (by kernel_rfl) rfl [.string (ops.getD i e0)] (.string (ops.getD i e0)) (by kernel_rfl) 1 (Gx.cells_ext hc2 (by decide) ((Gx.Ext.refl w).trans x3)) (by kernel_rfl) (by kernel_rfl) ?_)
    refine Gx.cons (Gx.op_concat rfl (by kernel_rfl) rfl (joinB (ops.take i)) (ops.getD i e0) (by kernel_rfl) (by kernel_rfl) (by have hd := dig_size (m := row.toNat) (by unfold I64 at hr; omega); omega) ?_)
    refine Gx.pure [7] [] [(3, .string ((joinB (ops.take i)) ++ (ops.getD i e0)))] rfl (by kernel_rfl) ?_
    refine Gx.ops_nil ?_
    refine Gx.block_normal ?_
    refine Gx.then_normal ?_
    refine Gx.reg [0, 1, 2] (by kernel_rfl) ?_
    refine Gx.pure [0] [1, 2] [(72, .int .i64 ((i : Nat) : Int))] rfl (by kernel_rfl) ?_
    refine Gx.pure_eq [1] [2] [(73, .int .i64 (IntKind.i64.wrap (((i : Nat) : Int) + (1 : Int))))] [(73, .int .i64 ((i + 1 : Nat) : Int))] rfl (by kernel_rfl) (Gx.eqI (Gx.i64n (by omega) (by omega))) ?_
    refine Gx.pure [2] [] [(4, .int .i64 ((i + 1 : Nat) : Int))] rfl (by kernel_rfl) ?_
    refine Gx.ops_nil ?_
    refine Gx.then_normal ?_
    rw [Gx.forget [(1, .pointer (some ⟨k1, 0, none⟩)), (3, .string (joinB (ops.take (i + 1)))), (4, .int .i64 (((i + 1) : Nat) : Int))] (by rw [join_succ (by omega), if_neg (by simpa using h_c75)]; try kernel_rfl)]
    exact hK1 _ _ _ _ (by omega) ⟨(i + 1), rfl, rfl, ((Gx.Ext.refl w).trans x3), b2, (by omega), (by rw [join_succ (by omega)]; split <;> simp only [ByteArray.size_append, litz2] <;> omega)⟩
  refine wp_exit ?_
  refine Gx.then_exit ?_
  refine Gx.then_exit ?_
  refine Gx.block_exit ?_
  refine Gx.then_normal ?_
  refine wp_seq ?_
  have p_c71 := h_c71; try simp [-List.getD_eq_getElem?_getD] at p_c71
  obtain rfl : i = ops.length := by omega
  rw [join_all] at *
  refine Gx.seq_reg [0, 1, 2] (by kernel_rfl) ?_
  refine Gx.pure [0] [1, 2] [(85, .pointer (some ⟨k1, 2, none⟩))] rfl (by kernel_rfl) ?_
  refine Gx.cons (Gx.op_load rfl (by kernel_rfl) rfl 2 (.int .i64 row) (by kernel_rfl) b2 (by kernel_rfl) ?_)
  refine Gx.pure [2] [] [(87, .bool (decide (row > (0 : Int))))] rfl (by kernel_rfl) ?_
  refine Gx.ops_end ?_
  refine Gx.cond (decide (row > (0 : Int))) (by kernel_rfl) (fun h_c87 => ?_) (fun h_c87 => ?_)
  · skip
    refine wp_seq ?_
    refine Gx.seq_run [(89, .bool (!((joinB ops).toList == (⟨#[]⟩ : ByteArray).toList))), (88, .string (joinB ops))] (by kernel_rfl) ?_
    refine Gx.cond (!((joinB ops).toList == (⟨#[]⟩ : ByteArray).toList)) (by kernel_rfl) (fun h_c89 => ?_) (fun h_c89 => ?_)
    · skip
      refine Gx.reg [0, 1, 2] (by kernel_rfl) ?_
      refine Gx.pure [0] [1, 2] [(90, .string (joinB ops))] rfl (by kernel_rfl) ?_
      have p_c87 := h_c87; try simp [-List.getD_eq_getElem?_getD] at p_c87
      have p_c89 := h_c89; try simp [-List.getD_eq_getElem?_getD] at p_c89
      refine Gx.cons (Gx.op_concat rfl (by kernel_rfl) rfl (joinB ops) (⟨#[32]⟩ : ByteArray) (by kernel_rfl) (by kernel_rfl) (by have hd := dig_size (m := row.toNat) (by unfold I64 at hr; omega); simp only [litz1]; omega) ?_)
      refine Gx.pure [2] [] [(3, .string ((joinB ops) ++ (⟨#[32]⟩ : ByteArray)))] rfl (by kernel_rfl) ?_
      refine Gx.ops_nil ?_
      refine Gx.then_normal ?_
      refine Gx.reg [0, 1, 2, 3, 4, 5, 6] (by kernel_rfl) ?_
      refine Gx.pure [0] [1, 2, 3, 4, 5, 6] [(92, .string ((joinB ops) ++ (⟨#[32]⟩ : ByteArray)))] rfl (by kernel_rfl) ?_
      refine Gx.cons (Gx.op_concat rfl (by kernel_rfl) rfl ((joinB ops) ++ (⟨#[32]⟩ : ByteArray)) (⟨#[124, 32, 114]⟩ : ByteArray) (by kernel_rfl) (by kernel_rfl) (by have hd := dig_size (m := row.toNat) (by unfold I64 at hr; omega); simp only [ByteArray.size_append, litz1, litz3]; omega) ?_)
      refine Gx.pure [2] [3, 4, 5, 6] [(94, .pointer (some ⟨k1, 2, none⟩))] rfl (by kernel_rfl) ?_
      refine Gx.cons (Gx.op_load rfl (by kernel_rfl) rfl 2 (.int .i64 row) (by kernel_rfl) b2 (by kernel_rfl) ?_)
      refine Gx.cons (Gx.op_call rfl (by kernel_rfl) (by kernel_rfl) (fun R hR => digits_i row _ R (by unfold I64 at *; omega) (by unfold I64 at *; omega) (fun w4 x4  => hR _ _ ?_)))
      have zw4 := x4.size
      refine Gx.cons (Gx.op_concat rfl (by kernel_rfl) rfl (((joinB ops) ++ (⟨#[32]⟩ : ByteArray)) ++ (⟨#[124, 32, 114]⟩ : ByteArray)) (digB row.toNat) (by kernel_rfl) (by kernel_rfl) (by have hd := dig_size (m := row.toNat) (by unfold I64 at hr; omega); simp only [ByteArray.size_append, litz1, litz3]; omega) ?_)
      refine Gx.pure [6] [] [(3, .string ((((joinB ops) ++ (⟨#[32]⟩ : ByteArray)) ++ (⟨#[124, 32, 114]⟩ : ByteArray)) ++ (digB row.toNat)))] rfl (by kernel_rfl) ?_
      refine Gx.ops_nil ?_
      refine Gx.then_normal ?_
      refine Gx.seq_run [(5, .string (⟨#[32, 45, 62, 32]⟩ : ByteArray))] (by kernel_rfl) ?_
      refine wp_seq ?_
      refine Gx.seq_run [(99, .bool (!(((((joinB ops) ++ (⟨#[32]⟩ : ByteArray)) ++ (⟨#[124, 32, 114]⟩ : ByteArray)) ++ (digB row.toNat)).toList == (⟨#[]⟩ : ByteArray).toList))), (98, .string ((((joinB ops) ++ (⟨#[32]⟩ : ByteArray)) ++ (⟨#[124, 32, 114]⟩ : ByteArray)) ++ (digB row.toNat)))] (by kernel_rfl) ?_
      refine Gx.cond (!(((((joinB ops) ++ (⟨#[32]⟩ : ByteArray)) ++ (⟨#[124, 32, 114]⟩ : ByteArray)) ++ (digB row.toNat)).toList == (⟨#[]⟩ : ByteArray).toList)) (by kernel_rfl) (fun h_c99 => ?_) (fun h_c99 => ?_)
      · skip
        refine Gx.reg [0, 1, 2, 3] (by kernel_rfl) ?_
        refine Gx.pure [0] [1, 2, 3] [(100, .string ((((joinB ops) ++ (⟨#[32]⟩ : ByteArray)) ++ (⟨#[124, 32, 114]⟩ : ByteArray)) ++ (digB row.toNat)))] rfl (by kernel_rfl) ?_
        have p_c99 := h_c99; try simp [-List.getD_eq_getElem?_getD] at p_c99
        refine Gx.cons (Gx.op_concat rfl (by kernel_rfl) rfl (⟨#[32, 45, 123]⟩ : ByteArray) ((((joinB ops) ++ (⟨#[32]⟩ : ByteArray)) ++ (⟨#[124, 32, 114]⟩ : ByteArray)) ++ (digB row.toNat)) (by kernel_rfl) (by kernel_rfl) (by have hd := dig_size (m := row.toNat) (by unfold I64 at hr; omega); simp only [ByteArray.size_append, litz1, litz3]; omega) ?_)
        refine Gx.cons (Gx.op_concat rfl (by kernel_rfl) rfl ((⟨#[32, 45, 123]⟩ : ByteArray) ++ ((((joinB ops) ++ (⟨#[32]⟩ : ByteArray)) ++ (⟨#[124, 32, 114]⟩ : ByteArray)) ++ (digB row.toNat))) (⟨#[125, 45, 62, 32]⟩ : ByteArray) (by kernel_rfl) (by kernel_rfl) (by have hd := dig_size (m := row.toNat) (by unfold I64 at hr; omega); simp only [ByteArray.size_append, litz1, litz3, litz4]; omega) ?_)
        refine Gx.pure [3] [] [(5, .string (((⟨#[32, 45, 123]⟩ : ByteArray) ++ ((((joinB ops) ++ (⟨#[32]⟩ : ByteArray)) ++ (⟨#[124, 32, 114]⟩ : ByteArray)) ++ (digB row.toNat))) ++ (⟨#[125, 45, 62, 32]⟩ : ByteArray)))] rfl (by kernel_rfl) ?_
        refine Gx.ops_nil ?_
        refine Gx.then_normal ?_
        refine wp_seq ?_
        refine Gx.draw (S := fun w' => Gx.Has w' k1 (.cells #[.int .i64 6, .int .i64 n, .int .i64 row, .slice A1 ops.length c1, .slice A2 2 c2] 25) ∧ Gx.Ext w w') (by kernel_rfl) (fun w5 x5 => ?_)
        have zw5 := x5.size
        refine Gx.any_take 0 (.pointer (some ⟨k1, 4, none⟩)) rfl (by kernel_rfl) (by kernel_rfl) (by kernel_rfl) (fun _ _ _ h => h) ⟨((b2.ext x4).ext x5), ((((Gx.Ext.refl w).trans x3).trans x4).trans x5)⟩ (by kernel_rfl) (fun _ _ => (by kernel_rfl)) ?_
        refine Gx.any_take 1 (.slice A2 2 c2) rfl (by kernel_rfl) (by kernel_rfl) (by kernel_rfl) (fun _ _ _ h => h) ⟨((b2.ext x4).ext x5), ((((Gx.Ext.refl w).trans x3).trans x4).trans x5)⟩ (by kernel_rfl) (fun _ hs => Gx.run_load rfl 4 (.slice A2 2 c2) (by kernel_rfl) hs.1 (by kernel_rfl)) ?_
        obtain ⟨a3, ha3, hc3⟩ := (Gx.Rd.ext ha (by decide) hE) 0 (by omega)
        refine Gx.any_take 2 (.pointer (some (a3.add (0 * 5)))) rfl (by kernel_rfl) (by kernel_rfl) (by kernel_rfl) (fun _ _ _ h => h) ⟨((b2.ext x4).ext x5), ((((Gx.Ext.refl w).trans x3).trans x4).trans x5)⟩ (by kernel_rfl) (fun _ _ => Gx.run_indexAddrO rfl 25 5 (by kernel_rfl) (by kernel_rfl) a3 ha3 2 c2 (by kernel_rfl) .i64 0 (by kernel_rfl) (by omega)) ?_
        refine Gx.any_take 3 ((.agg (cs 0).toArray)) rfl (by kernel_rfl) (by kernel_rfl) (by kernel_rfl) (fun _ _ _ h => h) ⟨((b2.ext x4).ext x5), ((((Gx.Ext.refl w).trans x3).trans x4).trans x5)⟩ (by kernel_rfl) (fun _ hs => Gx.run_loadAgg rfl (by kernel_rfl) 5 (Gx.cells_ext hc3 (by decide) hs.2) (by kernel_rfl)) ?_
        refine Gx.any_take 5 (.string (((⟨#[32, 45, 123]⟩ : ByteArray) ++ ((((joinB ops) ++ (⟨#[32]⟩ : ByteArray)) ++ (⟨#[124, 32, 114]⟩ : ByteArray)) ++ (digB row.toNat))) ++ (⟨#[125, 45, 62, 32]⟩ : ByteArray))) rfl (by kernel_rfl) (by kernel_rfl) (by kernel_rfl) (fun _ _ _ h => h) ⟨((b2.ext x4).ext x5), ((((Gx.Ext.refl w).trans x3).trans x4).trans x5)⟩ (by kernel_rfl) (fun _ _ => (by kernel_rfl)) ?_
        refine Gx.any_take 7 (.pointer (some ⟨k1, 4, none⟩)) rfl (by kernel_rfl) (by kernel_rfl) (by kernel_rfl) (fun _ _ _ h => h) ⟨((b2.ext x4).ext x5), ((((Gx.Ext.refl w).trans x3).trans x4).trans x5)⟩ (by kernel_rfl) (fun _ _ => (by kernel_rfl)) ?_
        refine Gx.any_take 8 (.slice A2 2 c2) rfl (by kernel_rfl) (by kernel_rfl) (by kernel_rfl) (fun _ _ _ h => h) ⟨((b2.ext x4).ext x5), ((((Gx.Ext.refl w).trans x3).trans x4).trans x5)⟩ (by kernel_rfl) (fun _ hs => Gx.run_load rfl 4 (.slice A2 2 c2) (by kernel_rfl) hs.1 (by kernel_rfl)) ?_
        obtain ⟨a4, ha4, hc4⟩ := (Gx.Rd.ext ha (by decide) hE) 1 (by omega)
        refine Gx.any_take 9 (.pointer (some (a4.add (1 * 5)))) rfl (by kernel_rfl) (by kernel_rfl) (by kernel_rfl) (fun _ _ _ h => h) ⟨((b2.ext x4).ext x5), ((((Gx.Ext.refl w).trans x3).trans x4).trans x5)⟩ (by kernel_rfl) (fun _ _ => Gx.run_indexAddrO rfl 25 5 (by kernel_rfl) (by kernel_rfl) a4 ha4 2 c2 (by kernel_rfl) .i64 1 (by kernel_rfl) (by omega)) ?_
        refine Gx.any_take 10 ((.agg (cs 1).toArray)) rfl (by kernel_rfl) (by kernel_rfl) (by kernel_rfl) (fun _ _ _ h => h) ⟨((b2.ext x4).ext x5), ((((Gx.Ext.refl w).trans x3).trans x4).trans x5)⟩ (by kernel_rfl) (fun _ hs => Gx.run_loadAgg rfl (by kernel_rfl) 5 (Gx.cells_ext hc4 (by decide) hs.2) (by kernel_rfl)) ?_
        refine Gx.any_one 4 (by kernel_rfl) (Gx.op_call rfl (by kernel_rfl) (by kernel_rfl) (fun R hR => ihI 0 (by omega) (1 : Int) _ R (Gx.Ext.trans hE ((((Gx.Ext.refl w).trans x3).trans x4).trans x5)) (fun w6 x6  => hR _ _ ⟨⟨(((b2.ext x4).ext x5).ext x6), (((((Gx.Ext.refl w).trans x3).trans x4).trans x5).trans x6)⟩, ?_⟩)))
        have zw6 := x6.size
        refine Gx.any_take 6 (.string ((inP (1 : Int) (args.getD 0 ty0)) ++ (((⟨#[32, 45, 123]⟩ : ByteArray) ++ ((((joinB ops) ++ (⟨#[32]⟩ : ByteArray)) ++ (⟨#[124, 32, 114]⟩ : ByteArray)) ++ (digB row.toNat))) ++ (⟨#[125, 45, 62, 32]⟩ : ByteArray)))) rfl (by kernel_rfl) (by kernel_rfl) (by kernel_rfl) (fun _ _ _ h => h) ⟨(((b2.ext x4).ext x5).ext x6), (((((Gx.Ext.refl w).trans x3).trans x4).trans x5).trans x6)⟩ (by kernel_rfl) (fun _ _ => Gx.run_concat rfl (inP (1 : Int) (args.getD 0 ty0)) (((⟨#[32, 45, 123]⟩ : ByteArray) ++ ((((joinB ops) ++ (⟨#[32]⟩ : ByteArray)) ++ (⟨#[124, 32, 114]⟩ : ByteArray)) ++ (digB row.toNat))) ++ (⟨#[125, 45, 62, 32]⟩ : ByteArray)) (by kernel_rfl) (by kernel_rfl) (by have hd := dig_size (m := row.toNat) (by unfold I64 at hr; omega); simp only [ByteArray.size_append, litz1, litz3, litz4]; omega)) ?_
        refine Gx.any_one 11 (by kernel_rfl) (Gx.op_call rfl (by kernel_rfl) (by kernel_rfl) (fun R hR => ihI 1 (by omega) (0 : Int) _ R (Gx.Ext.trans hE (((((Gx.Ext.refl w).trans x3).trans x4).trans x5).trans x6)) (fun w7 x7  => hR _ _ ⟨⟨((((b2.ext x4).ext x5).ext x6).ext x7), ((((((Gx.Ext.refl w).trans x3).trans x4).trans x5).trans x6).trans x7)⟩, ?_⟩)))
        have zw7 := x7.size
        refine Gx.any_take 12 (.string (((inP (1 : Int) (args.getD 0 ty0)) ++ (((⟨#[32, 45, 123]⟩ : ByteArray) ++ ((((joinB ops) ++ (⟨#[32]⟩ : ByteArray)) ++ (⟨#[124, 32, 114]⟩ : ByteArray)) ++ (digB row.toNat))) ++ (⟨#[125, 45, 62, 32]⟩ : ByteArray))) ++ (inP (0 : Int) (args.getD 1 ty0)))) rfl (by kernel_rfl) (by kernel_rfl) (by kernel_rfl) (fun _ _ _ h => h) ⟨((((b2.ext x4).ext x5).ext x6).ext x7), ((((((Gx.Ext.refl w).trans x3).trans x4).trans x5).trans x6).trans x7)⟩ (by kernel_rfl) (fun _ _ => Gx.run_concat rfl ((inP (1 : Int) (args.getD 0 ty0)) ++ (((⟨#[32, 45, 123]⟩ : ByteArray) ++ ((((joinB ops) ++ (⟨#[32]⟩ : ByteArray)) ++ (⟨#[124, 32, 114]⟩ : ByteArray)) ++ (digB row.toNat))) ++ (⟨#[125, 45, 62, 32]⟩ : ByteArray))) (inP (0 : Int) (args.getD 1 ty0)) (by kernel_rfl) (by kernel_rfl) (by have hd := dig_size (m := row.toNat) (by unfold I64 at hr; omega); simp only [ByteArray.size_append, litz1, litz3, litz4]; omega)) ?_
        refine Gx.any_take 13 (.string (((inP (1 : Int) (args.getD 0 ty0)) ++ (((⟨#[32, 45, 123]⟩ : ByteArray) ++ ((((joinB ops) ++ (⟨#[32]⟩ : ByteArray)) ++ (⟨#[124, 32, 114]⟩ : ByteArray)) ++ (digB row.toNat))) ++ (⟨#[125, 45, 62, 32]⟩ : ByteArray))) ++ (inP (0 : Int) (args.getD 1 ty0)))) rfl (by kernel_rfl) (by kernel_rfl) (by kernel_rfl) (fun _ _ _ h => h) ⟨((((b2.ext x4).ext x5).ext x6).ext x7), ((((((Gx.Ext.refl w).trans x3).trans x4).trans x5).trans x6).trans x7)⟩ (by kernel_rfl) (fun _ _ => (by kernel_rfl)) ?_
        refine Gx.any_done (by kernel_rfl) ?_
        refine Gx.then_normal ?_
        refine wp_ret ?_
        refine Gx.ret (v := .string (((inP (1 : Int) (args.getD 0 ty0)) ++ (((⟨#[32, 45, 123]⟩ : ByteArray) ++ ((((joinB ops) ++ (⟨#[32]⟩ : ByteArray)) ++ (⟨#[124, 32, 114]⟩ : ByteArray)) ++ (digB row.toNat))) ++ (⟨#[125, 45, 62, 32]⟩ : ByteArray))) ++ (inP (0 : Int) (args.getD 1 ty0)))) (Gx.res1 rfl (by kernel_rfl)) ?_
        exact Gx.ret_as (v' := .string (showP (.mk 6 n row ops args))) (by rw [show_6 hlen]; unfold arrB rowB bS bR bL bE bArr; rw [if_pos (show row > 0 by simpa using h_c87), if_pos h_c89, if_pos h_c99]) (hK _ ((((((Gx.Ext.refl w).trans x3).trans x4).trans x5).trans x6).trans x7))
      refine wp_skip ?_
      refine Gx.then_normal ?_
      refine wp_seq ?_
      refine Gx.draw (S := fun w' => Gx.Has w' k1 (.cells #[.int .i64 6, .int .i64 n, .int .i64 row, .slice A1 ops.length c1, .slice A2 2 c2] 25) ∧ Gx.Ext w w') (by kernel_rfl) (fun w8 x8 => ?_)
      have zw8 := x8.size
      refine Gx.any_take 0 (.pointer (some ⟨k1, 4, none⟩)) rfl (by kernel_rfl) (by kernel_rfl) (by kernel_rfl) (fun _ _ _ h => h) ⟨((b2.ext x4).ext x8), ((((Gx.Ext.refl w).trans x3).trans x4).trans x8)⟩ (by kernel_rfl) (fun _ _ => (by kernel_rfl)) ?_
      refine Gx.any_take 1 (.slice A2 2 c2) rfl (by kernel_rfl) (by kernel_rfl) (by kernel_rfl) (fun _ _ _ h => h) ⟨((b2.ext x4).ext x8), ((((Gx.Ext.refl w).trans x3).trans x4).trans x8)⟩ (by kernel_rfl) (fun _ hs => Gx.run_load rfl 4 (.slice A2 2 c2) (by kernel_rfl) hs.1 (by kernel_rfl)) ?_
      have p_c99 := h_c99; try simp [-List.getD_eq_getElem?_getD] at p_c99
      obtain ⟨a5, ha5, hc5⟩ := (Gx.Rd.ext ha (by decide) hE) 0 (by omega)
      refine Gx.any_take 2 (.pointer (some (a5.add (0 * 5)))) rfl (by kernel_rfl) (by kernel_rfl) (by kernel_rfl) (fun _ _ _ h => h) ⟨((b2.ext x4).ext x8), ((((Gx.Ext.refl w).trans x3).trans x4).trans x8)⟩ (by kernel_rfl) (fun _ _ => Gx.run_indexAddrO rfl 25 5 (by kernel_rfl) (by kernel_rfl) a5 ha5 2 c2 (by kernel_rfl) .i64 0 (by kernel_rfl) (by omega)) ?_
      refine Gx.any_take 3 ((.agg (cs 0).toArray)) rfl (by kernel_rfl) (by kernel_rfl) (by kernel_rfl) (fun _ _ _ h => h) ⟨((b2.ext x4).ext x8), ((((Gx.Ext.refl w).trans x3).trans x4).trans x8)⟩ (by kernel_rfl) (fun _ hs => Gx.run_loadAgg rfl (by kernel_rfl) 5 (Gx.cells_ext hc5 (by decide) hs.2) (by kernel_rfl)) ?_
      refine Gx.any_take 5 (.string (⟨#[32, 45, 62, 32]⟩ : ByteArray)) rfl (by kernel_rfl) (by kernel_rfl) (by kernel_rfl) (fun _ _ _ h => h) ⟨((b2.ext x4).ext x8), ((((Gx.Ext.refl w).trans x3).trans x4).trans x8)⟩ (by kernel_rfl) (fun _ _ => (by kernel_rfl)) ?_
      refine Gx.any_take 7 (.pointer (some ⟨k1, 4, none⟩)) rfl (by kernel_rfl) (by kernel_rfl) (by kernel_rfl) (fun _ _ _ h => h) ⟨((b2.ext x4).ext x8), ((((Gx.Ext.refl w).trans x3).trans x4).trans x8)⟩ (by kernel_rfl) (fun _ _ => (by kernel_rfl)) ?_
      refine Gx.any_take 8 (.slice A2 2 c2) rfl (by kernel_rfl) (by kernel_rfl) (by kernel_rfl) (fun _ _ _ h => h) ⟨((b2.ext x4).ext x8), ((((Gx.Ext.refl w).trans x3).trans x4).trans x8)⟩ (by kernel_rfl) (fun _ hs => Gx.run_load rfl 4 (.slice A2 2 c2) (by kernel_rfl) hs.1 (by kernel_rfl)) ?_
      obtain ⟨a6, ha6, hc6⟩ := (Gx.Rd.ext ha (by decide) hE) 1 (by omega)
      refine Gx.any_take 9 (.pointer (some (a6.add (1 * 5)))) rfl (by kernel_rfl) (by kernel_rfl) (by kernel_rfl) (fun _ _ _ h => h) ⟨((b2.ext x4).ext x8), ((((Gx.Ext.refl w).trans x3).trans x4).trans x8)⟩ (by kernel_rfl) (fun _ _ => Gx.run_indexAddrO rfl 25 5 (by kernel_rfl) (by kernel_rfl) a6 ha6 2 c2 (by kernel_rfl) .i64 1 (by kernel_rfl) (by omega)) ?_
      refine Gx.any_take 10 ((.agg (cs 1).toArray)) rfl (by kernel_rfl) (by kernel_rfl) (by kernel_rfl) (fun _ _ _ h => h) ⟨((b2.ext x4).ext x8), ((((Gx.Ext.refl w).trans x3).trans x4).trans x8)⟩ (by kernel_rfl) (fun _ hs => Gx.run_loadAgg rfl (by kernel_rfl) 5 (Gx.cells_ext hc6 (by decide) hs.2) (by kernel_rfl)) ?_
      refine Gx.any_one 4 (by kernel_rfl) (Gx.op_call rfl (by kernel_rfl) (by kernel_rfl) (fun R hR => ihI 0 (by omega) (1 : Int) _ R (Gx.Ext.trans hE ((((Gx.Ext.refl w).trans x3).trans x4).trans x8)) (fun w9 x9  => hR _ _ ⟨⟨(((b2.ext x4).ext x8).ext x9), (((((Gx.Ext.refl w).trans x3).trans x4).trans x8).trans x9)⟩, ?_⟩)))
      have zw9 := x9.size
      refine Gx.any_take 6 (.string ((inP (1 : Int) (args.getD 0 ty0)) ++ (⟨#[32, 45, 62, 32]⟩ : ByteArray))) rfl (by kernel_rfl) (by kernel_rfl) (by kernel_rfl) (fun _ _ _ h => h) ⟨(((b2.ext x4).ext x8).ext x9), (((((Gx.Ext.refl w).trans x3).trans x4).trans x8).trans x9)⟩ (by kernel_rfl) (fun _ _ => Gx.run_concat rfl (inP (1 : Int) (args.getD 0 ty0)) (⟨#[32, 45, 62, 32]⟩ : ByteArray) (by kernel_rfl) (by kernel_rfl) (by have hd := dig_size (m := row.toNat) (by unfold I64 at hr; omega); simp only [litz4]; omega)) ?_
      refine Gx.any_one 11 (by kernel_rfl) (Gx.op_call rfl (by kernel_rfl) (by kernel_rfl) (fun R hR => ihI 1 (by omega) (0 : Int) _ R (Gx.Ext.trans hE (((((Gx.Ext.refl w).trans x3).trans x4).trans x8).trans x9)) (fun w10 x10  => hR _ _ ⟨⟨((((b2.ext x4).ext x8).ext x9).ext x10), ((((((Gx.Ext.refl w).trans x3).trans x4).trans x8).trans x9).trans x10)⟩, ?_⟩)))
      have zw10 := x10.size
      refine Gx.any_take 12 (.string (((inP (1 : Int) (args.getD 0 ty0)) ++ (⟨#[32, 45, 62, 32]⟩ : ByteArray)) ++ (inP (0 : Int) (args.getD 1 ty0)))) rfl (by kernel_rfl) (by kernel_rfl) (by kernel_rfl) (fun _ _ _ h => h) ⟨((((b2.ext x4).ext x8).ext x9).ext x10), ((((((Gx.Ext.refl w).trans x3).trans x4).trans x8).trans x9).trans x10)⟩ (by kernel_rfl) (fun _ _ => Gx.run_concat rfl ((inP (1 : Int) (args.getD 0 ty0)) ++ (⟨#[32, 45, 62, 32]⟩ : ByteArray)) (inP (0 : Int) (args.getD 1 ty0)) (by kernel_rfl) (by kernel_rfl) (by have hd := dig_size (m := row.toNat) (by unfold I64 at hr; omega); simp only [ByteArray.size_append, litz4]; omega)) ?_
      refine Gx.any_take 13 (.string (((inP (1 : Int) (args.getD 0 ty0)) ++ (⟨#[32, 45, 62, 32]⟩ : ByteArray)) ++ (inP (0 : Int) (args.getD 1 ty0)))) rfl (by kernel_rfl) (by kernel_rfl) (by kernel_rfl) (fun _ _ _ h => h) ⟨((((b2.ext x4).ext x8).ext x9).ext x10), ((((((Gx.Ext.refl w).trans x3).trans x4).trans x8).trans x9).trans x10)⟩ (by kernel_rfl) (fun _ _ => (by kernel_rfl)) ?_
      refine Gx.any_done (by kernel_rfl) ?_
      refine Gx.then_normal ?_
      refine wp_ret ?_
      refine Gx.ret (v := .string (((inP (1 : Int) (args.getD 0 ty0)) ++ (⟨#[32, 45, 62, 32]⟩ : ByteArray)) ++ (inP (0 : Int) (args.getD 1 ty0)))) (Gx.res1 rfl (by kernel_rfl)) ?_
      exact Gx.ret_as (v' := .string (showP (.mk 6 n row ops args))) (by rw [show_6 hlen]; unfold arrB rowB bS bR bL bE bArr; rw [if_pos (show row > 0 by simpa using h_c87), if_pos h_c89, if_neg (fun q => Bool.false_ne_true (h_c99.symm.trans q))]) (hK _ ((((((Gx.Ext.refl w).trans x3).trans x4).trans x8).trans x9).trans x10))
    refine wp_skip ?_
    refine Gx.then_normal ?_
    refine Gx.reg [0, 1, 2, 3, 4, 5, 6] (by kernel_rfl) ?_
    refine Gx.pure [0] [1, 2, 3, 4, 5, 6] [(92, .string (joinB ops))] rfl (by kernel_rfl) ?_
    have p_c87 := h_c87; try simp [-List.getD_eq_getElem?_getD] at p_c87
    have p_c89 := h_c89; try simp [-List.getD_eq_getElem?_getD] at p_c89
    refine Gx.cons (Gx.op_concat rfl (by kernel_rfl) rfl (joinB ops) (⟨#[124, 32, 114]⟩ : ByteArray) (by kernel_rfl) (by kernel_rfl) (by have hd := dig_size (m := row.toNat) (by unfold I64 at hr; omega); simp only [litz3]; omega) ?_)
    refine Gx.pure [2] [3, 4, 5, 6] [(94, .pointer (some ⟨k1, 2, none⟩))] rfl (by kernel_rfl) ?_
    refine Gx.cons (Gx.op_load rfl (by kernel_rfl) rfl 2 (.int .i64 row) (by kernel_rfl) b2 (by kernel_rfl) ?_)
    refine Gx.cons (Gx.op_call rfl (by kernel_rfl) (by kernel_rfl) (fun R hR => digits_i row _ R (by unfold I64 at *; omega) (by unfold I64 at *; omega) (fun w11 x11  => hR _ _ ?_)))
    have zw11 := x11.size
    refine Gx.cons (Gx.op_concat rfl (by kernel_rfl) rfl ((joinB ops) ++ (⟨#[124, 32, 114]⟩ : ByteArray)) (digB row.toNat) (by kernel_rfl) (by kernel_rfl) (by have hd := dig_size (m := row.toNat) (by unfold I64 at hr; omega); simp only [ByteArray.size_append, litz3]; omega) ?_)
    refine Gx.pure [6] [] [(3, .string (((joinB ops) ++ (⟨#[124, 32, 114]⟩ : ByteArray)) ++ (digB row.toNat)))] rfl (by kernel_rfl) ?_
    refine Gx.ops_nil ?_
    refine Gx.then_normal ?_
    refine Gx.seq_run [(5, .string (⟨#[32, 45, 62, 32]⟩ : ByteArray))] (by kernel_rfl) ?_
    refine wp_seq ?_
    refine Gx.seq_run [(99, .bool (!((((joinB ops) ++ (⟨#[124, 32, 114]⟩ : ByteArray)) ++ (digB row.toNat)).toList == (⟨#[]⟩ : ByteArray).toList))), (98, .string (((joinB ops) ++ (⟨#[124, 32, 114]⟩ : ByteArray)) ++ (digB row.toNat)))] (by kernel_rfl) ?_
    refine Gx.cond (!((((joinB ops) ++ (⟨#[124, 32, 114]⟩ : ByteArray)) ++ (digB row.toNat)).toList == (⟨#[]⟩ : ByteArray).toList)) (by kernel_rfl) (fun h_c99 => ?_) (fun h_c99 => ?_)
    · skip
      refine Gx.reg [0, 1, 2, 3] (by kernel_rfl) ?_
      refine Gx.pure [0] [1, 2, 3] [(100, .string (((joinB ops) ++ (⟨#[124, 32, 114]⟩ : ByteArray)) ++ (digB row.toNat)))] rfl (by kernel_rfl) ?_
      have p_c99 := h_c99; try simp [-List.getD_eq_getElem?_getD] at p_c99
      refine Gx.cons (Gx.op_concat rfl (by kernel_rfl) rfl (⟨#[32, 45, 123]⟩ : ByteArray) (((joinB ops) ++ (⟨#[124, 32, 114]⟩ : ByteArray)) ++ (digB row.toNat)) (by kernel_rfl) (by kernel_rfl) (by have hd := dig_size (m := row.toNat) (by unfold I64 at hr; omega); simp only [ByteArray.size_append, litz3]; omega) ?_)
      refine Gx.cons (Gx.op_concat rfl (by kernel_rfl) rfl ((⟨#[32, 45, 123]⟩ : ByteArray) ++ (((joinB ops) ++ (⟨#[124, 32, 114]⟩ : ByteArray)) ++ (digB row.toNat))) (⟨#[125, 45, 62, 32]⟩ : ByteArray) (by kernel_rfl) (by kernel_rfl) (by have hd := dig_size (m := row.toNat) (by unfold I64 at hr; omega); simp only [ByteArray.size_append, litz3, litz4]; omega) ?_)
      refine Gx.pure [3] [] [(5, .string (((⟨#[32, 45, 123]⟩ : ByteArray) ++ (((joinB ops) ++ (⟨#[124, 32, 114]⟩ : ByteArray)) ++ (digB row.toNat))) ++ (⟨#[125, 45, 62, 32]⟩ : ByteArray)))] rfl (by kernel_rfl) ?_
      refine Gx.ops_nil ?_
      refine Gx.then_normal ?_
      refine wp_seq ?_
      refine Gx.draw (S := fun w' => Gx.Has w' k1 (.cells #[.int .i64 6, .int .i64 n, .int .i64 row, .slice A1 ops.length c1, .slice A2 2 c2] 25) ∧ Gx.Ext w w') (by kernel_rfl) (fun w12 x12 => ?_)
      have zw12 := x12.size
      refine Gx.any_take 0 (.pointer (some ⟨k1, 4, none⟩)) rfl (by kernel_rfl) (by kernel_rfl) (by kernel_rfl) (fun _ _ _ h => h) ⟨((b2.ext x11).ext x12), ((((Gx.Ext.refl w).trans x3).trans x11).trans x12)⟩ (by kernel_rfl) (fun _ _ => (by kernel_rfl)) ?_
      refine Gx.any_take 1 (.slice A2 2 c2) rfl (by kernel_rfl) (by kernel_rfl) (by kernel_rfl) (fun _ _ _ h => h) ⟨((b2.ext x11).ext x12), ((((Gx.Ext.refl w).trans x3).trans x11).trans x12)⟩ (by kernel_rfl) (fun _ hs => Gx.run_load rfl 4 (.slice A2 2 c2) (by kernel_rfl) hs.1 (by kernel_rfl)) ?_
      obtain ⟨a7, ha7, hc7⟩ := (Gx.Rd.ext ha (by decide) hE) 0 (by omega)
      refine Gx.any_take 2 (.pointer (some (a7.add (0 * 5)))) rfl (by kernel_rfl) (by kernel_rfl) (by kernel_rfl) (fun _ _ _ h => h) ⟨((b2.ext x11).ext x12), ((((Gx.Ext.refl w).trans x3).trans x11).trans x12)⟩ (by kernel_rfl) (fun _ _ => Gx.run_indexAddrO rfl 25 5 (by kernel_rfl) (by kernel_rfl) a7 ha7 2 c2 (by kernel_rfl) .i64 0 (by kernel_rfl) (by omega)) ?_
      refine Gx.any_take 3 ((.agg (cs 0).toArray)) rfl (by kernel_rfl) (by kernel_rfl) (by kernel_rfl) (fun _ _ _ h => h) ⟨((b2.ext x11).ext x12), ((((Gx.Ext.refl w).trans x3).trans x11).trans x12)⟩ (by kernel_rfl) (fun _ hs => Gx.run_loadAgg rfl (by kernel_rfl) 5 (Gx.cells_ext hc7 (by decide) hs.2) (by kernel_rfl)) ?_
      refine Gx.any_take 5 (.string (((⟨#[32, 45, 123]⟩ : ByteArray) ++ (((joinB ops) ++ (⟨#[124, 32, 114]⟩ : ByteArray)) ++ (digB row.toNat))) ++ (⟨#[125, 45, 62, 32]⟩ : ByteArray))) rfl (by kernel_rfl) (by kernel_rfl) (by kernel_rfl) (fun _ _ _ h => h) ⟨((b2.ext x11).ext x12), ((((Gx.Ext.refl w).trans x3).trans x11).trans x12)⟩ (by kernel_rfl) (fun _ _ => (by kernel_rfl)) ?_
      refine Gx.any_take 7 (.pointer (some ⟨k1, 4, none⟩)) rfl (by kernel_rfl) (by kernel_rfl) (by kernel_rfl) (fun _ _ _ h => h) ⟨((b2.ext x11).ext x12), ((((Gx.Ext.refl w).trans x3).trans x11).trans x12)⟩ (by kernel_rfl) (fun _ _ => (by kernel_rfl)) ?_
      refine Gx.any_take 8 (.slice A2 2 c2) rfl (by kernel_rfl) (by kernel_rfl) (by kernel_rfl) (fun _ _ _ h => h) ⟨((b2.ext x11).ext x12), ((((Gx.Ext.refl w).trans x3).trans x11).trans x12)⟩ (by kernel_rfl) (fun _ hs => Gx.run_load rfl 4 (.slice A2 2 c2) (by kernel_rfl) hs.1 (by kernel_rfl)) ?_
      obtain ⟨a8, ha8, hc8⟩ := (Gx.Rd.ext ha (by decide) hE) 1 (by omega)
      refine Gx.any_take 9 (.pointer (some (a8.add (1 * 5)))) rfl (by kernel_rfl) (by kernel_rfl) (by kernel_rfl) (fun _ _ _ h => h) ⟨((b2.ext x11).ext x12), ((((Gx.Ext.refl w).trans x3).trans x11).trans x12)⟩ (by kernel_rfl) (fun _ _ => Gx.run_indexAddrO rfl 25 5 (by kernel_rfl) (by kernel_rfl) a8 ha8 2 c2 (by kernel_rfl) .i64 1 (by kernel_rfl) (by omega)) ?_
      refine Gx.any_take 10 ((.agg (cs 1).toArray)) rfl (by kernel_rfl) (by kernel_rfl) (by kernel_rfl) (fun _ _ _ h => h) ⟨((b2.ext x11).ext x12), ((((Gx.Ext.refl w).trans x3).trans x11).trans x12)⟩ (by kernel_rfl) (fun _ hs => Gx.run_loadAgg rfl (by kernel_rfl) 5 (Gx.cells_ext hc8 (by decide) hs.2) (by kernel_rfl)) ?_
      refine Gx.any_one 4 (by kernel_rfl) (Gx.op_call rfl (by kernel_rfl) (by kernel_rfl) (fun R hR => ihI 0 (by omega) (1 : Int) _ R (Gx.Ext.trans hE ((((Gx.Ext.refl w).trans x3).trans x11).trans x12)) (fun w13 x13  => hR _ _ ⟨⟨(((b2.ext x11).ext x12).ext x13), (((((Gx.Ext.refl w).trans x3).trans x11).trans x12).trans x13)⟩, ?_⟩)))
      have zw13 := x13.size
      refine Gx.any_take 6 (.string ((inP (1 : Int) (args.getD 0 ty0)) ++ (((⟨#[32, 45, 123]⟩ : ByteArray) ++ (((joinB ops) ++ (⟨#[124, 32, 114]⟩ : ByteArray)) ++ (digB row.toNat))) ++ (⟨#[125, 45, 62, 32]⟩ : ByteArray)))) rfl (by kernel_rfl) (by kernel_rfl) (by kernel_rfl) (fun _ _ _ h => h) ⟨(((b2.ext x11).ext x12).ext x13), (((((Gx.Ext.refl w).trans x3).trans x11).trans x12).trans x13)⟩ (by kernel_rfl) (fun _ _ => Gx.run_concat rfl (inP (1 : Int) (args.getD 0 ty0)) (((⟨#[32, 45, 123]⟩ : ByteArray) ++ (((joinB ops) ++ (⟨#[124, 32, 114]⟩ : ByteArray)) ++ (digB row.toNat))) ++ (⟨#[125, 45, 62, 32]⟩ : ByteArray)) (by kernel_rfl) (by kernel_rfl) (by have hd := dig_size (m := row.toNat) (by unfold I64 at hr; omega); simp only [ByteArray.size_append, litz3, litz4]; omega)) ?_
      refine Gx.any_one 11 (by kernel_rfl) (Gx.op_call rfl (by kernel_rfl) (by kernel_rfl) (fun R hR => ihI 1 (by omega) (0 : Int) _ R (Gx.Ext.trans hE (((((Gx.Ext.refl w).trans x3).trans x11).trans x12).trans x13)) (fun w14 x14  => hR _ _ ⟨⟨((((b2.ext x11).ext x12).ext x13).ext x14), ((((((Gx.Ext.refl w).trans x3).trans x11).trans x12).trans x13).trans x14)⟩, ?_⟩)))
      have zw14 := x14.size
      refine Gx.any_take 12 (.string (((inP (1 : Int) (args.getD 0 ty0)) ++ (((⟨#[32, 45, 123]⟩ : ByteArray) ++ (((joinB ops) ++ (⟨#[124, 32, 114]⟩ : ByteArray)) ++ (digB row.toNat))) ++ (⟨#[125, 45, 62, 32]⟩ : ByteArray))) ++ (inP (0 : Int) (args.getD 1 ty0)))) rfl (by kernel_rfl) (by kernel_rfl) (by kernel_rfl) (fun _ _ _ h => h) ⟨((((b2.ext x11).ext x12).ext x13).ext x14), ((((((Gx.Ext.refl w).trans x3).trans x11).trans x12).trans x13).trans x14)⟩ (by kernel_rfl) (fun _ _ => Gx.run_concat rfl ((inP (1 : Int) (args.getD 0 ty0)) ++ (((⟨#[32, 45, 123]⟩ : ByteArray) ++ (((joinB ops) ++ (⟨#[124, 32, 114]⟩ : ByteArray)) ++ (digB row.toNat))) ++ (⟨#[125, 45, 62, 32]⟩ : ByteArray))) (inP (0 : Int) (args.getD 1 ty0)) (by kernel_rfl) (by kernel_rfl) (by have hd := dig_size (m := row.toNat) (by unfold I64 at hr; omega); simp only [ByteArray.size_append, litz3, litz4]; omega)) ?_
      refine Gx.any_take 13 (.string (((inP (1 : Int) (args.getD 0 ty0)) ++ (((⟨#[32, 45, 123]⟩ : ByteArray) ++ (((joinB ops) ++ (⟨#[124, 32, 114]⟩ : ByteArray)) ++ (digB row.toNat))) ++ (⟨#[125, 45, 62, 32]⟩ : ByteArray))) ++ (inP (0 : Int) (args.getD 1 ty0)))) rfl (by kernel_rfl) (by kernel_rfl) (by kernel_rfl) (fun _ _ _ h => h) ⟨((((b2.ext x11).ext x12).ext x13).ext x14), ((((((Gx.Ext.refl w).trans x3).trans x11).trans x12).trans x13).trans x14)⟩ (by kernel_rfl) (fun _ _ => (by kernel_rfl)) ?_
      refine Gx.any_done (by kernel_rfl) ?_
      refine Gx.then_normal ?_
      refine wp_ret ?_
      refine Gx.ret (v := .string (((inP (1 : Int) (args.getD 0 ty0)) ++ (((⟨#[32, 45, 123]⟩ : ByteArray) ++ (((joinB ops) ++ (⟨#[124, 32, 114]⟩ : ByteArray)) ++ (digB row.toNat))) ++ (⟨#[125, 45, 62, 32]⟩ : ByteArray))) ++ (inP (0 : Int) (args.getD 1 ty0)))) (Gx.res1 rfl (by kernel_rfl)) ?_
      exact Gx.ret_as (v' := .string (showP (.mk 6 n row ops args))) (by rw [show_6 hlen]; unfold arrB rowB bS bR bL bE bArr; rw [if_pos (show row > 0 by simpa using h_c87), if_neg (fun q => Bool.false_ne_true (h_c89.symm.trans q)), if_pos h_c99]) (hK _ ((((((Gx.Ext.refl w).trans x3).trans x11).trans x12).trans x13).trans x14))
    refine wp_skip ?_
    refine Gx.then_normal ?_
    refine wp_seq ?_
    refine Gx.draw (S := fun w' => Gx.Has w' k1 (.cells #[.int .i64 6, .int .i64 n, .int .i64 row, .slice A1 ops.length c1, .slice A2 2 c2] 25) ∧ Gx.Ext w w') (by kernel_rfl) (fun w15 x15 => ?_)
    have zw15 := x15.size
    refine Gx.any_take 0 (.pointer (some ⟨k1, 4, none⟩)) rfl (by kernel_rfl) (by kernel_rfl) (by kernel_rfl) (fun _ _ _ h => h) ⟨((b2.ext x11).ext x15), ((((Gx.Ext.refl w).trans x3).trans x11).trans x15)⟩ (by kernel_rfl) (fun _ _ => (by kernel_rfl)) ?_
    refine Gx.any_take 1 (.slice A2 2 c2) rfl (by kernel_rfl) (by kernel_rfl) (by kernel_rfl) (fun _ _ _ h => h) ⟨((b2.ext x11).ext x15), ((((Gx.Ext.refl w).trans x3).trans x11).trans x15)⟩ (by kernel_rfl) (fun _ hs => Gx.run_load rfl 4 (.slice A2 2 c2) (by kernel_rfl) hs.1 (by kernel_rfl)) ?_
    have p_c99 := h_c99; try simp [-List.getD_eq_getElem?_getD] at p_c99
    obtain ⟨a9, ha9, hc9⟩ := (Gx.Rd.ext ha (by decide) hE) 0 (by omega)
    refine Gx.any_take 2 (.pointer (some (a9.add (0 * 5)))) rfl (by kernel_rfl) (by kernel_rfl) (by kernel_rfl) (fun _ _ _ h => h) ⟨((b2.ext x11).ext x15), ((((Gx.Ext.refl w).trans x3).trans x11).trans x15)⟩ (by kernel_rfl) (fun _ _ => Gx.run_indexAddrO rfl 25 5 (by kernel_rfl) (by kernel_rfl) a9 ha9 2 c2 (by kernel_rfl) .i64 0 (by kernel_rfl) (by omega)) ?_
    refine Gx.any_take 3 ((.agg (cs 0).toArray)) rfl (by kernel_rfl) (by kernel_rfl) (by kernel_rfl) (fun _ _ _ h => h) ⟨((b2.ext x11).ext x15), ((((Gx.Ext.refl w).trans x3).trans x11).trans x15)⟩ (by kernel_rfl) (fun _ hs => Gx.run_loadAgg rfl (by kernel_rfl) 5 (Gx.cells_ext hc9 (by decide) hs.2) (by kernel_rfl)) ?_
    refine Gx.any_take 5 (.string (⟨#[32, 45, 62, 32]⟩ : ByteArray)) rfl (by kernel_rfl) (by kernel_rfl) (by kernel_rfl) (fun _ _ _ h => h) ⟨((b2.ext x11).ext x15), ((((Gx.Ext.refl w).trans x3).trans x11).trans x15)⟩ (by kernel_rfl) (fun _ _ => (by kernel_rfl)) ?_
    refine Gx.any_take 7 (.pointer (some ⟨k1, 4, none⟩)) rfl (by kernel_rfl) (by kernel_rfl) (by kernel_rfl) (fun _ _ _ h => h) ⟨((b2.ext x11).ext x15), ((((Gx.Ext.refl w).trans x3).trans x11).trans x15)⟩ (by kernel_rfl) (fun _ _ => (by kernel_rfl)) ?_
    refine Gx.any_take 8 (.slice A2 2 c2) rfl (by kernel_rfl) (by kernel_rfl) (by kernel_rfl) (fun _ _ _ h => h) ⟨((b2.ext x11).ext x15), ((((Gx.Ext.refl w).trans x3).trans x11).trans x15)⟩ (by kernel_rfl) (fun _ hs => Gx.run_load rfl 4 (.slice A2 2 c2) (by kernel_rfl) hs.1 (by kernel_rfl)) ?_
    obtain ⟨a10, ha10, hc10⟩ := (Gx.Rd.ext ha (by decide) hE) 1 (by omega)
    refine Gx.any_take 9 (.pointer (some (a10.add (1 * 5)))) rfl (by kernel_rfl) (by kernel_rfl) (by kernel_rfl) (fun _ _ _ h => h) ⟨((b2.ext x11).ext x15), ((((Gx.Ext.refl w).trans x3).trans x11).trans x15)⟩ (by kernel_rfl) (fun _ _ => Gx.run_indexAddrO rfl 25 5 (by kernel_rfl) (by kernel_rfl) a10 ha10 2 c2 (by kernel_rfl) .i64 1 (by kernel_rfl) (by omega)) ?_
    refine Gx.any_take 10 ((.agg (cs 1).toArray)) rfl (by kernel_rfl) (by kernel_rfl) (by kernel_rfl) (fun _ _ _ h => h) ⟨((b2.ext x11).ext x15), ((((Gx.Ext.refl w).trans x3).trans x11).trans x15)⟩ (by kernel_rfl) (fun _ hs => Gx.run_loadAgg rfl (by kernel_rfl) 5 (Gx.cells_ext hc10 (by decide) hs.2) (by kernel_rfl)) ?_
    refine Gx.any_one 4 (by kernel_rfl) (Gx.op_call rfl (by kernel_rfl) (by kernel_rfl) (fun R hR => ihI 0 (by omega) (1 : Int) _ R (Gx.Ext.trans hE ((((Gx.Ext.refl w).trans x3).trans x11).trans x15)) (fun w16 x16  => hR _ _ ⟨⟨(((b2.ext x11).ext x15).ext x16), (((((Gx.Ext.refl w).trans x3).trans x11).trans x15).trans x16)⟩, ?_⟩)))
    have zw16 := x16.size
    refine Gx.any_take 6 (.string ((inP (1 : Int) (args.getD 0 ty0)) ++ (⟨#[32, 45, 62, 32]⟩ : ByteArray))) rfl (by kernel_rfl) (by kernel_rfl) (by kernel_rfl) (fun _ _ _ h => h) ⟨(((b2.ext x11).ext x15).ext x16), (((((Gx.Ext.refl w).trans x3).trans x11).trans x15).trans x16)⟩ (by kernel_rfl) (fun _ _ => Gx.run_concat rfl (inP (1 : Int) (args.getD 0 ty0)) (⟨#[32, 45, 62, 32]⟩ : ByteArray) (by kernel_rfl) (by kernel_rfl) (by have hd := dig_size (m := row.toNat) (by unfold I64 at hr; omega); simp only [litz4]; omega)) ?_
    refine Gx.any_one 11 (by kernel_rfl) (Gx.op_call rfl (by kernel_rfl) (by kernel_rfl) (fun R hR => ihI 1 (by omega) (0 : Int) _ R (Gx.Ext.trans hE (((((Gx.Ext.refl w).trans x3).trans x11).trans x15).trans x16)) (fun w17 x17  => hR _ _ ⟨⟨((((b2.ext x11).ext x15).ext x16).ext x17), ((((((Gx.Ext.refl w).trans x3).trans x11).trans x15).trans x16).trans x17)⟩, ?_⟩)))
    have zw17 := x17.size
    refine Gx.any_take 12 (.string (((inP (1 : Int) (args.getD 0 ty0)) ++ (⟨#[32, 45, 62, 32]⟩ : ByteArray)) ++ (inP (0 : Int) (args.getD 1 ty0)))) rfl (by kernel_rfl) (by kernel_rfl) (by kernel_rfl) (fun _ _ _ h => h) ⟨((((b2.ext x11).ext x15).ext x16).ext x17), ((((((Gx.Ext.refl w).trans x3).trans x11).trans x15).trans x16).trans x17)⟩ (by kernel_rfl) (fun _ _ => Gx.run_concat rfl ((inP (1 : Int) (args.getD 0 ty0)) ++ (⟨#[32, 45, 62, 32]⟩ : ByteArray)) (inP (0 : Int) (args.getD 1 ty0)) (by kernel_rfl) (by kernel_rfl) (by have hd := dig_size (m := row.toNat) (by unfold I64 at hr; omega); simp only [ByteArray.size_append, litz4]; omega)) ?_
    refine Gx.any_take 13 (.string (((inP (1 : Int) (args.getD 0 ty0)) ++ (⟨#[32, 45, 62, 32]⟩ : ByteArray)) ++ (inP (0 : Int) (args.getD 1 ty0)))) rfl (by kernel_rfl) (by kernel_rfl) (by kernel_rfl) (fun _ _ _ h => h) ⟨((((b2.ext x11).ext x15).ext x16).ext x17), ((((((Gx.Ext.refl w).trans x3).trans x11).trans x15).trans x16).trans x17)⟩ (by kernel_rfl) (fun _ _ => (by kernel_rfl)) ?_
    refine Gx.any_done (by kernel_rfl) ?_
    refine Gx.then_normal ?_
    refine wp_ret ?_
    refine Gx.ret (v := .string (((inP (1 : Int) (args.getD 0 ty0)) ++ (⟨#[32, 45, 62, 32]⟩ : ByteArray)) ++ (inP (0 : Int) (args.getD 1 ty0)))) (Gx.res1 rfl (by kernel_rfl)) ?_
    exact Gx.ret_as (v' := .string (showP (.mk 6 n row ops args))) (by rw [show_6 hlen]; unfold arrB rowB bS bR bL bE bArr; rw [if_pos (show row > 0 by simpa using h_c87), if_neg (fun q => Bool.false_ne_true (h_c89.symm.trans q)), if_neg (fun q => Bool.false_ne_true (h_c99.symm.trans q))]) (hK _ ((((((Gx.Ext.refl w).trans x3).trans x11).trans x15).trans x16).trans x17))
  refine wp_skip ?_
  refine Gx.then_normal ?_
  refine Gx.seq_run [(5, .string (⟨#[32, 45, 62, 32]⟩ : ByteArray))] (by kernel_rfl) ?_
  refine wp_seq ?_
  refine Gx.seq_run [(99, .bool (!((joinB ops).toList == (⟨#[]⟩ : ByteArray).toList))), (98, .string (joinB ops))] (by kernel_rfl) ?_
  refine Gx.cond (!((joinB ops).toList == (⟨#[]⟩ : ByteArray).toList)) (by kernel_rfl) (fun h_c99 => ?_) (fun h_c99 => ?_)
  · skip
    refine Gx.reg [0, 1, 2, 3] (by kernel_rfl) ?_
    refine Gx.pure [0] [1, 2, 3] [(100, .string (joinB ops))] rfl (by kernel_rfl) ?_
    have p_c87 := h_c87; try simp [-List.getD_eq_getElem?_getD] at p_c87
    have p_c99 := h_c99; try simp [-List.getD_eq_getElem?_getD] at p_c99
    refine Gx.cons (Gx.op_concat rfl (by kernel_rfl) rfl (⟨#[32, 45, 123]⟩ : ByteArray) (joinB ops) (by kernel_rfl) (by kernel_rfl) (by have hd := dig_size (m := row.toNat) (by unfold I64 at hr; omega); simp only [litz3]; omega) ?_)
    refine Gx.cons (Gx.op_concat rfl (by kernel_rfl) rfl ((⟨#[32, 45, 123]⟩ : ByteArray) ++ (joinB ops)) (⟨#[125, 45, 62, 32]⟩ : ByteArray) (by kernel_rfl) (by kernel_rfl) (by have hd := dig_size (m := row.toNat) (by unfold I64 at hr; omega); simp only [ByteArray.size_append, litz3, litz4]; omega) ?_)
    refine Gx.pure [3] [] [(5, .string (((⟨#[32, 45, 123]⟩ : ByteArray) ++ (joinB ops)) ++ (⟨#[125, 45, 62, 32]⟩ : ByteArray)))] rfl (by kernel_rfl) ?_
    refine Gx.ops_nil ?_
    refine Gx.then_normal ?_
    refine wp_seq ?_
    refine Gx.draw (S := fun w' => Gx.Has w' k1 (.cells #[.int .i64 6, .int .i64 n, .int .i64 row, .slice A1 ops.length c1, .slice A2 2 c2] 25) ∧ Gx.Ext w w') (by kernel_rfl) (fun w18 x18 => ?_)
    have zw18 := x18.size
    refine Gx.any_take 0 (.pointer (some ⟨k1, 4, none⟩)) rfl (by kernel_rfl) (by kernel_rfl) (by kernel_rfl) (fun _ _ _ h => h) ⟨(b2.ext x18), (((Gx.Ext.refl w).trans x3).trans x18)⟩ (by kernel_rfl) (fun _ _ => (by kernel_rfl)) ?_
    refine Gx.any_take 1 (.slice A2 2 c2) rfl (by kernel_rfl) (by kernel_rfl) (by kernel_rfl) (fun _ _ _ h => h) ⟨(b2.ext x18), (((Gx.Ext.refl w).trans x3).trans x18)⟩ (by kernel_rfl) (fun _ hs => Gx.run_load rfl 4 (.slice A2 2 c2) (by kernel_rfl) hs.1 (by kernel_rfl)) ?_
    obtain ⟨a11, ha11, hc11⟩ := (Gx.Rd.ext ha (by decide) hE) 0 (by omega)
    refine Gx.any_take 2 (.pointer (some (a11.add (0 * 5)))) rfl (by kernel_rfl) (by kernel_rfl) (by kernel_rfl) (fun _ _ _ h => h) ⟨(b2.ext x18), (((Gx.Ext.refl w).trans x3).trans x18)⟩ (by kernel_rfl) (fun _ _ => Gx.run_indexAddrO rfl 25 5 (by kernel_rfl) (by kernel_rfl) a11 ha11 2 c2 (by kernel_rfl) .i64 0 (by kernel_rfl) (by omega)) ?_
    refine Gx.any_take 3 ((.agg (cs 0).toArray)) rfl (by kernel_rfl) (by kernel_rfl) (by kernel_rfl) (fun _ _ _ h => h) ⟨(b2.ext x18), (((Gx.Ext.refl w).trans x3).trans x18)⟩ (by kernel_rfl) (fun _ hs => Gx.run_loadAgg rfl (by kernel_rfl) 5 (Gx.cells_ext hc11 (by decide) hs.2) (by kernel_rfl)) ?_
    refine Gx.any_take 5 (.string (((⟨#[32, 45, 123]⟩ : ByteArray) ++ (joinB ops)) ++ (⟨#[125, 45, 62, 32]⟩ : ByteArray))) rfl (by kernel_rfl) (by kernel_rfl) (by kernel_rfl) (fun _ _ _ h => h) ⟨(b2.ext x18), (((Gx.Ext.refl w).trans x3).trans x18)⟩ (by kernel_rfl) (fun _ _ => (by kernel_rfl)) ?_
    refine Gx.any_take 7 (.pointer (some ⟨k1, 4, none⟩)) rfl (by kernel_rfl) (by kernel_rfl) (by kernel_rfl) (fun _ _ _ h => h) ⟨(b2.ext x18), (((Gx.Ext.refl w).trans x3).trans x18)⟩ (by kernel_rfl) (fun _ _ => (by kernel_rfl)) ?_
    refine Gx.any_take 8 (.slice A2 2 c2) rfl (by kernel_rfl) (by kernel_rfl) (by kernel_rfl) (fun _ _ _ h => h) ⟨(b2.ext x18), (((Gx.Ext.refl w).trans x3).trans x18)⟩ (by kernel_rfl) (fun _ hs => Gx.run_load rfl 4 (.slice A2 2 c2) (by kernel_rfl) hs.1 (by kernel_rfl)) ?_
    obtain ⟨a12, ha12, hc12⟩ := (Gx.Rd.ext ha (by decide) hE) 1 (by omega)
    refine Gx.any_take 9 (.pointer (some (a12.add (1 * 5)))) rfl (by kernel_rfl) (by kernel_rfl) (by kernel_rfl) (fun _ _ _ h => h) ⟨(b2.ext x18), (((Gx.Ext.refl w).trans x3).trans x18)⟩ (by kernel_rfl) (fun _ _ => Gx.run_indexAddrO rfl 25 5 (by kernel_rfl) (by kernel_rfl) a12 ha12 2 c2 (by kernel_rfl) .i64 1 (by kernel_rfl) (by omega)) ?_
    refine Gx.any_take 10 ((.agg (cs 1).toArray)) rfl (by kernel_rfl) (by kernel_rfl) (by kernel_rfl) (fun _ _ _ h => h) ⟨(b2.ext x18), (((Gx.Ext.refl w).trans x3).trans x18)⟩ (by kernel_rfl) (fun _ hs => Gx.run_loadAgg rfl (by kernel_rfl) 5 (Gx.cells_ext hc12 (by decide) hs.2) (by kernel_rfl)) ?_
    refine Gx.any_one 4 (by kernel_rfl) (Gx.op_call rfl (by kernel_rfl) (by kernel_rfl) (fun R hR => ihI 0 (by omega) (1 : Int) _ R (Gx.Ext.trans hE (((Gx.Ext.refl w).trans x3).trans x18)) (fun w19 x19  => hR _ _ ⟨⟨((b2.ext x18).ext x19), ((((Gx.Ext.refl w).trans x3).trans x18).trans x19)⟩, ?_⟩)))
    have zw19 := x19.size
    refine Gx.any_take 6 (.string ((inP (1 : Int) (args.getD 0 ty0)) ++ (((⟨#[32, 45, 123]⟩ : ByteArray) ++ (joinB ops)) ++ (⟨#[125, 45, 62, 32]⟩ : ByteArray)))) rfl (by kernel_rfl) (by kernel_rfl) (by kernel_rfl) (fun _ _ _ h => h) ⟨((b2.ext x18).ext x19), ((((Gx.Ext.refl w).trans x3).trans x18).trans x19)⟩ (by kernel_rfl) (fun _ _ => Gx.run_concat rfl (inP (1 : Int) (args.getD 0 ty0)) (((⟨#[32, 45, 123]⟩ : ByteArray) ++ (joinB ops)) ++ (⟨#[125, 45, 62, 32]⟩ : ByteArray)) (by kernel_rfl) (by kernel_rfl) (by have hd := dig_size (m := row.toNat) (by unfold I64 at hr; omega); simp only [ByteArray.size_append, litz3, litz4]; omega)) ?_
    refine Gx.any_one 11 (by kernel_rfl) (Gx.op_call rfl (by kernel_rfl) (by kernel_rfl) (fun R hR => ihI 1 (by omega) (0 : Int) _ R (Gx.Ext.trans hE ((((Gx.Ext.refl w).trans x3).trans x18).trans x19)) (fun w20 x20  => hR _ _ ⟨⟨(((b2.ext x18).ext x19).ext x20), (((((Gx.Ext.refl w).trans x3).trans x18).trans x19).trans x20)⟩, ?_⟩)))
    have zw20 := x20.size
    refine Gx.any_take 12 (.string (((inP (1 : Int) (args.getD 0 ty0)) ++ (((⟨#[32, 45, 123]⟩ : ByteArray) ++ (joinB ops)) ++ (⟨#[125, 45, 62, 32]⟩ : ByteArray))) ++ (inP (0 : Int) (args.getD 1 ty0)))) rfl (by kernel_rfl) (by kernel_rfl) (by kernel_rfl) (fun _ _ _ h => h) ⟨(((b2.ext x18).ext x19).ext x20), (((((Gx.Ext.refl w).trans x3).trans x18).trans x19).trans x20)⟩ (by kernel_rfl) (fun _ _ => Gx.run_concat rfl ((inP (1 : Int) (args.getD 0 ty0)) ++ (((⟨#[32, 45, 123]⟩ : ByteArray) ++ (joinB ops)) ++ (⟨#[125, 45, 62, 32]⟩ : ByteArray))) (inP (0 : Int) (args.getD 1 ty0)) (by kernel_rfl) (by kernel_rfl) (by have hd := dig_size (m := row.toNat) (by unfold I64 at hr; omega); simp only [ByteArray.size_append, litz3, litz4]; omega)) ?_
    refine Gx.any_take 13 (.string (((inP (1 : Int) (args.getD 0 ty0)) ++ (((⟨#[32, 45, 123]⟩ : ByteArray) ++ (joinB ops)) ++ (⟨#[125, 45, 62, 32]⟩ : ByteArray))) ++ (inP (0 : Int) (args.getD 1 ty0)))) rfl (by kernel_rfl) (by kernel_rfl) (by kernel_rfl) (fun _ _ _ h => h) ⟨(((b2.ext x18).ext x19).ext x20), (((((Gx.Ext.refl w).trans x3).trans x18).trans x19).trans x20)⟩ (by kernel_rfl) (fun _ _ => (by kernel_rfl)) ?_
    refine Gx.any_done (by kernel_rfl) ?_
    refine Gx.then_normal ?_
    refine wp_ret ?_
    refine Gx.ret (v := .string (((inP (1 : Int) (args.getD 0 ty0)) ++ (((⟨#[32, 45, 123]⟩ : ByteArray) ++ (joinB ops)) ++ (⟨#[125, 45, 62, 32]⟩ : ByteArray))) ++ (inP (0 : Int) (args.getD 1 ty0)))) (Gx.res1 rfl (by kernel_rfl)) ?_
    exact Gx.ret_as (v' := .string (showP (.mk 6 n row ops args))) (by rw [show_6 hlen]; unfold arrB rowB bS bR bL bE bArr; rw [if_neg (show ¬ row > 0 by simpa using h_c87), if_pos h_c99]) (hK _ (((((Gx.Ext.refl w).trans x3).trans x18).trans x19).trans x20))
  refine wp_skip ?_
  refine Gx.then_normal ?_
  refine wp_seq ?_
  refine Gx.draw (S := fun w' => Gx.Has w' k1 (.cells #[.int .i64 6, .int .i64 n, .int .i64 row, .slice A1 ops.length c1, .slice A2 2 c2] 25) ∧ Gx.Ext w w') (by kernel_rfl) (fun w21 x21 => ?_)
  have zw21 := x21.size
  refine Gx.any_take 0 (.pointer (some ⟨k1, 4, none⟩)) rfl (by kernel_rfl) (by kernel_rfl) (by kernel_rfl) (fun _ _ _ h => h) ⟨(b2.ext x21), (((Gx.Ext.refl w).trans x3).trans x21)⟩ (by kernel_rfl) (fun _ _ => (by kernel_rfl)) ?_
  refine Gx.any_take 1 (.slice A2 2 c2) rfl (by kernel_rfl) (by kernel_rfl) (by kernel_rfl) (fun _ _ _ h => h) ⟨(b2.ext x21), (((Gx.Ext.refl w).trans x3).trans x21)⟩ (by kernel_rfl) (fun _ hs => Gx.run_load rfl 4 (.slice A2 2 c2) (by kernel_rfl) hs.1 (by kernel_rfl)) ?_
  have p_c87 := h_c87; try simp [-List.getD_eq_getElem?_getD] at p_c87
  have p_c99 := h_c99; try simp [-List.getD_eq_getElem?_getD] at p_c99
  obtain ⟨a13, ha13, hc13⟩ := (Gx.Rd.ext ha (by decide) hE) 0 (by omega)
  refine Gx.any_take 2 (.pointer (some (a13.add (0 * 5)))) rfl (by kernel_rfl) (by kernel_rfl) (by kernel_rfl) (fun _ _ _ h => h) ⟨(b2.ext x21), (((Gx.Ext.refl w).trans x3).trans x21)⟩ (by kernel_rfl) (fun _ _ => Gx.run_indexAddrO rfl 25 5 (by kernel_rfl) (by kernel_rfl) a13 ha13 2 c2 (by kernel_rfl) .i64 0 (by kernel_rfl) (by omega)) ?_
  refine Gx.any_take 3 ((.agg (cs 0).toArray)) rfl (by kernel_rfl) (by kernel_rfl) (by kernel_rfl) (fun _ _ _ h => h) ⟨(b2.ext x21), (((Gx.Ext.refl w).trans x3).trans x21)⟩ (by kernel_rfl) (fun _ hs => Gx.run_loadAgg rfl (by kernel_rfl) 5 (Gx.cells_ext hc13 (by decide) hs.2) (by kernel_rfl)) ?_
  refine Gx.any_take 5 (.string (⟨#[32, 45, 62, 32]⟩ : ByteArray)) rfl (by kernel_rfl) (by kernel_rfl) (by kernel_rfl) (fun _ _ _ h => h) ⟨(b2.ext x21), (((Gx.Ext.refl w).trans x3).trans x21)⟩ (by kernel_rfl) (fun _ _ => (by kernel_rfl)) ?_
  refine Gx.any_take 7 (.pointer (some ⟨k1, 4, none⟩)) rfl (by kernel_rfl) (by kernel_rfl) (by kernel_rfl) (fun _ _ _ h => h) ⟨(b2.ext x21), (((Gx.Ext.refl w).trans x3).trans x21)⟩ (by kernel_rfl) (fun _ _ => (by kernel_rfl)) ?_
  refine Gx.any_take 8 (.slice A2 2 c2) rfl (by kernel_rfl) (by kernel_rfl) (by kernel_rfl) (fun _ _ _ h => h) ⟨(b2.ext x21), (((Gx.Ext.refl w).trans x3).trans x21)⟩ (by kernel_rfl) (fun _ hs => Gx.run_load rfl 4 (.slice A2 2 c2) (by kernel_rfl) hs.1 (by kernel_rfl)) ?_
  obtain ⟨a14, ha14, hc14⟩ := (Gx.Rd.ext ha (by decide) hE) 1 (by omega)
  refine Gx.any_take 9 (.pointer (some (a14.add (1 * 5)))) rfl (by kernel_rfl) (by kernel_rfl) (by kernel_rfl) (fun _ _ _ h => h) ⟨(b2.ext x21), (((Gx.Ext.refl w).trans x3).trans x21)⟩ (by kernel_rfl) (fun _ _ => Gx.run_indexAddrO rfl 25 5 (by kernel_rfl) (by kernel_rfl) a14 ha14 2 c2 (by kernel_rfl) .i64 1 (by kernel_rfl) (by omega)) ?_
  refine Gx.any_take 10 ((.agg (cs 1).toArray)) rfl (by kernel_rfl) (by kernel_rfl) (by kernel_rfl) (fun _ _ _ h => h) ⟨(b2.ext x21), (((Gx.Ext.refl w).trans x3).trans x21)⟩ (by kernel_rfl) (fun _ hs => Gx.run_loadAgg rfl (by kernel_rfl) 5 (Gx.cells_ext hc14 (by decide) hs.2) (by kernel_rfl)) ?_
  refine Gx.any_one 4 (by kernel_rfl) (Gx.op_call rfl (by kernel_rfl) (by kernel_rfl) (fun R hR => ihI 0 (by omega) (1 : Int) _ R (Gx.Ext.trans hE (((Gx.Ext.refl w).trans x3).trans x21)) (fun w22 x22  => hR _ _ ⟨⟨((b2.ext x21).ext x22), ((((Gx.Ext.refl w).trans x3).trans x21).trans x22)⟩, ?_⟩)))
  have zw22 := x22.size
  refine Gx.any_take 6 (.string ((inP (1 : Int) (args.getD 0 ty0)) ++ (⟨#[32, 45, 62, 32]⟩ : ByteArray))) rfl (by kernel_rfl) (by kernel_rfl) (by kernel_rfl) (fun _ _ _ h => h) ⟨((b2.ext x21).ext x22), ((((Gx.Ext.refl w).trans x3).trans x21).trans x22)⟩ (by kernel_rfl) (fun _ _ => Gx.run_concat rfl (inP (1 : Int) (args.getD 0 ty0)) (⟨#[32, 45, 62, 32]⟩ : ByteArray) (by kernel_rfl) (by kernel_rfl) (by have hd := dig_size (m := row.toNat) (by unfold I64 at hr; omega); simp only [litz4]; omega)) ?_
  refine Gx.any_one 11 (by kernel_rfl) (Gx.op_call rfl (by kernel_rfl) (by kernel_rfl) (fun R hR => ihI 1 (by omega) (0 : Int) _ R (Gx.Ext.trans hE ((((Gx.Ext.refl w).trans x3).trans x21).trans x22)) (fun w23 x23  => hR _ _ ⟨⟨(((b2.ext x21).ext x22).ext x23), (((((Gx.Ext.refl w).trans x3).trans x21).trans x22).trans x23)⟩, ?_⟩)))
  have zw23 := x23.size
  refine Gx.any_take 12 (.string (((inP (1 : Int) (args.getD 0 ty0)) ++ (⟨#[32, 45, 62, 32]⟩ : ByteArray)) ++ (inP (0 : Int) (args.getD 1 ty0)))) rfl (by kernel_rfl) (by kernel_rfl) (by kernel_rfl) (fun _ _ _ h => h) ⟨(((b2.ext x21).ext x22).ext x23), (((((Gx.Ext.refl w).trans x3).trans x21).trans x22).trans x23)⟩ (by kernel_rfl) (fun _ _ => Gx.run_concat rfl ((inP (1 : Int) (args.getD 0 ty0)) ++ (⟨#[32, 45, 62, 32]⟩ : ByteArray)) (inP (0 : Int) (args.getD 1 ty0)) (by kernel_rfl) (by kernel_rfl) (by have hd := dig_size (m := row.toNat) (by unfold I64 at hr; omega); simp only [ByteArray.size_append, litz4]; omega)) ?_
  refine Gx.any_take 13 (.string (((inP (1 : Int) (args.getD 0 ty0)) ++ (⟨#[32, 45, 62, 32]⟩ : ByteArray)) ++ (inP (0 : Int) (args.getD 1 ty0)))) rfl (by kernel_rfl) (by kernel_rfl) (by kernel_rfl) (fun _ _ _ h => h) ⟨(((b2.ext x21).ext x22).ext x23), (((((Gx.Ext.refl w).trans x3).trans x21).trans x22).trans x23)⟩ (by kernel_rfl) (fun _ _ => (by kernel_rfl)) ?_
  refine Gx.any_done (by kernel_rfl) ?_
  refine Gx.then_normal ?_
  refine wp_ret ?_
  refine Gx.ret (v := .string (((inP (1 : Int) (args.getD 0 ty0)) ++ (⟨#[32, 45, 62, 32]⟩ : ByteArray)) ++ (inP (0 : Int) (args.getD 1 ty0)))) (Gx.res1 rfl (by kernel_rfl)) ?_
  exact Gx.ret_as (v' := .string (showP (.mk 6 n row ops args))) (by rw [show_6 hlen]; unfold arrB rowB bS bR bL bE bArr; rw [if_neg (show ¬ row > 0 by simpa using h_c87), if_neg (fun q => Bool.false_ne_true (h_c99.symm.trans q))]) (hK _ (((((Gx.Ext.refl w).trans x3).trans x21).trans x22).trans x23))

set_option maxHeartbeats 400000 in
set_option maxRecDepth 10000 in
theorem in_c (w0 : World) (k n row : Int) (ops : List ByteArray) (args : List TyP) (A1 A2 : Option Addr) (c1 c2 : Nat) (least : Int) (w : World) (K : Ending → World → Prop) (hE : Gx.Ext w0 w) (hsz : (showP (.mk k n row ops args)).size ≤ 1099511627776) (hS : ∀ (w : World) (K : Ending → World → Prop), Gx.Ext w0 w → (∀ w', Gx.Ext w w' → K (.returned (.string (showP (.mk k n row ops args)))) w') → Calls Tryd.prog 6 #[.agg #[.int .i64 k, .int .i64 n, .int .i64 row, .slice A1 ops.length c1, .slice A2 args.length c2]] w K) (hK : ∀ w', Gx.Ext w w' → K (.returned (.string (inP least (.mk k n row ops args)))) w') :
    Calls Tryd.prog 12 #[.agg #[.int .i64 k, .int .i64 n, .int .i64 row, .slice A1 ops.length c1, .slice A2 args.length c2], .int .i64 least] w K := by
  refine Gx.enter 24 Tryd.func12 rfl rfl (Nat.le_of_ble_eq_true rfl) ?_
  refine Gx.seq_reg [0, 1] (by kernel_rfl) ?_
  refine Gx.cons (Gx.op_new (.cells #[.int .i64 k, .int .i64 n, .int .i64 row, .slice A1 ops.length c1, .slice A2 args.length c2] 25) rfl (by kernel_rfl) (by kernel_rfl) (fun k1 w1 l1 x1 b1 => ?_))
  have zw1 := x1.size
  have tb1 := b1.lt
  refine Gx.pure [1] [] [(4, .string (⟨#[]⟩ : ByteArray))] rfl (by kernel_rfl) ?_
  refine Gx.ops_end ?_
  refine Gx.seq_run [(5, .int .i64 3)] (by kernel_rfl) ?_
  refine wp_seq ?_
  refine Gx.seq_reg [0, 1] (by kernel_rfl) ?_
  refine Gx.pure [0] [1] [(7, .pointer (some ⟨k1, 0, none⟩))] rfl (by kernel_rfl) ?_
  refine Gx.cons (Gx.op_load rfl (by kernel_rfl) rfl 0 (.int .i64 k) (by kernel_rfl) b1 (by kernel_rfl) ?_)
  refine Gx.ops_end ?_
  refine wp_block ?_
  refine Gx.seq_run [(9, .bool (k == (6 : Int))), (10, .bool (k == (6 : Int)))] (by kernel_rfl) ?_
  refine Gx.cond (k == (6 : Int)) (by kernel_rfl) (fun h_c9 => ?_) (fun h_c9 => ?_)
  · skip
    refine Gx.reg_run [(5, .int .i64 0)] (by kernel_rfl) ?_
    refine Gx.block_normal ?_
    refine Gx.then_normal ?_
    refine Gx.seq_reg [0, 1, 2] (by kernel_rfl) ?_
    refine Gx.cons (Gx.op_load rfl (by kernel_rfl) rfl 0 (.agg #[.int .i64 k, .int .i64 n, .int .i64 row, .slice A1 ops.length c1, .slice A2 args.length c2]) (by kernel_rfl) b1 (by kernel_rfl) ?_)
    refine Gx.cons (Gx.op_call rfl (by kernel_rfl) (by kernel_rfl) (fun R hR => hS  _ R (Gx.Ext.trans hE ((Gx.Ext.refl w).trans x1)) (fun w2 x2  => hR _ _ ?_)))
    have zw2 := x2.size
    refine Gx.pure [2] [] [(6, .string (showP (.mk k n row ops args)))] rfl (by kernel_rfl) ?_
    refine Gx.ops_end ?_
    refine wp_seq ?_
    refine Gx.seq_run [(19, .bool (decide ((0 : Int) < least))), (18, .int .i64 least), (17, .int .i64 0)] (by kernel_rfl) ?_
    refine Gx.cond (decide ((0 : Int) < least)) (by kernel_rfl) (fun h_c19 => ?_) (fun h_c19 => ?_)
    · skip
      refine Gx.seq_reg [0, 1, 2, 3] (by kernel_rfl) ?_
      refine Gx.pure [0] [1, 2, 3] [(20, .string (showP (.mk k n row ops args)))] rfl (by kernel_rfl) ?_
      have p_c9 := h_c9; try simp [-List.getD_eq_getElem?_getD] at p_c9
      have p_c19 := h_c19; try simp [-List.getD_eq_getElem?_getD] at p_c19
      refine Gx.cons (Gx.op_concat rfl (by kernel_rfl) rfl (⟨#[40]⟩ : ByteArray) (showP (.mk k n row ops args)) (by kernel_rfl) (by kernel_rfl) (by simp only [litz1]; omega) ?_)
      refine Gx.cons (Gx.op_concat rfl (by kernel_rfl) rfl ((⟨#[40]⟩ : ByteArray) ++ (showP (.mk k n row ops args))) (⟨#[41]⟩ : ByteArray) (by kernel_rfl) (by kernel_rfl) (by simp only [ByteArray.size_append, litz1]; omega) ?_)
      refine Gx.pure [3] [] [(4, .string (((⟨#[40]⟩ : ByteArray) ++ (showP (.mk k n row ops args))) ++ (⟨#[41]⟩ : ByteArray)))] rfl (by kernel_rfl) ?_
      refine Gx.ops_end ?_
      refine wp_ret ?_
      refine Gx.then_ret ?_
      refine Gx.ret (v := .string (((⟨#[40]⟩ : ByteArray) ++ (showP (.mk k n row ops args))) ++ (⟨#[41]⟩ : ByteArray))) (Gx.res1 rfl (by kernel_rfl)) ?_
      have hl : lvl k = (0 : Int) := by unfold lvl; simp [p_c9]
      exact Gx.ret_as (v' := .string (inP least (.mk k n row ops args))) (by unfold inP parB; rw [show TyP.kind (.mk k n row ops args) = k from rfl, hl, if_pos (by simpa using h_c19)]; try rfl) (hK _ (((Gx.Ext.refl w).trans x1).trans x2))
    refine wp_skip ?_
    refine Gx.then_normal ?_
    refine Gx.seq_run [(4, .string (showP (.mk k n row ops args))), (23, .string (showP (.mk k n row ops args)))] (by kernel_rfl) ?_
    refine wp_ret ?_
    refine Gx.ret (v := .string (showP (.mk k n row ops args))) (Gx.res1 rfl (by kernel_rfl)) ?_
    have p_c9 := h_c9; try simp [-List.getD_eq_getElem?_getD] at p_c9
    have p_c19 := h_c19; try simp [-List.getD_eq_getElem?_getD] at p_c19
    have hl : lvl k = (0 : Int) := by unfold lvl; simp [p_c9]
    exact Gx.ret_as (v' := .string (inP least (.mk k n row ops args))) (by unfold inP parB; rw [show TyP.kind (.mk k n row ops args) = k from rfl, hl, if_neg (by simpa using h_c19)]; try rfl) (hK _ (((Gx.Ext.refl w).trans x1).trans x2))
  refine Gx.seq_run [(11, .bool (k == (5 : Int))), (12, .bool (k == (5 : Int)))] (by kernel_rfl) ?_
  refine Gx.cond (k == (5 : Int)) (by kernel_rfl) (fun h_c11 => ?_) (fun h_c11 => ?_)
  · skip
    refine Gx.reg_run [(5, .int .i64 1)] (by kernel_rfl) ?_
    refine Gx.block_normal ?_
    refine Gx.then_normal ?_
    refine Gx.seq_reg [0, 1, 2] (by kernel_rfl) ?_
    refine Gx.cons (Gx.op_load rfl (by kernel_rfl) rfl 0 (.agg #[.int .i64 k, .int .i64 n, .int .i64 row, .slice A1 ops.length c1, .slice A2 args.length c2]) (by kernel_rfl) b1 (by kernel_rfl) ?_)
    refine Gx.cons (Gx.op_call rfl (by kernel_rfl) (by kernel_rfl) (fun R hR => hS  _ R (Gx.Ext.trans hE ((Gx.Ext.refl w).trans x1)) (fun w3 x3  => hR _ _ ?_)))
    have zw3 := x3.size
    refine Gx.pure [2] [] [(6, .string (showP (.mk k n row ops args)))] rfl (by kernel_rfl) ?_
    refine Gx.ops_end ?_
    refine wp_seq ?_
    refine Gx.seq_run [(19, .bool (decide ((1 : Int) < least))), (18, .int .i64 least), (17, .int .i64 1)] (by kernel_rfl) ?_
    refine Gx.cond (decide ((1 : Int) < least)) (by kernel_rfl) (fun h_c19 => ?_) (fun h_c19 => ?_)
    · skip
      refine Gx.seq_reg [0, 1, 2, 3] (by kernel_rfl) ?_
      refine Gx.pure [0] [1, 2, 3] [(20, .string (showP (.mk k n row ops args)))] rfl (by kernel_rfl) ?_
      have p_c9 := h_c9; try simp [-List.getD_eq_getElem?_getD] at p_c9
      have p_c11 := h_c11; try simp [-List.getD_eq_getElem?_getD] at p_c11
      have p_c19 := h_c19; try simp [-List.getD_eq_getElem?_getD] at p_c19
      refine Gx.cons (Gx.op_concat rfl (by kernel_rfl) rfl (⟨#[40]⟩ : ByteArray) (showP (.mk k n row ops args)) (by kernel_rfl) (by kernel_rfl) (by simp only [litz1]; omega) ?_)
      refine Gx.cons (Gx.op_concat rfl (by kernel_rfl) rfl ((⟨#[40]⟩ : ByteArray) ++ (showP (.mk k n row ops args))) (⟨#[41]⟩ : ByteArray) (by kernel_rfl) (by kernel_rfl) (by simp only [ByteArray.size_append, litz1]; omega) ?_)
      refine Gx.pure [3] [] [(4, .string (((⟨#[40]⟩ : ByteArray) ++ (showP (.mk k n row ops args))) ++ (⟨#[41]⟩ : ByteArray)))] rfl (by kernel_rfl) ?_
      refine Gx.ops_end ?_
      refine wp_ret ?_
      refine Gx.then_ret ?_
      refine Gx.ret (v := .string (((⟨#[40]⟩ : ByteArray) ++ (showP (.mk k n row ops args))) ++ (⟨#[41]⟩ : ByteArray))) (Gx.res1 rfl (by kernel_rfl)) ?_
      have hl : lvl k = (1 : Int) := by unfold lvl; simp [p_c9, p_c11]
      exact Gx.ret_as (v' := .string (inP least (.mk k n row ops args))) (by unfold inP parB; rw [show TyP.kind (.mk k n row ops args) = k from rfl, hl, if_pos (by simpa using h_c19)]; try rfl) (hK _ (((Gx.Ext.refl w).trans x1).trans x3))
    refine wp_skip ?_
    refine Gx.then_normal ?_
    refine Gx.seq_run [(4, .string (showP (.mk k n row ops args))), (23, .string (showP (.mk k n row ops args)))] (by kernel_rfl) ?_
    refine wp_ret ?_
    refine Gx.ret (v := .string (showP (.mk k n row ops args))) (Gx.res1 rfl (by kernel_rfl)) ?_
    have p_c9 := h_c9; try simp [-List.getD_eq_getElem?_getD] at p_c9
    have p_c11 := h_c11; try simp [-List.getD_eq_getElem?_getD] at p_c11
    have p_c19 := h_c19; try simp [-List.getD_eq_getElem?_getD] at p_c19
    have hl : lvl k = (1 : Int) := by unfold lvl; simp [p_c9, p_c11]
    exact Gx.ret_as (v' := .string (inP least (.mk k n row ops args))) (by unfold inP parB; rw [show TyP.kind (.mk k n row ops args) = k from rfl, hl, if_neg (by simpa using h_c19)]; try rfl) (hK _ (((Gx.Ext.refl w).trans x1).trans x3))
  refine Gx.seq_run [(13, .bool (k == (4 : Int))), (14, .bool (k == (4 : Int)))] (by kernel_rfl) ?_
  refine Gx.cond (k == (4 : Int)) (by kernel_rfl) (fun h_c13 => ?_) (fun h_c13 => ?_)
  · skip
    refine Gx.reg_run [(5, .int .i64 2)] (by kernel_rfl) ?_
    refine Gx.block_normal ?_
    refine Gx.then_normal ?_
    refine Gx.seq_reg [0, 1, 2] (by kernel_rfl) ?_
    refine Gx.cons (Gx.op_load rfl (by kernel_rfl) rfl 0 (.agg #[.int .i64 k, .int .i64 n, .int .i64 row, .slice A1 ops.length c1, .slice A2 args.length c2]) (by kernel_rfl) b1 (by kernel_rfl) ?_)
    refine Gx.cons (Gx.op_call rfl (by kernel_rfl) (by kernel_rfl) (fun R hR => hS  _ R (Gx.Ext.trans hE ((Gx.Ext.refl w).trans x1)) (fun w4 x4  => hR _ _ ?_)))
    have zw4 := x4.size
    refine Gx.pure [2] [] [(6, .string (showP (.mk k n row ops args)))] rfl (by kernel_rfl) ?_
    refine Gx.ops_end ?_
    refine wp_seq ?_
    refine Gx.seq_run [(19, .bool (decide ((2 : Int) < least))), (18, .int .i64 least), (17, .int .i64 2)] (by kernel_rfl) ?_
    refine Gx.cond (decide ((2 : Int) < least)) (by kernel_rfl) (fun h_c19 => ?_) (fun h_c19 => ?_)
    · skip
      refine Gx.seq_reg [0, 1, 2, 3] (by kernel_rfl) ?_
      refine Gx.pure [0] [1, 2, 3] [(20, .string (showP (.mk k n row ops args)))] rfl (by kernel_rfl) ?_
      have p_c9 := h_c9; try simp [-List.getD_eq_getElem?_getD] at p_c9
      have p_c11 := h_c11; try simp [-List.getD_eq_getElem?_getD] at p_c11
      have p_c13 := h_c13; try simp [-List.getD_eq_getElem?_getD] at p_c13
      have p_c19 := h_c19; try simp [-List.getD_eq_getElem?_getD] at p_c19
      refine Gx.cons (Gx.op_concat rfl (by kernel_rfl) rfl (⟨#[40]⟩ : ByteArray) (showP (.mk k n row ops args)) (by kernel_rfl) (by kernel_rfl) (by simp only [litz1]; omega) ?_)
      refine Gx.cons (Gx.op_concat rfl (by kernel_rfl) rfl ((⟨#[40]⟩ : ByteArray) ++ (showP (.mk k n row ops args))) (⟨#[41]⟩ : ByteArray) (by kernel_rfl) (by kernel_rfl) (by simp only [ByteArray.size_append, litz1]; omega) ?_)
      refine Gx.pure [3] [] [(4, .string (((⟨#[40]⟩ : ByteArray) ++ (showP (.mk k n row ops args))) ++ (⟨#[41]⟩ : ByteArray)))] rfl (by kernel_rfl) ?_
      refine Gx.ops_end ?_
      refine wp_ret ?_
      refine Gx.then_ret ?_
      refine Gx.ret (v := .string (((⟨#[40]⟩ : ByteArray) ++ (showP (.mk k n row ops args))) ++ (⟨#[41]⟩ : ByteArray))) (Gx.res1 rfl (by kernel_rfl)) ?_
      have hl : lvl k = (2 : Int) := by unfold lvl; simp [p_c9, p_c11, p_c13]
      exact Gx.ret_as (v' := .string (inP least (.mk k n row ops args))) (by unfold inP parB; rw [show TyP.kind (.mk k n row ops args) = k from rfl, hl, if_pos (by simpa using h_c19)]; try rfl) (hK _ (((Gx.Ext.refl w).trans x1).trans x4))
    refine wp_skip ?_
    refine Gx.then_normal ?_
    refine Gx.seq_run [(4, .string (showP (.mk k n row ops args))), (23, .string (showP (.mk k n row ops args)))] (by kernel_rfl) ?_
    refine wp_ret ?_
    refine Gx.ret (v := .string (showP (.mk k n row ops args))) (Gx.res1 rfl (by kernel_rfl)) ?_
    have p_c9 := h_c9; try simp [-List.getD_eq_getElem?_getD] at p_c9
    have p_c11 := h_c11; try simp [-List.getD_eq_getElem?_getD] at p_c11
    have p_c13 := h_c13; try simp [-List.getD_eq_getElem?_getD] at p_c13
    have p_c19 := h_c19; try simp [-List.getD_eq_getElem?_getD] at p_c19
    have hl : lvl k = (2 : Int) := by unfold lvl; simp [p_c9, p_c11, p_c13]
    exact Gx.ret_as (v' := .string (inP least (.mk k n row ops args))) (by unfold inP parB; rw [show TyP.kind (.mk k n row ops args) = k from rfl, hl, if_neg (by simpa using h_c19)]; try rfl) (hK _ (((Gx.Ext.refl w).trans x1).trans x4))
  refine wp_skip ?_
  refine Gx.block_normal ?_
  refine Gx.then_normal ?_
  refine Gx.seq_reg [0, 1, 2] (by kernel_rfl) ?_
  refine Gx.cons (Gx.op_load rfl (by kernel_rfl) rfl 0 (.agg #[.int .i64 k, .int .i64 n, .int .i64 row, .slice A1 ops.length c1, .slice A2 args.length c2]) (by kernel_rfl) b1 (by kernel_rfl) ?_)
  refine Gx.cons (Gx.op_call rfl (by kernel_rfl) (by kernel_rfl) (fun R hR => hS  _ R (Gx.Ext.trans hE ((Gx.Ext.refl w).trans x1)) (fun w5 x5  => hR _ _ ?_)))
  have zw5 := x5.size
  refine Gx.pure [2] [] [(6, .string (showP (.mk k n row ops args)))] rfl (by kernel_rfl) ?_
  refine Gx.ops_end ?_
  refine wp_seq ?_
  refine Gx.seq_run [(19, .bool (decide ((3 : Int) < least))), (18, .int .i64 least), (17, .int .i64 3)] (by kernel_rfl) ?_
  refine Gx.cond (decide ((3 : Int) < least)) (by kernel_rfl) (fun h_c19 => ?_) (fun h_c19 => ?_)
  · skip
    refine Gx.seq_reg [0, 1, 2, 3] (by kernel_rfl) ?_
    refine Gx.pure [0] [1, 2, 3] [(20, .string (showP (.mk k n row ops args)))] rfl (by kernel_rfl) ?_
    have p_c9 := h_c9; try simp [-List.getD_eq_getElem?_getD] at p_c9
    have p_c11 := h_c11; try simp [-List.getD_eq_getElem?_getD] at p_c11
    have p_c13 := h_c13; try simp [-List.getD_eq_getElem?_getD] at p_c13
    have p_c19 := h_c19; try simp [-List.getD_eq_getElem?_getD] at p_c19
    refine Gx.cons (Gx.op_concat rfl (by kernel_rfl) rfl (⟨#[40]⟩ : ByteArray) (showP (.mk k n row ops args)) (by kernel_rfl) (by kernel_rfl) (by simp only [litz1]; omega) ?_)
    refine Gx.cons (Gx.op_concat rfl (by kernel_rfl) rfl ((⟨#[40]⟩ : ByteArray) ++ (showP (.mk k n row ops args))) (⟨#[41]⟩ : ByteArray) (by kernel_rfl) (by kernel_rfl) (by simp only [ByteArray.size_append, litz1]; omega) ?_)
    refine Gx.pure [3] [] [(4, .string (((⟨#[40]⟩ : ByteArray) ++ (showP (.mk k n row ops args))) ++ (⟨#[41]⟩ : ByteArray)))] rfl (by kernel_rfl) ?_
    refine Gx.ops_end ?_
    refine wp_ret ?_
    refine Gx.then_ret ?_
    refine Gx.ret (v := .string (((⟨#[40]⟩ : ByteArray) ++ (showP (.mk k n row ops args))) ++ (⟨#[41]⟩ : ByteArray))) (Gx.res1 rfl (by kernel_rfl)) ?_
    have hl : lvl k = (3 : Int) := by unfold lvl; simp [p_c9, p_c11, p_c13]
    exact Gx.ret_as (v' := .string (inP least (.mk k n row ops args))) (by unfold inP parB; rw [show TyP.kind (.mk k n row ops args) = k from rfl, hl, if_pos (by simpa using h_c19)]; try rfl) (hK _ (((Gx.Ext.refl w).trans x1).trans x5))
  refine wp_skip ?_
  refine Gx.then_normal ?_
  refine Gx.seq_run [(4, .string (showP (.mk k n row ops args))), (23, .string (showP (.mk k n row ops args)))] (by kernel_rfl) ?_
  refine wp_ret ?_
  refine Gx.ret (v := .string (showP (.mk k n row ops args))) (Gx.res1 rfl (by kernel_rfl)) ?_
  have p_c9 := h_c9; try simp [-List.getD_eq_getElem?_getD] at p_c9
  have p_c11 := h_c11; try simp [-List.getD_eq_getElem?_getD] at p_c11
  have p_c13 := h_c13; try simp [-List.getD_eq_getElem?_getD] at p_c13
  have p_c19 := h_c19; try simp [-List.getD_eq_getElem?_getD] at p_c19
  have hl : lvl k = (3 : Int) := by unfold lvl; simp [p_c9, p_c11, p_c13]
  exact Gx.ret_as (v' := .string (inP least (.mk k n row ops args))) (by unfold inP parB; rw [show TyP.kind (.mk k n row ops args) = k from rfl, hl, if_neg (by simpa using h_c19)]; try rfl) (hK _ (((Gx.Ext.refl w).trans x1).trans x5))


theorem show_in {w0 : World} {t : TyP} {v : Value} (h : TyIn w0 t v) (hsz : (showP t).size ≤ 1099511627776) :
    (∀ (w : World) (K : Ending → World → Prop), Gx.Ext w0 w → (∀ w', Gx.Ext w w' → K (.returned (.string (showP t))) w') → Calls Tryd.prog 6 #[v] w K) ∧
    (∀ (least : Int) (w : World) (K : Ending → World → Prop), Gx.Ext w0 w → (∀ w', Gx.Ext w w' → K (.returned (.string (inP least t))) w') → Calls Tryd.prog 12 #[v, .int .i64 least] w K) := by
  induction h with
  | @mk k n row ops args A1 A2 c1 c2 cs hk hn hr hc1 hl hz ho ha hV ih =>
    have hS : ∀ (w : World) (K : Ending → World → Prop), Gx.Ext w0 w → (∀ w', Gx.Ext w w' → K (.returned (.string (showP (.mk k n row ops args)))) w') → Calls Tryd.prog 6 #[.agg #[.int .i64 k, .int .i64 n, .int .i64 row, .slice A1 ops.length c1, .slice A2 args.length c2]] w K := by
      intro w K hE hK
      by_cases hb : (args.length : Int) = arity k
      · have ihI : ∀ i, i < args.length → ∀ (least : Int) (w : World) (K : Ending → World → Prop), Gx.Ext w0 w → (∀ w', Gx.Ext w w' → K (.returned (.string (inP least (args.getD i ty0)))) w') → Calls Tryd.prog 12 #[.agg (cs i).toArray, .int .i64 least] w K :=
          fun i hi => (ih i hi (Nat.le_trans (show_part hb hi) hsz)).2
        rcases arity_range k with ⟨h1, rfl | rfl | rfl | rfl⟩ | ⟨h1, rfl⟩ | ⟨h1, rfl | rfl⟩ | h1
        · have e : args.length = 0 := by omega
          rw [e] at ha ⊢; exact rShow_0 w0 n row ops args A1 A2 c1 c2 cs w K hE e hn hr hl.1 hz ho ha hsz hK
        · have e : args.length = 0 := by omega
          rw [e] at ha ⊢; exact rShow_1 w0 n row ops args A1 A2 c1 c2 cs w K hE e hn hr hl.1 hz ho ha hsz hK
        · have e : args.length = 0 := by omega
          rw [e] at ha ⊢; exact rShow_2 w0 n row ops args A1 A2 c1 c2 cs w K hE e hn hr hl.1 hz ho ha hsz hK
        · have e : args.length = 0 := by omega
          rw [e] at ha ⊢; exact rShow_3 w0 n row ops args A1 A2 c1 c2 cs w K hE e hn hr hl.1 hz ho ha hsz hK
        · have e : args.length = 1 := by omega
          rw [e] at ha ⊢; exact rShow_4 w0 n row ops args A1 A2 c1 c2 cs w K hE e hn hr hl.1 hz ho ha hsz ihI hK
        · have e : args.length = 2 := by omega
          rw [e] at ha ⊢; exact rShow_5 w0 n row ops args A1 A2 c1 c2 cs w K hE e hn hr hl.1 hz ho ha hsz ihI hK
        · have e : args.length = 2 := by omega
          rw [e] at ha ⊢; exact rShow_6 w0 n row ops args A1 A2 c1 c2 cs w K hE e hn hr hl.1 hz ho ha hsz ihI hK
        · omega
      · exact rShow_bad w0 k n row ops args A1 A2 c1 c2 cs w K hb hK
    exact ⟨hS, fun least w K hE hK => in_c w0 k n row ops args A1 A2 c1 c2 least w K hE hsz hS hK⟩

end Go.Proofs.YtmlmppdffeacdaaDoor
