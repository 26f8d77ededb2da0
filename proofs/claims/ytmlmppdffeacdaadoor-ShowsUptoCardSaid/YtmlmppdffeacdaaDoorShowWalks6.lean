/- The walks of the functions that show types, written by a program of ours (wip/gx/gx.py, wip/shows/showgen.py). -/
import Derived.Test.YtmlmppdffeacdaaDoorRows
import Derived.Test.YtmlmppdffeacdaaDoorGw
import Derived.Test.YtmlmppdffeacdaaDoorShowPlain
import Derived.Test.YtmlmppdffeacdaaDoorBuild
import Derived.Test.YtmlmppdffeacdaaDoorShowWalks1
import Derived.Test.YtmlmppdffeacdaaDoorShowWalks2
import Derived.Test.YtmlmppdffeacdaaDoorShowWalks3
import Derived.Test.YtmlmppdffeacdaaDoorShowWalks4
import Derived.Test.YtmlmppdffeacdaaDoorShowWalks5
namespace Go.Proofs.YtmlmppdffeacdaaDoor
open Go.RowKit Go.Show
attribute [local irreducible] Go.wpOps Go.Code.wp Go.wpOp Go.wpAnyH Go.Calls
set_option maxHeartbeats 1000000 in
set_option maxRecDepth 10000 in
theorem pshow_0 (w0 : World) (B b : Nat) (s : ByteArray) (n row : Int) (ops : List ByteArray) (args : List TyP) (A1 A2 : Option Addr) (c1 c2 : Nat) (cs : Nat → List Value) (least : Int) (w : World) (K : Ending → World → Prop) (hbd : Bd w B b s) (hBw : B ≤ w.heap.size) (hB : B ≤ b) (hE : Gx.Ext w0 w) (hw0B : w0.heap.size ≤ B) (hz2 : s.size + (inP least (.mk 0 n row ops args)).size ≤ 1099511627776) (hlen : args.length = 0) (hn : I64 n) (hr : I64 row) (hcap : ops.length ≤ c1) (hl : ops.length ≤ 1048576) (hz : ∀ i, (ops.getD i e0).size ≤ 1048576) (ho : Gx.Rd w0 A1 ops.length 1 (fun i => [.string (ops.getD i e0)])) (ha : Gx.Rd w0 A2 0 5 cs) (htab : Lib.TabBelow Tryd.prog w0.heap.size w0 "internal/strconv.uint64pow10" .u64 Lib.pow10Tab) (hn0 : 0 ≤ n) (hle : least ≤ 2) (hK : ∀ w' s', s' = s ++ inP least (.mk 0 n row ops args) → Gx.Wx 5 B b w w' → Bd w' B b s' → K (.returned (.tuple #[])) w') :
    Calls Tryd.prog 8 #[.pointer (some ⟨b, 0, none⟩), .agg #[.int .i64 0, .int .i64 n, .int .i64 row, .slice A1 ops.length c1, .slice A2 0 c2], .int .i64 least] w K := by
  refine Gx.enterDef 137 Tryd.func8 rfl rfl (Nat.le_of_ble_eq_true rfl) ?_
  have tbb : b < w.heap.size := by obtain ⟨_, _, hq, _⟩ := hbd; exact hq.lt
  have hps := par_size least 0 (showP (.mk 0 n row ops args))
  have hdd := dig_size (m := n.toNat) (by unfold I64 at hn; omega)
  refine Gx.seq_reg [0] (by kernel_rfl) ?_
  refine Gx.cons (Gx.op_new (.cells #[.int .i64 0, .int .i64 n, .int .i64 row, .slice A1 ops.length c1, .slice A2 0 c2] 25) rfl (by kernel_rfl) (by kernel_rfl) (fun k1 w1 l1 x1 b1 => ?_))
  have zw1 := x1.size
  have tb1 := b1.lt
  refine Gx.ops_end ?_
  refine wp_seq ?_
  refine wp_seq ?_
  refine Gx.noPanic ?_
  refine Gx.draw (S := fun w' => Gx.Has w' k1 (.cells #[.int .i64 0, .int .i64 n, .int .i64 row, .slice A1 ops.length c1, .slice A2 0 c2] 25)) (by kernel_rfl) (fun w2 x2 => ?_)
  have zw2 := x2.size
  refine Gx.any_take 0 (.pointer (some ⟨k1, 4, none⟩)) rfl (by kernel_rfl) (by kernel_rfl) (by kernel_rfl) (fun _ _ _ h => h) (b1.ext x2) (by kernel_rfl) (fun _ _ => (by kernel_rfl)) ?_
  refine Gx.any_take 1 (.slice A2 0 c2) rfl (by kernel_rfl) (by kernel_rfl) (by kernel_rfl) (fun _ _ _ h => h) (b1.ext x2) (by kernel_rfl) (fun _ hs => Gx.run_load rfl 4 (.slice A2 0 c2) (by kernel_rfl) hs (by kernel_rfl)) ?_
  refine Gx.any_take 2 (.int .i64 0) rfl (by kernel_rfl) (by kernel_rfl) (by kernel_rfl) (fun _ _ _ h => h) (b1.ext x2) (by kernel_rfl) (fun _ _ => (by kernel_rfl)) ?_
  refine Gx.any_take 3 (.pointer (some ⟨k1, 0, none⟩)) rfl (by kernel_rfl) (by kernel_rfl) (by kernel_rfl) (fun _ _ _ h => h) (b1.ext x2) (by kernel_rfl) (fun _ _ => (by kernel_rfl)) ?_
  refine Gx.any_take 4 (.int .i64 0) rfl (by kernel_rfl) (by kernel_rfl) (by kernel_rfl) (fun _ _ _ h => h) (b1.ext x2) (by kernel_rfl) (fun _ hs => Gx.run_load rfl 0 (.int .i64 0) (by kernel_rfl) hs (by kernel_rfl)) ?_
  refine Gx.any_one 5 (by kernel_rfl) (Gx.op_call rfl (by kernel_rfl) (by kernel_rfl) (fun R hR => arity_c (0 : Int) _ R  (hR _ _ ⟨(b1.ext x2), ?_⟩)))
  refine Gx.any_take 6 (.bool false) rfl (by kernel_rfl) (by kernel_rfl) (by kernel_rfl) (fun _ _ _ h => h) (b1.ext x2) (by kernel_rfl) (fun _ _ => (by kernel_rfl)) ?_
  refine Gx.any_done (by kernel_rfl) ?_
  refine Gx.then_normal ?_
  refine Gx.cond_f (by kernel_rfl) ?_
  refine wp_skip ?_
  refine Gx.then_normal ?_
  refine Gx.seq_reg [0, 1, 2, 3, 4, 5] (by kernel_rfl) ?_
  refine Gx.cons (Gx.op_makeMap rfl (by kernel_rfl) rfl (fun k2 w3 l2 x3 b2 => ?_))
  have zw3 := x3.size
  have tb2 := b2.lt
  refine Gx.cons (Gx.op_insert rfl (by kernel_rfl) rfl 3 3 (by kernel_rfl) (by kernel_rfl) (by kernel_rfl) (6 : Int) (by kernel_rfl) (.int .i64 0) (by kernel_rfl) b2 rfl #[{ key := .int .i64 6, val := .int .i64 0, born := 0 }] rfl 1 rfl (fun w4 u1 b3 => ?_))
  have zw4 := u1.size
  refine Gx.cons (Gx.op_insert rfl (by kernel_rfl) rfl 3 3 (by kernel_rfl) (by kernel_rfl) (by kernel_rfl) (5 : Int) (by kernel_rfl) (.int .i64 1) (by kernel_rfl) b3 rfl #[{ key := .int .i64 6, val := .int .i64 0, born := 0 }, { key := .int .i64 5, val := .int .i64 1, born := 1 }] rfl 2 rfl (fun w5 u2 b4 => ?_))
  have zw5 := u2.size
  refine Gx.cons (Gx.op_insert rfl (by kernel_rfl) rfl 3 3 (by kernel_rfl) (by kernel_rfl) (by kernel_rfl) (4 : Int) (by kernel_rfl) (.int .i64 2) (by kernel_rfl) b4 rfl #[{ key := .int .i64 6, val := .int .i64 0, born := 0 }, { key := .int .i64 5, val := .int .i64 1, born := 1 }, { key := .int .i64 4, val := .int .i64 2, born := 2 }] rfl 3 rfl (fun w6 u3 b5 => ?_))
  have zw6 := u3.size
  refine Gx.pure [4, 5] [] [(6, .map (some k2)), (18, .map (some k2))] rfl (by kernel_rfl) ?_
  refine Gx.ops_end ?_
  refine wp_seq ?_
  refine Gx.seq_reg [0, 1, 2, 3, 4, 5, 6, 7, 8] (by kernel_rfl) ?_
  refine Gx.pure [0, 1] [2, 3, 4, 5, 6, 7, 8] [(21, .pointer (some ⟨k1, 0, none⟩)), (20, .map (some k2))] rfl (by kernel_rfl) ?_
  refine Gx.cons (Gx.op_load rfl (by kernel_rfl) rfl 0 (.int .i64 0) (by kernel_rfl) (((((b1.ext x2).ext x3).upd1 u1 (by omega)).upd1 u2 (by omega)).upd1 u3 (by omega)) (by kernel_rfl) ?_)
  refine Gx.cons (Gx.op_lookup rfl (by kernel_rfl) rfl 3 3 (by kernel_rfl) (by kernel_rfl) (by kernel_rfl) (by kernel_rfl) (0 : Int) (by kernel_rfl) b5 none rfl (.int .i64 0) (by kernel_rfl) (.int .i64 0) false rfl ?_)
  refine Gx.pure [4, 5, 6, 7, 8] [] [(8, .bool false), (7, .int .i64 0), (25, .bool false), (24, .int .i64 0), (19, .tuple #[.int .i64 0, .bool false])] rfl (by kernel_rfl) ?_
  refine Gx.ops_end ?_
  refine Gx.seq_run [(31, .bool false), (30, undef), (29, undef), (28, undef), (27, .bool false), (26, .bool false)] (by kernel_rfl) ?_
  refine Gx.cond_f (by kernel_rfl) ?_
  refine wp_skip ?_
  refine Gx.then_normal ?_
  refine Gx.seq_reg [0, 1] (by kernel_rfl) ?_
  refine Gx.pure [0] [1] [(35, .pointer (some ⟨k1, 0, none⟩))] rfl (by kernel_rfl) ?_
  refine Gx.cons (Gx.op_load rfl (by kernel_rfl) rfl 0 (.int .i64 0) (by kernel_rfl) (((((b1.ext x2).ext x3).upd1 u1 (by omega)).upd1 u2 (by omega)).upd1 u3 (by omega)) (by kernel_rfl) ?_)
  refine Gx.ops_end ?_
  refine wp_block ?_
  refine Gx.seq_run [(37, .bool true), (38, .bool true)] (by kernel_rfl) ?_
  refine Gx.cond_t (by kernel_rfl) ?_
  refine Gx.cut (d' := []) (n' := 137) (fun l' w' => l' = [(0, .pointer (some ⟨b, 0, none⟩)), (4, .pointer (some ⟨k1, 0, none⟩)), (46, .bool ((decide (n ≥ (1 : Int))) && (decide (n ≤ (26 : Int)))))] ∧ w6 = w') (fun K1 hK1 => ?_) (fun bb1 ll1 w7 hI1 => ?_)
  · refine Gx.reg [0, 1, 2, 3, 4, 5, 6, 7] (by kernel_rfl) ?_
    refine Gx.pure [0] [1, 2, 3, 4, 5, 6, 7] [(39, .pointer (some ⟨k1, 1, none⟩))] rfl (by kernel_rfl) ?_
    refine Gx.cons (Gx.op_load rfl (by kernel_rfl) rfl 1 (.int .i64 n) (by kernel_rfl) (((((b1.ext x2).ext x3).upd1 u1 (by omega)).upd1 u2 (by omega)).upd1 u3 (by omega)) (by kernel_rfl) ?_)
    refine Gx.pure [2, 3] [4, 5, 6, 7] [(42, .bool (decide (n ≥ (1 : Int)))), (41, .bool (decide (n ≥ (1 : Int))))] rfl (by kernel_rfl) ?_
    refine Gx.split (decide (n ≥ (1 : Int))) (fun h_g42 => ?_) (fun h_g42 => ?_)
    · rw [h_g42]
      refine Gx.pure [4] [5, 6, 7] [(43, .pointer (some ⟨k1, 1, none⟩))] rfl (by kernel_rfl) ?_
      have p_g42 := h_g42; try simp [-List.getD_eq_getElem?_getD] at p_g42
      refine Gx.cons (Gx.op_load rfl (by kernel_rfl) rfl 1 (.int .i64 n) (by kernel_rfl) (((((b1.ext x2).ext x3).upd1 u1 (by omega)).upd1 u2 (by omega)).upd1 u3 (by omega)) (by kernel_rfl) ?_)
      refine Gx.pure [6, 7] [] [(46, .bool (decide (n ≤ (26 : Int)))), (45, .bool (decide (n ≤ (26 : Int))))] rfl (by kernel_rfl) ?_
      refine Gx.ops_end ?_
      rw [Gx.forget [(0, .pointer (some ⟨b, 0, none⟩)), (4, .pointer (some ⟨k1, 0, none⟩)), (46, .bool ((decide (n ≥ (1 : Int))) && (decide (n ≤ (26 : Int)))))] (by rw [h_g42]; try kernel_rfl)]
      exact hK1 _ _ _ ⟨rfl, rfl⟩
    rw [h_g42]
    refine Gx.pure [4, 5, 6, 7] [] [(46, .bool false), (45, undef), (44, undef), (43, undef)] rfl (by kernel_rfl) ?_
    refine Gx.ops_end ?_
    rw [Gx.forget [(0, .pointer (some ⟨b, 0, none⟩)), (4, .pointer (some ⟨k1, 0, none⟩)), (46, .bool ((decide (n ≥ (1 : Int))) && (decide (n ≤ (26 : Int)))))] (by rw [h_g42]; try kernel_rfl)]
    exact hK1 _ _ _ ⟨rfl, rfl⟩
  obtain ⟨rfl, rfl⟩ := hI1
  refine Gx.cond ((decide (n ≥ (1 : Int))) && (decide (n ≤ (26 : Int)))) (by kernel_rfl) (fun h_c46 => ?_) (fun h_c46 => ?_)
  · skip
    refine Gx.reg [0, 1, 2, 3, 4, 5, 6] (by kernel_rfl) ?_
    refine Gx.pure [0, 1] [2, 3, 4, 5, 6] [(48, .pointer (some ⟨k1, 1, none⟩)), (47, .pointer (some ⟨b, 0, none⟩))] rfl (by kernel_rfl) ?_
    have p_c46 := h_c46; try simp [-List.getD_eq_getElem?_getD] at p_c46
    refine Gx.cons (Gx.op_load rfl (by kernel_rfl) rfl 1 (.int .i64 n) (by kernel_rfl) (((((b1.ext x2).ext x3).upd1 u1 (by omega)).upd1 u2 (by omega)).upd1 u3 (by omega)) (by kernel_rfl) ?_)
    refine Gx.pure_eq [3] [4, 5, 6] [(50, .int .i64 (IntKind.i64.wrap ((97 : Int) + n)))] [(50, .int .i64 (97 + n))] rfl (by kernel_rfl) (Gx.eqI (IntWalk.i64_in _ (by omega))) ?_
    refine Gx.pure_eq [4] [5, 6] [(51, .int .i64 (IntKind.i64.wrap ((97 + n) - (1 : Int))))] [(51, .int .i64 (96 + n))] rfl (by kernel_rfl) (Gx.eqI (by rw [IntWalk.i64_in _ (by omega)]; omega)) ?_
    refine Gx.pure_eq [5] [6] [(52, .int .u8 (IntKind.u8.wrap (96 + n)))] [(52, .int .u8 (((96 + n).toNat : Nat) : Int))] rfl (by kernel_rfl) (Gx.eqI (by rw [IntKind.wrap_u8]; omega)) ?_
    refine Gx.cons (Gx.op_call rfl (by kernel_rfl) (by kernel_rfl) (fun R hR => WriteByte_c B b s ((96 + n).toNat) _ R ((((((hbd.ext x1).ext x2).ext x3).updO u1 b2 (fun _ _ q => by cases q) (by omega)).updO u2 b3 (fun _ _ q => by cases q) (by omega)).updO u3 b4 (fun _ _ q => by cases q) (by omega)) (by omega) (by omega) (by omega) (fun w8 s1 hs1 x4 hbd1 => hR _ _ ?_)))
    have zw8 := x4.size
    have zhs1 := congrArg ByteArray.size hs1; simp only [ByteArray.size_append, litz1] at zhs1
    refine Gx.ops_nil ?_
    refine Gx.block_normal ?_
    refine Gx.retD_n (Gx.res0 rfl) ?_
    have hin := in_no (least := least) (n := n) (row := row) (ops := ops) (args := args) (show ¬ lvl 0 < least by show ¬ (3 : Int) < least; omega)
    exact hK _ s1 (by rw [hs1, hin, show_0 hlen, varS, if_pos (show 1 ≤ n ∧ n ≤ 26 by simp at h_c46; omega)]; all_goals (try simp only [app_assoc]); all_goals (try rfl)) ((((((((Gx.Wx.refl (e := 5) (wb := b) w hBw).ext x1).ext x2).ext x3).upd_new u1 (by omega)).upd_new u2 (by omega)).upd_new u3 (by omega)).trans x4) hbd1
  refine Gx.reg [0, 1, 2, 3, 4, 5] (by kernel_rfl) ?_
  refine Gx.pure [0, 1] [2, 3, 4, 5] [(55, .pointer (some ⟨k1, 1, none⟩)), (54, .pointer (some ⟨b, 0, none⟩))] rfl (by kernel_rfl) ?_
  have p_c46 := h_c46; try simp [-List.getD_eq_getElem?_getD] at p_c46
  refine Gx.cons (Gx.op_load rfl (by kernel_rfl) rfl 1 (.int .i64 n) (by kernel_rfl) (((((b1.ext x2).ext x3).upd1 u1 (by omega)).upd1 u2 (by omega)).upd1 u3 (by omega)) (by kernel_rfl) ?_)
  refine Gx.cons (Gx.op_call rfl (by kernel_rfl) (by kernel_rfl) (fun R hR => itoa_c n _ R (by omega) (by unfold I64 at *; omega) (htab _ (Gx.Ext.below (Gx.Ext.wx hE (((((((Gx.Wx.refl (e := 5) (wb := b) w hBw).ext x1).ext x2).ext x3).upd_new u1 (by omega)).upd_new u2 (by omega)).upd_new u3 (by omega)) hw0B))) (fun w9 x5  => hR _ _ ?_)))
  have zw9 := x5.size
  refine Gx.cons (Gx.op_concat rfl (by kernel_rfl) rfl (⟨#[97]⟩ : ByteArray) (digB n.toNat) (by kernel_rfl) (by kernel_rfl) (by show 1 + (digB n.toNat).size ≤ _; omega) ?_)
  refine Gx.cons (Gx.op_call rfl (by kernel_rfl) (by kernel_rfl) (fun R hR => WriteString_c B b s ((⟨#[97]⟩ : ByteArray) ++ (digB n.toNat)) _ R (((((((hbd.ext x1).ext x2).ext x3).updO u1 b2 (fun _ _ q => by cases q) (by omega)).updO u2 b3 (fun _ _ q => by cases q) (by omega)).updO u3 b4 (fun _ _ q => by cases q) (by omega)).ext x5) (by omega) (by simp only [ByteArray.size_append, litz1]; omega) (fun w10 s2 hs2 x6 hbd2 => hR _ _ ?_)))
  have zw10 := x6.size
  have zhs2 := congrArg ByteArray.size hs2; simp only [ByteArray.size_append, litz1] at zhs2
  refine Gx.ops_nil ?_
  refine Gx.block_normal ?_
  refine Gx.retD_n (Gx.res0 rfl) ?_
  have hin := in_no (least := least) (n := n) (row := row) (ops := ops) (args := args) (show ¬ lvl 0 < least by show ¬ (3 : Int) < least; omega)
  exact hK _ s2 (by rw [hs2, hin, show_0 hlen, varS, if_neg (show ¬ (1 ≤ n ∧ n ≤ 26) by simp at h_c46; omega), if_neg (show ¬ n < 0 by omega)]; all_goals (try simp only [app_assoc]); all_goals (try rfl)) (((((((((Gx.Wx.refl (e := 5) (wb := b) w hBw).ext x1).ext x2).ext x3).upd_new u1 (by omega)).upd_new u2 (by omega)).upd_new u3 (by omega)).ext x5).trans x6) hbd2

set_option maxHeartbeats 1000000 in
set_option maxRecDepth 10000 in
theorem pshow_1 (w0 : World) (B b : Nat) (s : ByteArray) (n row : Int) (ops : List ByteArray) (args : List TyP) (A1 A2 : Option Addr) (c1 c2 : Nat) (cs : Nat → List Value) (least : Int) (w : World) (K : Ending → World → Prop) (hbd : Bd w B b s) (hBw : B ≤ w.heap.size) (hB : B ≤ b) (hE : Gx.Ext w0 w) (hw0B : w0.heap.size ≤ B) (hz2 : s.size + (inP least (.mk 1 n row ops args)).size ≤ 1099511627776) (hlen : args.length = 0) (hn : I64 n) (hr : I64 row) (hcap : ops.length ≤ c1) (hl : ops.length ≤ 1048576) (hz : ∀ i, (ops.getD i e0).size ≤ 1048576) (ho : Gx.Rd w0 A1 ops.length 1 (fun i => [.string (ops.getD i e0)])) (ha : Gx.Rd w0 A2 0 5 cs) (htab : Lib.TabBelow Tryd.prog w0.heap.size w0 "internal/strconv.uint64pow10" .u64 Lib.pow10Tab) (hle : least ≤ 2) (hK : ∀ w' s', s' = s ++ inP least (.mk 1 n row ops args) → Gx.Wx 5 B b w w' → Bd w' B b s' → K (.returned (.tuple #[])) w') :
    Calls Tryd.prog 8 #[.pointer (some ⟨b, 0, none⟩), .agg #[.int .i64 1, .int .i64 n, .int .i64 row, .slice A1 ops.length c1, .slice A2 0 c2], .int .i64 least] w K := by
  refine Gx.enterDef 137 Tryd.func8 rfl rfl (Nat.le_of_ble_eq_true rfl) ?_
  have tbb : b < w.heap.size := by obtain ⟨_, _, hq, _⟩ := hbd; exact hq.lt
  have hps := par_size least 1 (showP (.mk 1 n row ops args))
  refine Gx.seq_reg [0] (by kernel_rfl) ?_
  refine Gx.cons (Gx.op_new (.cells #[.int .i64 1, .int .i64 n, .int .i64 row, .slice A1 ops.length c1, .slice A2 0 c2] 25) rfl (by kernel_rfl) (by kernel_rfl) (fun k1 w1 l1 x1 b1 => ?_))
  have zw1 := x1.size
  have tb1 := b1.lt
  refine Gx.ops_end ?_
  refine wp_seq ?_
  refine wp_seq ?_
  refine Gx.noPanic ?_
  refine Gx.draw (S := fun w' => Gx.Has w' k1 (.cells #[.int .i64 1, .int .i64 n, .int .i64 row, .slice A1 ops.length c1, .slice A2 0 c2] 25)) (by kernel_rfl) (fun w2 x2 => ?_)
  have zw2 := x2.size
  refine Gx.any_take 0 (.pointer (some ⟨k1, 4, none⟩)) rfl (by kernel_rfl) (by kernel_rfl) (by kernel_rfl) (fun _ _ _ h => h) (b1.ext x2) (by kernel_rfl) (fun _ _ => (by kernel_rfl)) ?_
  refine Gx.any_take 1 (.slice A2 0 c2) rfl (by kernel_rfl) (by kernel_rfl) (by kernel_rfl) (fun _ _ _ h => h) (b1.ext x2) (by kernel_rfl) (fun _ hs => Gx.run_load rfl 4 (.slice A2 0 c2) (by kernel_rfl) hs (by kernel_rfl)) ?_
  refine Gx.any_take 2 (.int .i64 0) rfl (by kernel_rfl) (by kernel_rfl) (by kernel_rfl) (fun _ _ _ h => h) (b1.ext x2) (by kernel_rfl) (fun _ _ => (by kernel_rfl)) ?_
  refine Gx.any_take 3 (.pointer (some ⟨k1, 0, none⟩)) rfl (by kernel_rfl) (by kernel_rfl) (by kernel_rfl) (fun _ _ _ h => h) (b1.ext x2) (by kernel_rfl) (fun _ _ => (by kernel_rfl)) ?_
  refine Gx.any_take 4 (.int .i64 1) rfl (by kernel_rfl) (by kernel_rfl) (by kernel_rfl) (fun _ _ _ h => h) (b1.ext x2) (by kernel_rfl) (fun _ hs => Gx.run_load rfl 0 (.int .i64 1) (by kernel_rfl) hs (by kernel_rfl)) ?_
  refine Gx.any_one 5 (by kernel_rfl) (Gx.op_call rfl (by kernel_rfl) (by kernel_rfl) (fun R hR => arity_c (1 : Int) _ R  (hR _ _ ⟨(b1.ext x2), ?_⟩)))
  refine Gx.any_take 6 (.bool false) rfl (by kernel_rfl) (by kernel_rfl) (by kernel_rfl) (fun _ _ _ h => h) (b1.ext x2) (by kernel_rfl) (fun _ _ => (by kernel_rfl)) ?_
  refine Gx.any_done (by kernel_rfl) ?_
  refine Gx.then_normal ?_
  refine Gx.cond_f (by kernel_rfl) ?_
  refine wp_skip ?_
  refine Gx.then_normal ?_
  refine Gx.seq_reg [0, 1, 2, 3, 4, 5] (by kernel_rfl) ?_
  refine Gx.cons (Gx.op_makeMap rfl (by kernel_rfl) rfl (fun k2 w3 l2 x3 b2 => ?_))
  have zw3 := x3.size
  have tb2 := b2.lt
  refine Gx.cons (Gx.op_insert rfl (by kernel_rfl) rfl 3 3 (by kernel_rfl) (by kernel_rfl) (by kernel_rfl) (6 : Int) (by kernel_rfl) (.int .i64 0) (by kernel_rfl) b2 rfl #[{ key := .int .i64 6, val := .int .i64 0, born := 0 }] rfl 1 rfl (fun w4 u1 b3 => ?_))
  have zw4 := u1.size
  refine Gx.cons (Gx.op_insert rfl (by kernel_rfl) rfl 3 3 (by kernel_rfl) (by kernel_rfl) (by kernel_rfl) (5 : Int) (by kernel_rfl) (.int .i64 1) (by kernel_rfl) b3 rfl #[{ key := .int .i64 6, val := .int .i64 0, born := 0 }, { key := .int .i64 5, val := .int .i64 1, born := 1 }] rfl 2 rfl (fun w5 u2 b4 => ?_))
  have zw5 := u2.size
  refine Gx.cons (Gx.op_insert rfl (by kernel_rfl) rfl 3 3 (by kernel_rfl) (by kernel_rfl) (by kernel_rfl) (4 : Int) (by kernel_rfl) (.int .i64 2) (by kernel_rfl) b4 rfl #[{ key := .int .i64 6, val := .int .i64 0, born := 0 }, { key := .int .i64 5, val := .int .i64 1, born := 1 }, { key := .int .i64 4, val := .int .i64 2, born := 2 }] rfl 3 rfl (fun w6 u3 b5 => ?_))
  have zw6 := u3.size
  refine Gx.pure [4, 5] [] [(6, .map (some k2)), (18, .map (some k2))] rfl (by kernel_rfl) ?_
  refine Gx.ops_end ?_
  refine wp_seq ?_
  refine Gx.seq_reg [0, 1, 2, 3, 4, 5, 6, 7, 8] (by kernel_rfl) ?_
  refine Gx.pure [0, 1] [2, 3, 4, 5, 6, 7, 8] [(21, .pointer (some ⟨k1, 0, none⟩)), (20, .map (some k2))] rfl (by kernel_rfl) ?_
  refine Gx.cons (Gx.op_load rfl (by kernel_rfl) rfl 0 (.int .i64 1) (by kernel_rfl) (((((b1.ext x2).ext x3).upd1 u1 (by omega)).upd1 u2 (by omega)).upd1 u3 (by omega)) (by kernel_rfl) ?_)
  refine Gx.cons (Gx.op_lookup rfl (by kernel_rfl) rfl 3 3 (by kernel_rfl) (by kernel_rfl) (by kernel_rfl) (by kernel_rfl) (1 : Int) (by kernel_rfl) b5 none rfl (.int .i64 0) (by kernel_rfl) (.int .i64 0) false rfl ?_)
  refine Gx.pure [4, 5, 6, 7, 8] [] [(8, .bool false), (7, .int .i64 0), (25, .bool false), (24, .int .i64 0), (19, .tuple #[.int .i64 0, .bool false])] rfl (by kernel_rfl) ?_
  refine Gx.ops_end ?_
  refine Gx.seq_run [(31, .bool false), (30, undef), (29, undef), (28, undef), (27, .bool false), (26, .bool false)] (by kernel_rfl) ?_
  refine Gx.cond_f (by kernel_rfl) ?_
  refine wp_skip ?_
  refine Gx.then_normal ?_
  refine Gx.seq_reg [0, 1] (by kernel_rfl) ?_
  refine Gx.pure [0] [1] [(35, .pointer (some ⟨k1, 0, none⟩))] rfl (by kernel_rfl) ?_
  refine Gx.cons (Gx.op_load rfl (by kernel_rfl) rfl 0 (.int .i64 1) (by kernel_rfl) (((((b1.ext x2).ext x3).upd1 u1 (by omega)).upd1 u2 (by omega)).upd1 u3 (by omega)) (by kernel_rfl) ?_)
  refine Gx.ops_end ?_
  refine wp_block ?_
  refine Gx.seq_run [(37, .bool false), (38, .bool false)] (by kernel_rfl) ?_
  refine Gx.cond_f (by kernel_rfl) ?_
  refine Gx.seq_run [(60, .bool true), (61, .bool true)] (by kernel_rfl) ?_
  refine Gx.cond_t (by kernel_rfl) ?_
  refine Gx.reg [0, 1] (by kernel_rfl) ?_
  refine Gx.pure [0] [1] [(62, .pointer (some ⟨b, 0, none⟩))] rfl (by kernel_rfl) ?_
  refine Gx.cons (Gx.op_call rfl (by kernel_rfl) (by kernel_rfl) (fun R hR => WriteString_c B b s (⟨#[105, 110, 116]⟩ : ByteArray) _ R ((((((hbd.ext x1).ext x2).ext x3).updO u1 b2 (fun _ _ q => by cases q) (by omega)).updO u2 b3 (fun _ _ q => by cases q) (by omega)).updO u3 b4 (fun _ _ q => by cases q) (by omega)) (by omega) (by simp only [litz3]; omega) (fun w7 s1 hs1 x4 hbd1 => hR _ _ ?_)))
  have zw7 := x4.size
  have zhs1 := congrArg ByteArray.size hs1; simp only [ByteArray.size_append, litz3] at zhs1
  refine Gx.ops_nil ?_
  refine Gx.block_normal ?_
  refine Gx.retD_n (Gx.res0 rfl) ?_
  have hin := in_no (least := least) (n := n) (row := row) (ops := ops) (args := args) (show ¬ lvl 1 < least by show ¬ (3 : Int) < least; omega)
  exact hK _ s1 (by rw [hs1, hin, show_1 hlen]; all_goals (try simp only [app_assoc]); all_goals (try rfl)) ((((((((Gx.Wx.refl (e := 5) (wb := b) w hBw).ext x1).ext x2).ext x3).upd_new u1 (by omega)).upd_new u2 (by omega)).upd_new u3 (by omega)).trans x4) hbd1

set_option maxHeartbeats 1000000 in
set_option maxRecDepth 10000 in
theorem pshow_2 (w0 : World) (B b : Nat) (s : ByteArray) (n row : Int) (ops : List ByteArray) (args : List TyP) (A1 A2 : Option Addr) (c1 c2 : Nat) (cs : Nat → List Value) (least : Int) (w : World) (K : Ending → World → Prop) (hbd : Bd w B b s) (hBw : B ≤ w.heap.size) (hB : B ≤ b) (hE : Gx.Ext w0 w) (hw0B : w0.heap.size ≤ B) (hz2 : s.size + (inP least (.mk 2 n row ops args)).size ≤ 1099511627776) (hlen : args.length = 0) (hn : I64 n) (hr : I64 row) (hcap : ops.length ≤ c1) (hl : ops.length ≤ 1048576) (hz : ∀ i, (ops.getD i e0).size ≤ 1048576) (ho : Gx.Rd w0 A1 ops.length 1 (fun i => [.string (ops.getD i e0)])) (ha : Gx.Rd w0 A2 0 5 cs) (htab : Lib.TabBelow Tryd.prog w0.heap.size w0 "internal/strconv.uint64pow10" .u64 Lib.pow10Tab) (hle : least ≤ 2) (hK : ∀ w' s', s' = s ++ inP least (.mk 2 n row ops args) → Gx.Wx 5 B b w w' → Bd w' B b s' → K (.returned (.tuple #[])) w') :
    Calls Tryd.prog 8 #[.pointer (some ⟨b, 0, none⟩), .agg #[.int .i64 2, .int .i64 n, .int .i64 row, .slice A1 ops.length c1, .slice A2 0 c2], .int .i64 least] w K := by
  refine Gx.enterDef 137 Tryd.func8 rfl rfl (Nat.le_of_ble_eq_true rfl) ?_
  have tbb : b < w.heap.size := by obtain ⟨_, _, hq, _⟩ := hbd; exact hq.lt
  have hps := par_size least 2 (showP (.mk 2 n row ops args))
  refine Gx.seq_reg [0] (by kernel_rfl) ?_
  refine Gx.cons (Gx.op_new (.cells #[.int .i64 2, .int .i64 n, .int .i64 row, .slice A1 ops.length c1, .slice A2 0 c2] 25) rfl (by kernel_rfl) (by kernel_rfl) (fun k1 w1 l1 x1 b1 => ?_))
  have zw1 := x1.size
  have tb1 := b1.lt
  refine Gx.ops_end ?_
  refine wp_seq ?_
  refine wp_seq ?_
  refine Gx.noPanic ?_
  refine Gx.draw (S := fun w' => Gx.Has w' k1 (.cells #[.int .i64 2, .int .i64 n, .int .i64 row, .slice A1 ops.length c1, .slice A2 0 c2] 25)) (by kernel_rfl) (fun w2 x2 => ?_)
  have zw2 := x2.size
  refine Gx.any_take 0 (.pointer (some ⟨k1, 4, none⟩)) rfl (by kernel_rfl) (by kernel_rfl) (by kernel_rfl) (fun _ _ _ h => h) (b1.ext x2) (by kernel_rfl) (fun _ _ => (by kernel_rfl)) ?_
  refine Gx.any_take 1 (.slice A2 0 c2) rfl (by kernel_rfl) (by kernel_rfl) (by kernel_rfl) (fun _ _ _ h => h) (b1.ext x2) (by kernel_rfl) (fun _ hs => Gx.run_load rfl 4 (.slice A2 0 c2) (by kernel_rfl) hs (by kernel_rfl)) ?_
  refine Gx.any_take 2 (.int .i64 0) rfl (by kernel_rfl) (by kernel_rfl) (by kernel_rfl) (fun _ _ _ h => h) (b1.ext x2) (by kernel_rfl) (fun _ _ => (by kernel_rfl)) ?_
  refine Gx.any_take 3 (.pointer (some ⟨k1, 0, none⟩)) rfl (by kernel_rfl) (by kernel_rfl) (by kernel_rfl) (fun _ _ _ h => h) (b1.ext x2) (by kernel_rfl) (fun _ _ => (by kernel_rfl)) ?_
  refine Gx.any_take 4 (.int .i64 2) rfl (by kernel_rfl) (by kernel_rfl) (by kernel_rfl) (fun _ _ _ h => h) (b1.ext x2) (by kernel_rfl) (fun _ hs => Gx.run_load rfl 0 (.int .i64 2) (by kernel_rfl) hs (by kernel_rfl)) ?_
  refine Gx.any_one 5 (by kernel_rfl) (Gx.op_call rfl (by kernel_rfl) (by kernel_rfl) (fun R hR => arity_c (2 : Int) _ R  (hR _ _ ⟨(b1.ext x2), ?_⟩)))
  refine Gx.any_take 6 (.bool false) rfl (by kernel_rfl) (by kernel_rfl) (by kernel_rfl) (fun _ _ _ h => h) (b1.ext x2) (by kernel_rfl) (fun _ _ => (by kernel_rfl)) ?_
  refine Gx.any_done (by kernel_rfl) ?_
  refine Gx.then_normal ?_
  refine Gx.cond_f (by kernel_rfl) ?_
  refine wp_skip ?_
  refine Gx.then_normal ?_
  refine Gx.seq_reg [0, 1, 2, 3, 4, 5] (by kernel_rfl) ?_
  refine Gx.cons (Gx.op_makeMap rfl (by kernel_rfl) rfl (fun k2 w3 l2 x3 b2 => ?_))
  have zw3 := x3.size
  have tb2 := b2.lt
  refine Gx.cons (Gx.op_insert rfl (by kernel_rfl) rfl 3 3 (by kernel_rfl) (by kernel_rfl) (by kernel_rfl) (6 : Int) (by kernel_rfl) (.int .i64 0) (by kernel_rfl) b2 rfl #[{ key := .int .i64 6, val := .int .i64 0, born := 0 }] rfl 1 rfl (fun w4 u1 b3 => ?_))
  have zw4 := u1.size
  refine Gx.cons (Gx.op_insert rfl (by kernel_rfl) rfl 3 3 (by kernel_rfl) (by kernel_rfl) (by kernel_rfl) (5 : Int) (by kernel_rfl) (.int .i64 1) (by kernel_rfl) b3 rfl #[{ key := .int .i64 6, val := .int .i64 0, born := 0 }, { key := .int .i64 5, val := .int .i64 1, born := 1 }] rfl 2 rfl (fun w5 u2 b4 => ?_))
  have zw5 := u2.size
  refine Gx.cons (Gx.op_insert rfl (by kernel_rfl) rfl 3 3 (by kernel_rfl) (by kernel_rfl) (by kernel_rfl) (4 : Int) (by kernel_rfl) (.int .i64 2) (by kernel_rfl) b4 rfl #[{ key := .int .i64 6, val := .int .i64 0, born := 0 }, { key := .int .i64 5, val := .int .i64 1, born := 1 }, { key := .int .i64 4, val := .int .i64 2, born := 2 }] rfl 3 rfl (fun w6 u3 b5 => ?_))
  have zw6 := u3.size
  refine Gx.pure [4, 5] [] [(6, .map (some k2)), (18, .map (some k2))] rfl (by kernel_rfl) ?_
  refine Gx.ops_end ?_
  refine wp_seq ?_
  refine Gx.seq_reg [0, 1, 2, 3, 4, 5, 6, 7, 8] (by kernel_rfl) ?_
  refine Gx.pure [0, 1] [2, 3, 4, 5, 6, 7, 8] [(21, .pointer (some ⟨k1, 0, none⟩)), (20, .map (some k2))] rfl (by kernel_rfl) ?_
  refine Gx.cons (Gx.op_load rfl (by kernel_rfl) rfl 0 (.int .i64 2) (by kernel_rfl) (((((b1.ext x2).ext x3).upd1 u1 (by omega)).upd1 u2 (by omega)).upd1 u3 (by omega)) (by kernel_rfl) ?_)
  refine Gx.cons (Gx.op_lookup rfl (by kernel_rfl) rfl 3 3 (by kernel_rfl) (by kernel_rfl) (by kernel_rfl) (by kernel_rfl) (2 : Int) (by kernel_rfl) b5 none rfl (.int .i64 0) (by kernel_rfl) (.int .i64 0) false rfl ?_)
  refine Gx.pure [4, 5, 6, 7, 8] [] [(8, .bool false), (7, .int .i64 0), (25, .bool false), (24, .int .i64 0), (19, .tuple #[.int .i64 0, .bool false])] rfl (by kernel_rfl) ?_
  refine Gx.ops_end ?_
  refine Gx.seq_run [(31, .bool false), (30, undef), (29, undef), (28, undef), (27, .bool false), (26, .bool false)] (by kernel_rfl) ?_
  refine Gx.cond_f (by kernel_rfl) ?_
  refine wp_skip ?_
  refine Gx.then_normal ?_
  refine Gx.seq_reg [0, 1] (by kernel_rfl) ?_
  refine Gx.pure [0] [1] [(35, .pointer (some ⟨k1, 0, none⟩))] rfl (by kernel_rfl) ?_
  refine Gx.cons (Gx.op_load rfl (by kernel_rfl) rfl 0 (.int .i64 2) (by kernel_rfl) (((((b1.ext x2).ext x3).upd1 u1 (by omega)).upd1 u2 (by omega)).upd1 u3 (by omega)) (by kernel_rfl) ?_)
  refine Gx.ops_end ?_
  refine wp_block ?_
  refine Gx.seq_run [(37, .bool false), (38, .bool false)] (by kernel_rfl) ?_
  refine Gx.cond_f (by kernel_rfl) ?_
  refine Gx.seq_run [(60, .bool false), (61, .bool false)] (by kernel_rfl) ?_
  refine Gx.cond_f (by kernel_rfl) ?_
  refine Gx.seq_run [(64, .bool true), (65, .bool true)] (by kernel_rfl) ?_
  refine Gx.cond_t (by kernel_rfl) ?_
  refine Gx.reg [0, 1] (by kernel_rfl) ?_
  refine Gx.pure [0] [1] [(66, .pointer (some ⟨b, 0, none⟩))] rfl (by kernel_rfl) ?_
  refine Gx.cons (Gx.op_call rfl (by kernel_rfl) (by kernel_rfl) (fun R hR => WriteString_c B b s (⟨#[98, 111, 111, 108]⟩ : ByteArray) _ R ((((((hbd.ext x1).ext x2).ext x3).updO u1 b2 (fun _ _ q => by cases q) (by omega)).updO u2 b3 (fun _ _ q => by cases q) (by omega)).updO u3 b4 (fun _ _ q => by cases q) (by omega)) (by omega) (by simp only [litz4]; omega) (fun w7 s1 hs1 x4 hbd1 => hR _ _ ?_)))
  have zw7 := x4.size
  have zhs1 := congrArg ByteArray.size hs1; simp only [ByteArray.size_append, litz4] at zhs1
  refine Gx.ops_nil ?_
  refine Gx.block_normal ?_
  refine Gx.retD_n (Gx.res0 rfl) ?_
  have hin := in_no (least := least) (n := n) (row := row) (ops := ops) (args := args) (show ¬ lvl 2 < least by show ¬ (3 : Int) < least; omega)
  exact hK _ s1 (by rw [hs1, hin, show_2 hlen]; all_goals (try simp only [app_assoc]); all_goals (try rfl)) ((((((((Gx.Wx.refl (e := 5) (wb := b) w hBw).ext x1).ext x2).ext x3).upd_new u1 (by omega)).upd_new u2 (by omega)).upd_new u3 (by omega)).trans x4) hbd1

set_option maxHeartbeats 1000000 in
set_option maxRecDepth 10000 in
theorem pshow_3 (w0 : World) (B b : Nat) (s : ByteArray) (n row : Int) (ops : List ByteArray) (args : List TyP) (A1 A2 : Option Addr) (c1 c2 : Nat) (cs : Nat → List Value) (least : Int) (w : World) (K : Ending → World → Prop) (hbd : Bd w B b s) (hBw : B ≤ w.heap.size) (hB : B ≤ b) (hE : Gx.Ext w0 w) (hw0B : w0.heap.size ≤ B) (hz2 : s.size + (inP least (.mk 3 n row ops args)).size ≤ 1099511627776) (hlen : args.length = 0) (hn : I64 n) (hr : I64 row) (hcap : ops.length ≤ c1) (hl : ops.length ≤ 1048576) (hz : ∀ i, (ops.getD i e0).size ≤ 1048576) (ho : Gx.Rd w0 A1 ops.length 1 (fun i => [.string (ops.getD i e0)])) (ha : Gx.Rd w0 A2 0 5 cs) (htab : Lib.TabBelow Tryd.prog w0.heap.size w0 "internal/strconv.uint64pow10" .u64 Lib.pow10Tab) (hle : least ≤ 2) (hK : ∀ w' s', s' = s ++ inP least (.mk 3 n row ops args) → Gx.Wx 5 B b w w' → Bd w' B b s' → K (.returned (.tuple #[])) w') :
    Calls Tryd.prog 8 #[.pointer (some ⟨b, 0, none⟩), .agg #[.int .i64 3, .int .i64 n, .int .i64 row, .slice A1 ops.length c1, .slice A2 0 c2], .int .i64 least] w K := by
  refine Gx.enterDef 137 Tryd.func8 rfl rfl (Nat.le_of_ble_eq_true rfl) ?_
  have tbb : b < w.heap.size := by obtain ⟨_, _, hq, _⟩ := hbd; exact hq.lt
  have hps := par_size least 3 (showP (.mk 3 n row ops args))
  refine Gx.seq_reg [0] (by kernel_rfl) ?_
  refine Gx.cons (Gx.op_new (.cells #[.int .i64 3, .int .i64 n, .int .i64 row, .slice A1 ops.length c1, .slice A2 0 c2] 25) rfl (by kernel_rfl) (by kernel_rfl) (fun k1 w1 l1 x1 b1 => ?_))
  have zw1 := x1.size
  have tb1 := b1.lt
  refine Gx.ops_end ?_
  refine wp_seq ?_
  refine wp_seq ?_
  refine Gx.noPanic ?_
  refine Gx.draw (S := fun w' => Gx.Has w' k1 (.cells #[.int .i64 3, .int .i64 n, .int .i64 row, .slice A1 ops.length c1, .slice A2 0 c2] 25)) (by kernel_rfl) (fun w2 x2 => ?_)
  have zw2 := x2.size
  refine Gx.any_take 0 (.pointer (some ⟨k1, 4, none⟩)) rfl (by kernel_rfl) (by kernel_rfl) (by kernel_rfl) (fun _ _ _ h => h) (b1.ext x2) (by kernel_rfl) (fun _ _ => (by kernel_rfl)) ?_
  refine Gx.any_take 1 (.slice A2 0 c2) rfl (by kernel_rfl) (by kernel_rfl) (by kernel_rfl) (fun _ _ _ h => h) (b1.ext x2) (by kernel_rfl) (fun _ hs => Gx.run_load rfl 4 (.slice A2 0 c2) (by kernel_rfl) hs (by kernel_rfl)) ?_
  refine Gx.any_take 2 (.int .i64 0) rfl (by kernel_rfl) (by kernel_rfl) (by kernel_rfl) (fun _ _ _ h => h) (b1.ext x2) (by kernel_rfl) (fun _ _ => (by kernel_rfl)) ?_
  refine Gx.any_take 3 (.pointer (some ⟨k1, 0, none⟩)) rfl (by kernel_rfl) (by kernel_rfl) (by kernel_rfl) (fun _ _ _ h => h) (b1.ext x2) (by kernel_rfl) (fun _ _ => (by kernel_rfl)) ?_
  refine Gx.any_take 4 (.int .i64 3) rfl (by kernel_rfl) (by kernel_rfl) (by kernel_rfl) (fun _ _ _ h => h) (b1.ext x2) (by kernel_rfl) (fun _ hs => Gx.run_load rfl 0 (.int .i64 3) (by kernel_rfl) hs (by kernel_rfl)) ?_
  refine Gx.any_one 5 (by kernel_rfl) (Gx.op_call rfl (by kernel_rfl) (by kernel_rfl) (fun R hR => arity_c (3 : Int) _ R  (hR _ _ ⟨(b1.ext x2), ?_⟩)))
  refine Gx.any_take 6 (.bool false) rfl (by kernel_rfl) (by kernel_rfl) (by kernel_rfl) (fun _ _ _ h => h) (b1.ext x2) (by kernel_rfl) (fun _ _ => (by kernel_rfl)) ?_
  refine Gx.any_done (by kernel_rfl) ?_
  refine Gx.then_normal ?_
  refine Gx.cond_f (by kernel_rfl) ?_
  refine wp_skip ?_
  refine Gx.then_normal ?_
  refine Gx.seq_reg [0, 1, 2, 3, 4, 5] (by kernel_rfl) ?_
  refine Gx.cons (Gx.op_makeMap rfl (by kernel_rfl) rfl (fun k2 w3 l2 x3 b2 => ?_))
  have zw3 := x3.size
  have tb2 := b2.lt
  refine Gx.cons (Gx.op_insert rfl (by kernel_rfl) rfl 3 3 (by kernel_rfl) (by kernel_rfl) (by kernel_rfl) (6 : Int) (by kernel_rfl) (.int .i64 0) (by kernel_rfl) b2 rfl #[{ key := .int .i64 6, val := .int .i64 0, born := 0 }] rfl 1 rfl (fun w4 u1 b3 => ?_))
  have zw4 := u1.size
  refine Gx.cons (Gx.op_insert rfl (by kernel_rfl) rfl 3 3 (by kernel_rfl) (by kernel_rfl) (by kernel_rfl) (5 : Int) (by kernel_rfl) (.int .i64 1) (by kernel_rfl) b3 rfl #[{ key := .int .i64 6, val := .int .i64 0, born := 0 }, { key := .int .i64 5, val := .int .i64 1, born := 1 }] rfl 2 rfl (fun w5 u2 b4 => ?_))
  have zw5 := u2.size
  refine Gx.cons (Gx.op_insert rfl (by kernel_rfl) rfl 3 3 (by kernel_rfl) (by kernel_rfl) (by kernel_rfl) (4 : Int) (by kernel_rfl) (.int .i64 2) (by kernel_rfl) b4 rfl #[{ key := .int .i64 6, val := .int .i64 0, born := 0 }, { key := .int .i64 5, val := .int .i64 1, born := 1 }, { key := .int .i64 4, val := .int .i64 2, born := 2 }] rfl 3 rfl (fun w6 u3 b5 => ?_))
  have zw6 := u3.size
  refine Gx.pure [4, 5] [] [(6, .map (some k2)), (18, .map (some k2))] rfl (by kernel_rfl) ?_
  refine Gx.ops_end ?_
  refine wp_seq ?_
  refine Gx.seq_reg [0, 1, 2, 3, 4, 5, 6, 7, 8] (by kernel_rfl) ?_
  refine Gx.pure [0, 1] [2, 3, 4, 5, 6, 7, 8] [(21, .pointer (some ⟨k1, 0, none⟩)), (20, .map (some k2))] rfl (by kernel_rfl) ?_
  refine Gx.cons (Gx.op_load rfl (by kernel_rfl) rfl 0 (.int .i64 3) (by kernel_rfl) (((((b1.ext x2).ext x3).upd1 u1 (by omega)).upd1 u2 (by omega)).upd1 u3 (by omega)) (by kernel_rfl) ?_)
  refine Gx.cons (Gx.op_lookup rfl (by kernel_rfl) rfl 3 3 (by kernel_rfl) (by kernel_rfl) (by kernel_rfl) (by kernel_rfl) (3 : Int) (by kernel_rfl) b5 none rfl (.int .i64 0) (by kernel_rfl) (.int .i64 0) false rfl ?_)
  refine Gx.pure [4, 5, 6, 7, 8] [] [(8, .bool false), (7, .int .i64 0), (25, .bool false), (24, .int .i64 0), (19, .tuple #[.int .i64 0, .bool false])] rfl (by kernel_rfl) ?_
  refine Gx.ops_end ?_
  refine Gx.seq_run [(31, .bool false), (30, undef), (29, undef), (28, undef), (27, .bool false), (26, .bool false)] (by kernel_rfl) ?_
  refine Gx.cond_f (by kernel_rfl) ?_
  refine wp_skip ?_
  refine Gx.then_normal ?_
  refine Gx.seq_reg [0, 1] (by kernel_rfl) ?_
  refine Gx.pure [0] [1] [(35, .pointer (some ⟨k1, 0, none⟩))] rfl (by kernel_rfl) ?_
  refine Gx.cons (Gx.op_load rfl (by kernel_rfl) rfl 0 (.int .i64 3) (by kernel_rfl) (((((b1.ext x2).ext x3).upd1 u1 (by omega)).upd1 u2 (by omega)).upd1 u3 (by omega)) (by kernel_rfl) ?_)
  refine Gx.ops_end ?_
  refine wp_block ?_
  refine Gx.seq_run [(37, .bool false), (38, .bool false)] (by kernel_rfl) ?_
  refine Gx.cond_f (by kernel_rfl) ?_
  refine Gx.seq_run [(60, .bool false), (61, .bool false)] (by kernel_rfl) ?_
  refine Gx.cond_f (by kernel_rfl) ?_
  refine Gx.seq_run [(64, .bool false), (65, .bool false)] (by kernel_rfl) ?_
  refine Gx.cond_f (by kernel_rfl) ?_
  refine Gx.seq_run [(68, .bool true), (69, .bool true)] (by kernel_rfl) ?_
  refine Gx.cond_t (by kernel_rfl) ?_
  refine Gx.reg [0, 1] (by kernel_rfl) ?_
  refine Gx.pure [0] [1] [(70, .pointer (some ⟨b, 0, none⟩))] rfl (by kernel_rfl) ?_
  refine Gx.cons (Gx.op_call rfl (by kernel_rfl) (by kernel_rfl) (fun R hR => WriteString_c B b s (⟨#[117, 110, 105, 116]⟩ : ByteArray) _ R ((((((hbd.ext x1).ext x2).ext x3).updO u1 b2 (fun _ _ q => by cases q) (by omega)).updO u2 b3 (fun _ _ q => by cases q) (by omega)).updO u3 b4 (fun _ _ q => by cases q) (by omega)) (by omega) (by simp only [litz4]; omega) (fun w7 s1 hs1 x4 hbd1 => hR _ _ ?_)))
  have zw7 := x4.size
  have zhs1 := congrArg ByteArray.size hs1; simp only [ByteArray.size_append, litz4] at zhs1
  refine Gx.ops_nil ?_
  refine Gx.block_normal ?_
  refine Gx.retD_n (Gx.res0 rfl) ?_
  have hin := in_no (least := least) (n := n) (row := row) (ops := ops) (args := args) (show ¬ lvl 3 < least by show ¬ (3 : Int) < least; omega)
  exact hK _ s1 (by rw [hs1, hin, show_3 hlen]; all_goals (try simp only [app_assoc]); all_goals (try rfl)) ((((((((Gx.Wx.refl (e := 5) (wb := b) w hBw).ext x1).ext x2).ext x3).upd_new u1 (by omega)).upd_new u2 (by omega)).upd_new u3 (by omega)).trans x4) hbd1

set_option maxHeartbeats 1000000 in
set_option maxRecDepth 10000 in
theorem pshow_4 (w0 : World) (B b : Nat) (s : ByteArray) (n row : Int) (ops : List ByteArray) (args : List TyP) (A1 A2 : Option Addr) (c1 c2 : Nat) (cs : Nat → List Value) (least : Int) (w : World) (K : Ending → World → Prop) (hbd : Bd w B b s) (hBw : B ≤ w.heap.size) (hB : B ≤ b) (hE : Gx.Ext w0 w) (hw0B : w0.heap.size ≤ B) (hz2 : s.size + (inP least (.mk 4 n row ops args)).size ≤ 1099511627776) (hlen : args.length = 1) (hn : I64 n) (hr : I64 row) (hcap : ops.length ≤ c1) (hl : ops.length ≤ 1048576) (hz : ∀ i, (ops.getD i e0).size ≤ 1048576) (ho : Gx.Rd w0 A1 ops.length 1 (fun i => [.string (ops.getD i e0)])) (ha : Gx.Rd w0 A2 1 5 cs) (htab : Lib.TabBelow Tryd.prog w0.heap.size w0 "internal/strconv.uint64pow10" .u64 Lib.pow10Tab) (hle : least ≤ 2) (ihS : ∀ i, i < args.length → ∀ (B b : Nat) (s : ByteArray) (least : Int) (w : World) (K : Ending → World → Prop), Bd w B b s → B ≤ w.heap.size → Gx.Ext w0 w → w0.heap.size ≤ B → least ≤ 2 → (s.size + (inP least (args.getD i ty0)).size ≤ 1099511627776) → (∀ w' s', s' = s ++ inP least (args.getD i ty0) → Gx.Wx 5 B b w w' → Bd w' B b s' → K (.returned (.tuple #[])) w') → Calls Tryd.prog 8 #[.pointer (some ⟨b, 0, none⟩), .agg (cs i).toArray, .int .i64 least] w K) (hK : ∀ w' s', s' = s ++ inP least (.mk 4 n row ops args) → Gx.Wx 5 B b w w' → Bd w' B b s' → K (.returned (.tuple #[])) w') :
    Calls Tryd.prog 8 #[.pointer (some ⟨b, 0, none⟩), .agg #[.int .i64 4, .int .i64 n, .int .i64 row, .slice A1 ops.length c1, .slice A2 1 c2], .int .i64 least] w K := by
  refine Gx.enterDef 137 Tryd.func8 rfl rfl (Nat.le_of_ble_eq_true rfl) ?_
  have tbb : b < w.heap.size := by obtain ⟨_, _, hq, _⟩ := hbd; exact hq.lt
  have hq := congrArg ByteArray.size (show_4 (n := n) (row := row) (ops := ops) hlen); simp only [ByteArray.size_append, litz5] at hq
  have hps := par_size least 4 (showP (.mk 4 n row ops args))
  refine Gx.seq_reg [0] (by kernel_rfl) ?_
  refine Gx.cons (Gx.op_new (.cells #[.int .i64 4, .int .i64 n, .int .i64 row, .slice A1 ops.length c1, .slice A2 1 c2] 25) rfl (by kernel_rfl) (by kernel_rfl) (fun k1 w1 l1 x1 b1 => ?_))
  have zw1 := x1.size
  have tb1 := b1.lt
  refine Gx.ops_end ?_
  refine wp_seq ?_
  refine wp_seq ?_
  refine Gx.noPanic ?_
  refine Gx.draw (S := fun w' => Gx.Has w' k1 (.cells #[.int .i64 4, .int .i64 n, .int .i64 row, .slice A1 ops.length c1, .slice A2 1 c2] 25)) (by kernel_rfl) (fun w2 x2 => ?_)
  have zw2 := x2.size
  refine Gx.any_take 0 (.pointer (some ⟨k1, 4, none⟩)) rfl (by kernel_rfl) (by kernel_rfl) (by kernel_rfl) (fun _ _ _ h => h) (b1.ext x2) (by kernel_rfl) (fun _ _ => (by kernel_rfl)) ?_
  refine Gx.any_take 1 (.slice A2 1 c2) rfl (by kernel_rfl) (by kernel_rfl) (by kernel_rfl) (fun _ _ _ h => h) (b1.ext x2) (by kernel_rfl) (fun _ hs => Gx.run_load rfl 4 (.slice A2 1 c2) (by kernel_rfl) hs (by kernel_rfl)) ?_
  refine Gx.any_take 2 (.int .i64 1) rfl (by kernel_rfl) (by kernel_rfl) (by kernel_rfl) (fun _ _ _ h => h) (b1.ext x2) (by kernel_rfl) (fun _ _ => (by kernel_rfl)) ?_
  refine Gx.any_take 3 (.pointer (some ⟨k1, 0, none⟩)) rfl (by kernel_rfl) (by kernel_rfl) (by kernel_rfl) (fun _ _ _ h => h) (b1.ext x2) (by kernel_rfl) (fun _ _ => (by kernel_rfl)) ?_
  refine Gx.any_take 4 (.int .i64 4) rfl (by kernel_rfl) (by kernel_rfl) (by kernel_rfl) (fun _ _ _ h => h) (b1.ext x2) (by kernel_rfl) (fun _ hs => Gx.run_load rfl 0 (.int .i64 4) (by kernel_rfl) hs (by kernel_rfl)) ?_
  refine Gx.any_one 5 (by kernel_rfl) (Gx.op_call rfl (by kernel_rfl) (by kernel_rfl) (fun R hR => arity_c (4 : Int) _ R  (hR _ _ ⟨(b1.ext x2), ?_⟩)))
  refine Gx.any_take 6 (.bool false) rfl (by kernel_rfl) (by kernel_rfl) (by kernel_rfl) (fun _ _ _ h => h) (b1.ext x2) (by kernel_rfl) (fun _ _ => (by kernel_rfl)) ?_
  refine Gx.any_done (by kernel_rfl) ?_
  refine Gx.then_normal ?_
  refine Gx.cond_f (by kernel_rfl) ?_
  refine wp_skip ?_
  refine Gx.then_normal ?_
  refine Gx.seq_reg [0, 1, 2, 3, 4, 5] (by kernel_rfl) ?_
  refine Gx.cons (Gx.op_makeMap rfl (by kernel_rfl) rfl (fun k2 w3 l2 x3 b2 => ?_))
  have zw3 := x3.size
  have tb2 := b2.lt
  refine Gx.cons (Gx.op_insert rfl (by kernel_rfl) rfl 3 3 (by kernel_rfl) (by kernel_rfl) (by kernel_rfl) (6 : Int) (by kernel_rfl) (.int .i64 0) (by kernel_rfl) b2 rfl #[{ key := .int .i64 6, val := .int .i64 0, born := 0 }] rfl 1 rfl (fun w4 u1 b3 => ?_))
  have zw4 := u1.size
  refine Gx.cons (Gx.op_insert rfl (by kernel_rfl) rfl 3 3 (by kernel_rfl) (by kernel_rfl) (by kernel_rfl) (5 : Int) (by kernel_rfl) (.int .i64 1) (by kernel_rfl) b3 rfl #[{ key := .int .i64 6, val := .int .i64 0, born := 0 }, { key := .int .i64 5, val := .int .i64 1, born := 1 }] rfl 2 rfl (fun w5 u2 b4 => ?_))
  have zw5 := u2.size
  refine Gx.cons (Gx.op_insert rfl (by kernel_rfl) rfl 3 3 (by kernel_rfl) (by kernel_rfl) (by kernel_rfl) (4 : Int) (by kernel_rfl) (.int .i64 2) (by kernel_rfl) b4 rfl #[{ key := .int .i64 6, val := .int .i64 0, born := 0 }, { key := .int .i64 5, val := .int .i64 1, born := 1 }, { key := .int .i64 4, val := .int .i64 2, born := 2 }] rfl 3 rfl (fun w6 u3 b5 => ?_))
  have zw6 := u3.size
  refine Gx.pure [4, 5] [] [(6, .map (some k2)), (18, .map (some k2))] rfl (by kernel_rfl) ?_
  refine Gx.ops_end ?_
  refine wp_seq ?_
  refine Gx.seq_reg [0, 1, 2, 3, 4, 5, 6, 7, 8] (by kernel_rfl) ?_
  refine Gx.pure [0, 1] [2, 3, 4, 5, 6, 7, 8] [(21, .pointer (some ⟨k1, 0, none⟩)), (20, .map (some k2))] rfl (by kernel_rfl) ?_
  refine Gx.cons (Gx.op_load rfl (by kernel_rfl) rfl 0 (.int .i64 4) (by kernel_rfl) (((((b1.ext x2).ext x3).upd1 u1 (by omega)).upd1 u2 (by omega)).upd1 u3 (by omega)) (by kernel_rfl) ?_)
  refine Gx.cons (Gx.op_lookup rfl (by kernel_rfl) rfl 3 3 (by kernel_rfl) (by kernel_rfl) (by kernel_rfl) (by kernel_rfl) (4 : Int) (by kernel_rfl) b5 (some (2, .int .i64 2)) rfl (.int .i64 0) (by kernel_rfl) (.int .i64 2) true rfl ?_)
  refine Gx.pure [4, 5, 6, 7, 8] [] [(8, .bool true), (7, .int .i64 2), (25, .bool true), (24, .int .i64 2), (19, .tuple #[.int .i64 2, .bool true])] rfl (by kernel_rfl) ?_
  refine Gx.ops_end ?_
  refine Gx.seq_run [(31, .bool (decide ((2 : Int) < least))), (30, .bool (decide ((2 : Int) < least))), (29, .int .i64 least), (28, .int .i64 2), (27, .bool true), (26, .bool true)] (by kernel_rfl) ?_
  refine Gx.cond (decide ((2 : Int) < least)) (by kernel_rfl) (fun h_c31 => ?_) (fun h_c31 => ?_)
  · skip
    have p_c31 := h_c31; try simp [-List.getD_eq_getElem?_getD] at p_c31
    have hin := in_yes (n := n) (row := row) (ops := ops) (args := args) (show lvl 4 < least by show (2 : Int) < least; simpa using h_c31)
    have hinz := congrArg ByteArray.size hin; simp only [ByteArray.size_append] at hinz; have hO : bO.size = 1 := rfl; have hCz : bC.size = 1 := rfl
    refine Gx.seq_reg [0, 1] (by kernel_rfl) ?_
    refine Gx.pure [0] [1] [(32, .pointer (some ⟨b, 0, none⟩))] rfl (by kernel_rfl) ?_
    refine Gx.cons (Gx.op_call rfl (by kernel_rfl) (by kernel_rfl) (fun R hR => WriteByte_c B b s 40 _ R ((((((hbd.ext x1).ext x2).ext x3).updO u1 b2 (fun _ _ q => by cases q) (by omega)).updO u2 b3 (fun _ _ q => by cases q) (by omega)).updO u3 b4 (fun _ _ q => by cases q) (by omega)) (by omega) (by omega) (by omega) (fun w7 s1 hs1 x4 hbd1 => hR _ _ ?_)))
    have zw7 := x4.size
    have zhs1 := congrArg ByteArray.size hs1; simp only [ByteArray.size_append, litz1] at zhs1
    refine Gx.ops_end ?_
    refine Gx.reg [0, 1] (by kernel_rfl) ?_
    refine Gx.pure [0] [1] [(34, .pointer (some ⟨b, 0, none⟩))] rfl (by kernel_rfl) ?_
    refine Gx.cons (Gx.op_defer { target := .fn (.func 14) #[], args := #[.pointer (some ⟨b, 0, none⟩), .int .u8 41] } rfl (by kernel_rfl) (by kernel_rfl) ?_)
    refine Gx.ops_nil ?_
    refine Gx.then_normal ?_
    refine Gx.seq_reg [0, 1] (by kernel_rfl) ?_
    refine Gx.pure [0] [1] [(35, .pointer (some ⟨k1, 0, none⟩))] rfl (by kernel_rfl) ?_
    refine Gx.cons (Gx.op_load rfl (by kernel_rfl) rfl 0 (.int .i64 4) (by kernel_rfl) (x4.has (((((b1.ext x2).ext x3).upd1 u1 (by omega)).upd1 u2 (by omega)).upd1 u3 (by omega)) (by omega) (by decide)) (by kernel_rfl) ?_)
    refine Gx.ops_end ?_
    refine wp_block ?_
    refine Gx.seq_run [(37, .bool false), (38, .bool false)] (by kernel_rfl) ?_
    refine Gx.cond_f (by kernel_rfl) ?_
    refine Gx.seq_run [(60, .bool false), (61, .bool false)] (by kernel_rfl) ?_
    refine Gx.cond_f (by kernel_rfl) ?_
    refine Gx.seq_run [(64, .bool false), (65, .bool false)] (by kernel_rfl) ?_
    refine Gx.cond_f (by kernel_rfl) ?_
    refine Gx.seq_run [(68, .bool false), (69, .bool false)] (by kernel_rfl) ?_
    refine Gx.cond_f (by kernel_rfl) ?_
    refine Gx.seq_run [(72, .bool true), (73, .bool true)] (by kernel_rfl) ?_
    refine Gx.cond_t (by kernel_rfl) ?_
    refine Gx.seq_reg [0, 1, 2, 3, 4, 5] (by kernel_rfl) ?_
    refine Gx.pure [0, 1] [2, 3, 4, 5] [(75, .pointer (some ⟨k1, 4, none⟩)), (74, .pointer (some ⟨b, 0, none⟩))] rfl (by kernel_rfl) ?_
    refine Gx.cons (Gx.op_load rfl (by kernel_rfl) rfl 4 (.slice A2 1 c2) (by kernel_rfl) (x4.has (((((b1.ext x2).ext x3).upd1 u1 (by omega)).upd1 u2 (by omega)).upd1 u3 (by omega)) (by omega) (by decide)) (by kernel_rfl) ?_)
    obtain ⟨a1, ha1, hc1⟩ := ha 0 (by omega)
    refine Gx.cons (Gx.op_indexAddrO rfl (by kernel_rfl) rfl 25 5 (by kernel_rfl) (by kernel_rfl) a1 ha1 1 c2 (by kernel_rfl) .i64 0 (by kernel_rfl) (by omega) ?_)
    refine Gx.cons (Gx.op_loadAgg rfl (by kernel_rfl) rfl (by kernel_rfl) 5 (Gx.cells_ext hc1 (by decide) (Gx.Ext.wx hE ((((((((Gx.Wx.refl (e := 5) (wb := b) w hBw).ext x1).ext x2).ext x3).upd_new u1 (by omega)).upd_new u2 (by omega)).upd_new u3 (by omega)).trans x4) hw0B)) (by kernel_rfl) ?_)
    refine Gx.cons (Gx.op_call rfl (by kernel_rfl) (by kernel_rfl) (fun R hR => ihS 0 (by omega) B b s1 (2 : Int) _ R hbd1 (by omega) (Gx.Ext.wx hE ((((((((Gx.Wx.refl (e := 5) (wb := b) w hBw).ext x1).ext x2).ext x3).upd_new u1 (by omega)).upd_new u2 (by omega)).upd_new u3 (by omega)).trans x4) hw0B) hw0B (by decide) (by omega) (fun w8 s2 hs2 x5 hbd2 => hR _ _ ?_)))
    have zw8 := x5.size
    have zhs2 := congrArg ByteArray.size hs2; rw [ByteArray.size_append] at zhs2
    refine Gx.ops_end ?_
    refine Gx.reg [0, 1] (by kernel_rfl) ?_
    refine Gx.pure [0] [1] [(80, .pointer (some ⟨b, 0, none⟩))] rfl (by kernel_rfl) ?_
    refine Gx.cons (Gx.op_call rfl (by kernel_rfl) (by kernel_rfl) (fun R hR => WriteString_c B b s2 (⟨#[32, 108, 105, 115, 116]⟩ : ByteArray) _ R hbd2 (by omega) (by simp only [litz5]; omega) (fun w9 s3 hs3 x6 hbd3 => hR _ _ ?_)))
    have zw9 := x6.size
    have zhs3 := congrArg ByteArray.size hs3; simp only [ByteArray.size_append, litz5] at zhs3
    refine Gx.ops_nil ?_
    refine Gx.block_normal ?_
    refine Gx.retD1_n rfl (by kernel_rfl) ?_
    exact WriteByte_d B b s3 41 _ (fun e w' => (∃ v, e = .returned v) ∧ K (.returned (.tuple #[])) w') hbd3 (by omega) (by omega) (by omega) (fun w' s' hs4 x hb => ⟨⟨_, rfl⟩, hK _ _ (by rw [hs4, hs3, hs2, hs1, hin, show_4 hlen]; all_goals (try simp only [app_assoc]); all_goals (try rfl)) (Gx.Wx.trans ((((((((((Gx.Wx.refl (e := 5) (wb := b) w hBw).ext x1).ext x2).ext x3).upd_new u1 (by omega)).upd_new u2 (by omega)).upd_new u3 (by omega)).trans x4).trans x5).trans x6) x) hb⟩)
  have p_c31 := h_c31; try simp [-List.getD_eq_getElem?_getD] at p_c31
  have hin := in_no (n := n) (row := row) (ops := ops) (args := args) (show ¬ lvl 4 < least by show ¬ (2 : Int) < least; simpa using h_c31)
  have hinz := congrArg ByteArray.size hin
  refine wp_skip ?_
  refine Gx.then_normal ?_
  refine Gx.seq_reg [0, 1] (by kernel_rfl) ?_
  refine Gx.pure [0] [1] [(35, .pointer (some ⟨k1, 0, none⟩))] rfl (by kernel_rfl) ?_
  refine Gx.cons (Gx.op_load rfl (by kernel_rfl) rfl 0 (.int .i64 4) (by kernel_rfl) (((((b1.ext x2).ext x3).upd1 u1 (by omega)).upd1 u2 (by omega)).upd1 u3 (by omega)) (by kernel_rfl) ?_)
  refine Gx.ops_end ?_
  refine wp_block ?_
  refine Gx.seq_run [(37, .bool false), (38, .bool false)] (by kernel_rfl) ?_
  refine Gx.cond_f (by kernel_rfl) ?_
  refine Gx.seq_run [(60, .bool false), (61, .bool false)] (by kernel_rfl) ?_
  refine Gx.cond_f (by kernel_rfl) ?_
  refine Gx.seq_run [(64, .bool false), (65, .bool false)] (by kernel_rfl) ?_
  refine Gx.cond_f (by kernel_rfl) ?_
  refine Gx.seq_run [(68, .bool false), (69, .bool false)] (by kernel_rfl) ?_
  refine Gx.cond_f (by kernel_rfl) ?_
  refine Gx.seq_run [(72, .bool true), (73, .bool true)] (by kernel_rfl) ?_
  refine Gx.cond_t (by kernel_rfl) ?_
  refine Gx.seq_reg [0, 1, 2, 3, 4, 5] (by kernel_rfl) ?_
  refine Gx.pure [0, 1] [2, 3, 4, 5] [(75, .pointer (some ⟨k1, 4, none⟩)), (74, .pointer (some ⟨b, 0, none⟩))] rfl (by kernel_rfl) ?_
  refine Gx.cons (Gx.op_load rfl (by kernel_rfl) rfl 4 (.slice A2 1 c2) (by kernel_rfl) (((((b1.ext x2).ext x3).upd1 u1 (by omega)).upd1 u2 (by omega)).upd1 u3 (by omega)) (by kernel_rfl) ?_)
  obtain ⟨a2, ha2, hc2⟩ := ha 0 (by omega)
  refine Gx.cons (Gx.op_indexAddrO rfl (by kernel_rfl) rfl 25 5 (by kernel_rfl) (by kernel_rfl) a2 ha2 1 c2 (by kernel_rfl) .i64 0 (by kernel_rfl) (by omega) ?_)
  refine Gx.cons (Gx.op_loadAgg rfl (by kernel_rfl) rfl (by kernel_rfl) 5 (Gx.cells_ext hc2 (by decide) (Gx.Ext.wx hE (((((((Gx.Wx.refl (e := 5) (wb := b) w hBw).ext x1).ext x2).ext x3).upd_new u1 (by omega)).upd_new u2 (by omega)).upd_new u3 (by omega)) hw0B)) (by kernel_rfl) ?_)
  refine Gx.cons (Gx.op_call rfl (by kernel_rfl) (by kernel_rfl) (fun R hR => ihS 0 (by omega) B b s (2 : Int) _ R ((((((hbd.ext x1).ext x2).ext x3).updO u1 b2 (fun _ _ q => by cases q) (by omega)).updO u2 b3 (fun _ _ q => by cases q) (by omega)).updO u3 b4 (fun _ _ q => by cases q) (by omega)) (by omega) (Gx.Ext.wx hE (((((((Gx.Wx.refl (e := 5) (wb := b) w hBw).ext x1).ext x2).ext x3).upd_new u1 (by omega)).upd_new u2 (by omega)).upd_new u3 (by omega)) hw0B) hw0B (by decide) (by omega) (fun w10 s4 hs5 x7 hbd4 => hR _ _ ?_)))
  have zw10 := x7.size
  have zhs5 := congrArg ByteArray.size hs5; rw [ByteArray.size_append] at zhs5
  refine Gx.ops_end ?_
  refine Gx.reg [0, 1] (by kernel_rfl) ?_
  refine Gx.pure [0] [1] [(80, .pointer (some ⟨b, 0, none⟩))] rfl (by kernel_rfl) ?_
  refine Gx.cons (Gx.op_call rfl (by kernel_rfl) (by kernel_rfl) (fun R hR => WriteString_c B b s4 (⟨#[32, 108, 105, 115, 116]⟩ : ByteArray) _ R hbd4 (by omega) (by simp only [litz5]; omega) (fun w11 s5 hs6 x8 hbd5 => hR _ _ ?_)))
  have zw11 := x8.size
  have zhs6 := congrArg ByteArray.size hs6; simp only [ByteArray.size_append, litz5] at zhs6
  refine Gx.ops_nil ?_
  refine Gx.block_normal ?_
  refine Gx.retD_n (Gx.res0 rfl) ?_
  exact hK _ s5 (by rw [hs6, hs5, hin, show_4 hlen]; all_goals (try simp only [app_assoc]); all_goals (try rfl)) (((((((((Gx.Wx.refl (e := 5) (wb := b) w hBw).ext x1).ext x2).ext x3).upd_new u1 (by omega)).upd_new u2 (by omega)).upd_new u3 (by omega)).trans x7).trans x8) hbd5

set_option maxHeartbeats 1000000 in
set_option maxRecDepth 10000 in
theorem pshow_5 (w0 : World) (B b : Nat) (s : ByteArray) (n row : Int) (ops : List ByteArray) (args : List TyP) (A1 A2 : Option Addr) (c1 c2 : Nat) (cs : Nat → List Value) (least : Int) (w : World) (K : Ending → World → Prop) (hbd : Bd w B b s) (hBw : B ≤ w.heap.size) (hB : B ≤ b) (hE : Gx.Ext w0 w) (hw0B : w0.heap.size ≤ B) (hz2 : s.size + (inP least (.mk 5 n row ops args)).size ≤ 1099511627776) (hlen : args.length = 2) (hn : I64 n) (hr : I64 row) (hcap : ops.length ≤ c1) (hl : ops.length ≤ 1048576) (hz : ∀ i, (ops.getD i e0).size ≤ 1048576) (ho : Gx.Rd w0 A1 ops.length 1 (fun i => [.string (ops.getD i e0)])) (ha : Gx.Rd w0 A2 2 5 cs) (htab : Lib.TabBelow Tryd.prog w0.heap.size w0 "internal/strconv.uint64pow10" .u64 Lib.pow10Tab) (hle : least ≤ 2) (ihS : ∀ i, i < args.length → ∀ (B b : Nat) (s : ByteArray) (least : Int) (w : World) (K : Ending → World → Prop), Bd w B b s → B ≤ w.heap.size → Gx.Ext w0 w → w0.heap.size ≤ B → least ≤ 2 → (s.size + (inP least (args.getD i ty0)).size ≤ 1099511627776) → (∀ w' s', s' = s ++ inP least (args.getD i ty0) → Gx.Wx 5 B b w w' → Bd w' B b s' → K (.returned (.tuple #[])) w') → Calls Tryd.prog 8 #[.pointer (some ⟨b, 0, none⟩), .agg (cs i).toArray, .int .i64 least] w K) (hK : ∀ w' s', s' = s ++ inP least (.mk 5 n row ops args) → Gx.Wx 5 B b w w' → Bd w' B b s' → K (.returned (.tuple #[])) w') :
    Calls Tryd.prog 8 #[.pointer (some ⟨b, 0, none⟩), .agg #[.int .i64 5, .int .i64 n, .int .i64 row, .slice A1 ops.length c1, .slice A2 2 c2], .int .i64 least] w K := by
  refine Gx.enterDef 137 Tryd.func8 rfl rfl (Nat.le_of_ble_eq_true rfl) ?_
  have tbb : b < w.heap.size := by obtain ⟨_, _, hq, _⟩ := hbd; exact hq.lt
  have hq := congrArg ByteArray.size (show_5 (n := n) (row := row) (ops := ops) hlen); simp only [ByteArray.size_append, litz3] at hq
  have hps := par_size least 5 (showP (.mk 5 n row ops args))
  refine Gx.seq_reg [0] (by kernel_rfl) ?_
  refine Gx.cons (Gx.op_new (.cells #[.int .i64 5, .int .i64 n, .int .i64 row, .slice A1 ops.length c1, .slice A2 2 c2] 25) rfl (by kernel_rfl) (by kernel_rfl) (fun k1 w1 l1 x1 b1 => ?_))
  have zw1 := x1.size
  have tb1 := b1.lt
  refine Gx.ops_end ?_
  refine wp_seq ?_
  refine wp_seq ?_
  refine Gx.noPanic ?_
  refine Gx.draw (S := fun w' => Gx.Has w' k1 (.cells #[.int .i64 5, .int .i64 n, .int .i64 row, .slice A1 ops.length c1, .slice A2 2 c2] 25)) (by kernel_rfl) (fun w2 x2 => ?_)
  have zw2 := x2.size
  refine Gx.any_take 0 (.pointer (some ⟨k1, 4, none⟩)) rfl (by kernel_rfl) (by kernel_rfl) (by kernel_rfl) (fun _ _ _ h => h) (b1.ext x2) (by kernel_rfl) (fun _ _ => (by kernel_rfl)) ?_
  refine Gx.any_take 1 (.slice A2 2 c2) rfl (by kernel_rfl) (by kernel_rfl) (by kernel_rfl) (fun _ _ _ h => h) (b1.ext x2) (by kernel_rfl) (fun _ hs => Gx.run_load rfl 4 (.slice A2 2 c2) (by kernel_rfl) hs (by kernel_rfl)) ?_
  refine Gx.any_take 2 (.int .i64 2) rfl (by kernel_rfl) (by kernel_rfl) (by kernel_rfl) (fun _ _ _ h => h) (b1.ext x2) (by kernel_rfl) (fun _ _ => (by kernel_rfl)) ?_
  refine Gx.any_take 3 (.pointer (some ⟨k1, 0, none⟩)) rfl (by kernel_rfl) (by kernel_rfl) (by kernel_rfl) (fun _ _ _ h => h) (b1.ext x2) (by kernel_rfl) (fun _ _ => (by kernel_rfl)) ?_
  refine Gx.any_take 4 (.int .i64 5) rfl (by kernel_rfl) (by kernel_rfl) (by kernel_rfl) (fun _ _ _ h => h) (b1.ext x2) (by kernel_rfl) (fun _ hs => Gx.run_load rfl 0 (.int .i64 5) (by kernel_rfl) hs (by kernel_rfl)) ?_
  refine Gx.any_one 5 (by kernel_rfl) (Gx.op_call rfl (by kernel_rfl) (by kernel_rfl) (fun R hR => arity_c (5 : Int) _ R  (hR _ _ ⟨(b1.ext x2), ?_⟩)))
  refine Gx.any_take 6 (.bool false) rfl (by kernel_rfl) (by kernel_rfl) (by kernel_rfl) (fun _ _ _ h => h) (b1.ext x2) (by kernel_rfl) (fun _ _ => (by kernel_rfl)) ?_
  refine Gx.any_done (by kernel_rfl) ?_
  refine Gx.then_normal ?_
  refine Gx.cond_f (by kernel_rfl) ?_
  refine wp_skip ?_
  refine Gx.then_normal ?_
  refine Gx.seq_reg [0, 1, 2, 3, 4, 5] (by kernel_rfl) ?_
  refine Gx.cons (Gx.op_makeMap rfl (by kernel_rfl) rfl (fun k2 w3 l2 x3 b2 => ?_))
  have zw3 := x3.size
  have tb2 := b2.lt
  refine Gx.cons (Gx.op_insert rfl (by kernel_rfl) rfl 3 3 (by kernel_rfl) (by kernel_rfl) (by kernel_rfl) (6 : Int) (by kernel_rfl) (.int .i64 0) (by kernel_rfl) b2 rfl #[{ key := .int .i64 6, val := .int .i64 0, born := 0 }] rfl 1 rfl (fun w4 u1 b3 => ?_))
  have zw4 := u1.size
  refine Gx.cons (Gx.op_insert rfl (by kernel_rfl) rfl 3 3 (by kernel_rfl) (by kernel_rfl) (by kernel_rfl) (5 : Int) (by kernel_rfl) (.int .i64 1) (by kernel_rfl) b3 rfl #[{ key := .int .i64 6, val := .int .i64 0, born := 0 }, { key := .int .i64 5, val := .int .i64 1, born := 1 }] rfl 2 rfl (fun w5 u2 b4 => ?_))
  have zw5 := u2.size
  refine Gx.cons (Gx.op_insert rfl (by kernel_rfl) rfl 3 3 (by kernel_rfl) (by kernel_rfl) (by kernel_rfl) (4 : Int) (by kernel_rfl) (.int .i64 2) (by kernel_rfl) b4 rfl #[{ key := .int .i64 6, val := .int .i64 0, born := 0 }, { key := .int .i64 5, val := .int .i64 1, born := 1 }, { key := .int .i64 4, val := .int .i64 2, born := 2 }] rfl 3 rfl (fun w6 u3 b5 => ?_))
  have zw6 := u3.size
  refine Gx.pure [4, 5] [] [(6, .map (some k2)), (18, .map (some k2))] rfl (by kernel_rfl) ?_
  refine Gx.ops_end ?_
  refine wp_seq ?_
  refine Gx.seq_reg [0, 1, 2, 3, 4, 5, 6, 7, 8] (by kernel_rfl) ?_
  refine Gx.pure [0, 1] [2, 3, 4, 5, 6, 7, 8] [(21, .pointer (some ⟨k1, 0, none⟩)), (20, .map (some k2))] rfl (by kernel_rfl) ?_
  refine Gx.cons (Gx.op_load rfl (by kernel_rfl) rfl 0 (.int .i64 5) (by kernel_rfl) (((((b1.ext x2).ext x3).upd1 u1 (by omega)).upd1 u2 (by omega)).upd1 u3 (by omega)) (by kernel_rfl) ?_)
  refine Gx.cons (Gx.op_lookup rfl (by kernel_rfl) rfl 3 3 (by kernel_rfl) (by kernel_rfl) (by kernel_rfl) (by kernel_rfl) (5 : Int) (by kernel_rfl) b5 (some (1, .int .i64 1)) rfl (.int .i64 0) (by kernel_rfl) (.int .i64 1) true rfl ?_)
  refine Gx.pure [4, 5, 6, 7, 8] [] [(8, .bool true), (7, .int .i64 1), (25, .bool true), (24, .int .i64 1), (19, .tuple #[.int .i64 1, .bool true])] rfl (by kernel_rfl) ?_
  refine Gx.ops_end ?_
  refine Gx.seq_run [(31, .bool (decide ((1 : Int) < least))), (30, .bool (decide ((1 : Int) < least))), (29, .int .i64 least), (28, .int .i64 1), (27, .bool true), (26, .bool true)] (by kernel_rfl) ?_
  refine Gx.cond (decide ((1 : Int) < least)) (by kernel_rfl) (fun h_c31 => ?_) (fun h_c31 => ?_)
  · skip
    have p_c31 := h_c31; try simp [-List.getD_eq_getElem?_getD] at p_c31
    have hin := in_yes (n := n) (row := row) (ops := ops) (args := args) (show lvl 5 < least by show (1 : Int) < least; simpa using h_c31)
    have hinz := congrArg ByteArray.size hin; simp only [ByteArray.size_append] at hinz; have hO : bO.size = 1 := rfl; have hCz : bC.size = 1 := rfl
    refine Gx.seq_reg [0, 1] (by kernel_rfl) ?_
    refine Gx.pure [0] [1] [(32, .pointer (some ⟨b, 0, none⟩))] rfl (by kernel_rfl) ?_
    refine Gx.cons (Gx.op_call rfl (by kernel_rfl) (by kernel_rfl) (fun R hR => WriteByte_c B b s 40 _ R ((((((hbd.ext x1).ext x2).ext x3).updO u1 b2 (fun _ _ q => by cases q) (by omega)).updO u2 b3 (fun _ _ q => by cases q) (by omega)).updO u3 b4 (fun _ _ q => by cases q) (by omega)) (by omega) (by omega) (by omega) (fun w7 s1 hs1 x4 hbd1 => hR _ _ ?_)))
    have zw7 := x4.size
    have zhs1 := congrArg ByteArray.size hs1; simp only [ByteArray.size_append, litz1] at zhs1
    refine Gx.ops_end ?_
    refine Gx.reg [0, 1] (by kernel_rfl) ?_
    refine Gx.pure [0] [1] [(34, .pointer (some ⟨b, 0, none⟩))] rfl (by kernel_rfl) ?_
    refine Gx.cons (Gx.op_defer { target := .fn (.func 14) #[], args := #[.pointer (some ⟨b, 0, none⟩), .int .u8 41] } rfl (by kernel_rfl) (by kernel_rfl) ?_)
    refine Gx.ops_nil ?_
    refine Gx.then_normal ?_
    refine Gx.seq_reg [0, 1] (by kernel_rfl) ?_
    refine Gx.pure [0] [1] [(35, .pointer (some ⟨k1, 0, none⟩))] rfl (by kernel_rfl) ?_
    refine Gx.cons (Gx.op_load rfl (by kernel_rfl) rfl 0 (.int .i64 5) (by kernel_rfl) (x4.has (((((b1.ext x2).ext x3).upd1 u1 (by omega)).upd1 u2 (by omega)).upd1 u3 (by omega)) (by omega) (by decide)) (by kernel_rfl) ?_)
    refine Gx.ops_end ?_
    refine wp_block ?_
    refine Gx.seq_run [(37, .bool false), (38, .bool false)] (by kernel_rfl) ?_
    refine Gx.cond_f (by kernel_rfl) ?_
    refine Gx.seq_run [(60, .bool false), (61, .bool false)] (by kernel_rfl) ?_
    refine Gx.cond_f (by kernel_rfl) ?_
    refine Gx.seq_run [(64, .bool false), (65, .bool false)] (by kernel_rfl) ?_
    refine Gx.cond_f (by kernel_rfl) ?_
    refine Gx.seq_run [(68, .bool false), (69, .bool false)] (by kernel_rfl) ?_
    refine Gx.cond_f (by kernel_rfl) ?_
    refine Gx.seq_run [(72, .bool false), (73, .bool false)] (by kernel_rfl) ?_
    refine Gx.cond_f (by kernel_rfl) ?_
    refine Gx.seq_run [(82, .bool true), (83, .bool true)] (by kernel_rfl) ?_
    refine Gx.cond_t (by kernel_rfl) ?_
    refine Gx.seq_reg [0, 1, 2, 3, 4, 5] (by kernel_rfl) ?_
    refine Gx.pure [0, 1] [2, 3, 4, 5] [(85, .pointer (some ⟨k1, 4, none⟩)), (84, .pointer (some ⟨b, 0, none⟩))] rfl (by kernel_rfl) ?_
    refine Gx.cons (Gx.op_load rfl (by kernel_rfl) rfl 4 (.slice A2 2 c2) (by kernel_rfl) (x4.has (((((b1.ext x2).ext x3).upd1 u1 (by omega)).upd1 u2 (by omega)).upd1 u3 (by omega)) (by omega) (by decide)) (by kernel_rfl) ?_)
    obtain ⟨a1, ha1, hc1⟩ := ha 0 (by omega)
    refine Gx.cons (Gx.op_indexAddrO rfl (by kernel_rfl) rfl 25 5 (by kernel_rfl) (by kernel_rfl) a1 ha1 2 c2 (by kernel_rfl) .i64 0 (by kernel_rfl) (by omega) ?_)
    refine Gx.cons (Gx.op_loadAgg rfl (by kernel_rfl) rfl (by kernel_rfl) 5 (Gx.cells_ext hc1 (by decide) (Gx.Ext.wx hE ((((((((Gx.Wx.refl (e := 5) (wb := b) w hBw).ext x1).ext x2).ext x3).upd_new u1 (by omega)).upd_new u2 (by omega)).upd_new u3 (by omega)).trans x4) hw0B)) (by kernel_rfl) ?_)
    refine Gx.cons (Gx.op_call rfl (by kernel_rfl) (by kernel_rfl) (fun R hR => ihS 0 (by omega) B b s1 (2 : Int) _ R hbd1 (by omega) (Gx.Ext.wx hE ((((((((Gx.Wx.refl (e := 5) (wb := b) w hBw).ext x1).ext x2).ext x3).upd_new u1 (by omega)).upd_new u2 (by omega)).upd_new u3 (by omega)).trans x4) hw0B) hw0B (by decide) (by omega) (fun w8 s2 hs2 x5 hbd2 => hR _ _ ?_)))
    have zw8 := x5.size
    have zhs2 := congrArg ByteArray.size hs2; rw [ByteArray.size_append] at zhs2
    refine Gx.ops_end ?_
    refine Gx.seq_reg [0, 1] (by kernel_rfl) ?_
    refine Gx.pure [0] [1] [(90, .pointer (some ⟨b, 0, none⟩))] rfl (by kernel_rfl) ?_
    refine Gx.cons (Gx.op_call rfl (by kernel_rfl) (by kernel_rfl) (fun R hR => WriteString_c B b s2 (⟨#[32, 42, 32]⟩ : ByteArray) _ R hbd2 (by omega) (by simp only [litz3]; omega) (fun w9 s3 hs3 x6 hbd3 => hR _ _ ?_)))
    have zw9 := x6.size
    have zhs3 := congrArg ByteArray.size hs3; simp only [ByteArray.size_append, litz3] at zhs3
    refine Gx.ops_end ?_
    refine Gx.reg [0, 1, 2, 3, 4, 5] (by kernel_rfl) ?_
    refine Gx.pure [0, 1] [2, 3, 4, 5] [(93, .pointer (some ⟨k1, 4, none⟩)), (92, .pointer (some ⟨b, 0, none⟩))] rfl (by kernel_rfl) ?_
    refine Gx.cons (Gx.op_load rfl (by kernel_rfl) rfl 4 (.slice A2 2 c2) (by kernel_rfl) (x6.has (x5.has (x4.has (((((b1.ext x2).ext x3).upd1 u1 (by omega)).upd1 u2 (by omega)).upd1 u3 (by omega)) (by omega) (by decide)) (by omega) (by decide)) (by omega) (by decide)) (by kernel_rfl) ?_)
    obtain ⟨a2, ha2, hc2⟩ := ha 1 (by omega)
    refine Gx.cons (Gx.op_indexAddrO rfl (by kernel_rfl) rfl 25 5 (by kernel_rfl) (by kernel_rfl) a2 ha2 2 c2 (by kernel_rfl) .i64 1 (by kernel_rfl) (by omega) ?_)
    refine Gx.cons (Gx.op_loadAgg rfl (by kernel_rfl) rfl (by kernel_rfl) 5 (Gx.cells_ext hc2 (by decide) (Gx.Ext.wx hE ((((((((((Gx.Wx.refl (e := 5) (wb := b) w hBw).ext x1).ext x2).ext x3).upd_new u1 (by omega)).upd_new u2 (by omega)).upd_new u3 (by omega)).trans x4).trans x5).trans x6) hw0B)) (by kernel_rfl) ?_)
    refine Gx.cons (Gx.op_call rfl (by kernel_rfl) (by kernel_rfl) (fun R hR => ihS 1 (by omega) B b s3 (1 : Int) _ R hbd3 (by omega) (Gx.Ext.wx hE ((((((((((Gx.Wx.refl (e := 5) (wb := b) w hBw).ext x1).ext x2).ext x3).upd_new u1 (by omega)).upd_new u2 (by omega)).upd_new u3 (by omega)).trans x4).trans x5).trans x6) hw0B) hw0B (by decide) (by omega) (fun w10 s4 hs4 x7 hbd4 => hR _ _ ?_)))
    have zw10 := x7.size
    have zhs4 := congrArg ByteArray.size hs4; rw [ByteArray.size_append] at zhs4
    refine Gx.ops_nil ?_
    refine Gx.block_normal ?_
    refine Gx.retD1_n rfl (by kernel_rfl) ?_
    exact WriteByte_d B b s4 41 _ (fun e w' => (∃ v, e = .returned v) ∧ K (.returned (.tuple #[])) w') hbd4 (by omega) (by omega) (by omega) (fun w' s' hs5 x hb => ⟨⟨_, rfl⟩, hK _ _ (by rw [hs5, hs4, hs3, hs2, hs1, hin, show_5 hlen]; all_goals (try simp only [app_assoc]); all_goals (try rfl)) (Gx.Wx.trans (((((((((((Gx.Wx.refl (e := 5) (wb := b) w hBw).ext x1).ext x2).ext x3).upd_new u1 (by omega)).upd_new u2 (by omega)).upd_new u3 (by omega)).trans x4).trans x5).trans x6).trans x7) x) hb⟩)
  have p_c31 := h_c31; try simp [-List.getD_eq_getElem?_getD] at p_c31
  have hin := in_no (n := n) (row := row) (ops := ops) (args := args) (show ¬ lvl 5 < least by show ¬ (1 : Int) < least; simpa using h_c31)
  have hinz := congrArg ByteArray.size hin
  refine wp_skip ?_
  refine Gx.then_normal ?_
  refine Gx.seq_reg [0, 1] (by kernel_rfl) ?_
  refine Gx.pure [0] [1] [(35, .pointer (some ⟨k1, 0, none⟩))] rfl (by kernel_rfl) ?_
  refine Gx.cons (Gx.op_load rfl (by kernel_rfl) rfl 0 (.int .i64 5) (by kernel_rfl) (((((b1.ext x2).ext x3).upd1 u1 (by omega)).upd1 u2 (by omega)).upd1 u3 (by omega)) (by kernel_rfl) ?_)
  refine Gx.ops_end ?_
  refine wp_block ?_
  refine Gx.seq_run [(37, .bool false), (38, .bool false)] (by kernel_rfl) ?_
  refine Gx.cond_f (by kernel_rfl) ?_
  refine Gx.seq_run [(60, .bool false), (61, .bool false)] (by kernel_rfl) ?_
  refine Gx.cond_f (by kernel_rfl) ?_
  refine Gx.seq_run [(64, .bool false), (65, .bool false)] (by kernel_rfl) ?_
  refine Gx.cond_f (by kernel_rfl) ?_
  refine Gx.seq_run [(68, .bool false), (69, .bool false)] (by kernel_rfl) ?_
  refine Gx.cond_f (by kernel_rfl) ?_
  refine Gx.seq_run [(72, .bool false), (73, .bool false)] (by kernel_rfl) ?_
  refine Gx.cond_f (by kernel_rfl) ?_
  refine Gx.seq_run [(82, .bool true), (83, .bool true)] (by kernel_rfl) ?_
  refine Gx.cond_t (by kernel_rfl) ?_
  refine Gx.seq_reg [0, 1, 2, 3, 4, 5] (by kernel_rfl) ?_
  refine Gx.pure [0, 1] [2, 3, 4, 5] [(85, .pointer (some ⟨k1, 4, none⟩)), (84, .pointer (some ⟨b, 0, none⟩))] rfl (by kernel_rfl) ?_
  refine Gx.cons (Gx.op_load rfl (by kernel_rfl) rfl 4 (.slice A2 2 c2) (by kernel_rfl) (((((b1.ext x2).ext x3).upd1 u1 (by omega)).upd1 u2 (by omega)).upd1 u3 (by omega)) (by kernel_rfl) ?_)
  obtain ⟨a3, ha3, hc3⟩ := ha 0 (by omega)
  refine Gx.cons (Gx.op_indexAddrO rfl (by kernel_rfl) rfl 25 5 (by kernel_rfl) (by kernel_rfl) a3 ha3 2 c2 (by kernel_rfl) .i64 0 (by kernel_rfl) (by omega) ?_)
  refine Gx.cons (Gx.op_loadAgg rfl (by kernel_rfl) rfl (by kernel_rfl) 5 (Gx.cells_ext hc3 (by decide) (Gx.Ext.wx hE (((((((Gx.Wx.refl (e := 5) (wb := b) w hBw).ext x1).ext x2).ext x3).upd_new u1 (by omega)).upd_new u2 (by omega)).upd_new u3 (by omega)) hw0B)) (by kernel_rfl) ?_)
  refine Gx.cons (Gx.op_call rfl (by kernel_rfl) (by kernel_rfl) (fun R hR => ihS 0 (by omega) B b s (2 : Int) _ R ((((((hbd.ext x1).ext x2).ext x3).updO u1 b2 (fun _ _ q => by cases q) (by omega)).updO u2 b3 (fun _ _ q => by cases q) (by omega)).updO u3 b4 (fun _ _ q => by cases q) (by omega)) (by omega) (Gx.Ext.wx hE (((((((Gx.Wx.refl (e := 5) (wb := b) w hBw).ext x1).ext x2).ext x3).upd_new u1 (by omega)).upd_new u2 (by omega)).upd_new u3 (by omega)) hw0B) hw0B (by decide) (by omega) (fun w11 s5 hs6 x8 hbd5 => hR _ _ ?_)))
  have zw11 := x8.size
  have zhs6 := congrArg ByteArray.size hs6; rw [ByteArray.size_append] at zhs6
  refine Gx.ops_end ?_
  refine Gx.seq_reg [0, 1] (by kernel_rfl) ?_
  refine Gx.pure [0] [1] [(90, .pointer (some ⟨b, 0, none⟩))] rfl (by kernel_rfl) ?_
  refine Gx.cons (Gx.op_call rfl (by kernel_rfl) (by kernel_rfl) (fun R hR => WriteString_c B b s5 (⟨#[32, 42, 32]⟩ : ByteArray) _ R hbd5 (by omega) (by simp only [litz3]; omega) (fun w12 s6 hs7 x9 hbd6 => hR _ _ ?_)))
  have zw12 := x9.size
  have zhs7 := congrArg ByteArray.size hs7; simp only [ByteArray.size_append, litz3] at zhs7
  refine Gx.ops_end ?_
  refine Gx.reg [0, 1, 2, 3, 4, 5] (by kernel_rfl) ?_
  refine Gx.pure [0, 1] [2, 3, 4, 5] [(93, .pointer (some ⟨k1, 4, none⟩)), (92, .pointer (some ⟨b, 0, none⟩))] rfl (by kernel_rfl) ?_
  refine Gx.cons (Gx.op_load rfl (by kernel_rfl) rfl 4 (.slice A2 2 c2) (by kernel_rfl) (x9.has (x8.has (((((b1.ext x2).ext x3).upd1 u1 (by omega)).upd1 u2 (by omega)).upd1 u3 (by omega)) (by omega) (by decide)) (by omega) (by decide)) (by kernel_rfl) ?_)
  obtain ⟨a4, ha4, hc4⟩ := ha 1 (by omega)
  refine Gx.cons (Gx.op_indexAddrO rfl (by kernel_rfl) rfl 25 5 (by kernel_rfl) (by kernel_rfl) a4 ha4 2 c2 (by kernel_rfl) .i64 1 (by kernel_rfl) (by omega) ?_)
  refine Gx.cons (Gx.op_loadAgg rfl (by kernel_rfl) rfl (by kernel_rfl) 5 (Gx.cells_ext hc4 (by decide) (Gx.Ext.wx hE (((((((((Gx.Wx.refl (e := 5) (wb := b) w hBw).ext x1).ext x2).ext x3).upd_new u1 (by omega)).upd_new u2 (by omega)).upd_new u3 (by omega)).trans x8).trans x9) hw0B)) (by kernel_rfl) ?_)
  refine Gx.cons (Gx.op_call rfl (by kernel_rfl) (by kernel_rfl) (fun R hR => ihS 1 (by omega) B b s6 (1 : Int) _ R hbd6 (by omega) (Gx.Ext.wx hE (((((((((Gx.Wx.refl (e := 5) (wb := b) w hBw).ext x1).ext x2).ext x3).upd_new u1 (by omega)).upd_new u2 (by omega)).upd_new u3 (by omega)).trans x8).trans x9) hw0B) hw0B (by decide) (by omega) (fun w13 s7 hs8 x10 hbd7 => hR _ _ ?_)))
  have zw13 := x10.size
  have zhs8 := congrArg ByteArray.size hs8; rw [ByteArray.size_append] at zhs8
  refine Gx.ops_nil ?_
  refine Gx.block_normal ?_
  refine Gx.retD_n (Gx.res0 rfl) ?_
  exact hK _ s7 (by rw [hs8, hs7, hs6, hin, show_5 hlen]; all_goals (try simp only [app_assoc]); all_goals (try rfl)) ((((((((((Gx.Wx.refl (e := 5) (wb := b) w hBw).ext x1).ext x2).ext x3).upd_new u1 (by omega)).upd_new u2 (by omega)).upd_new u3 (by omega)).trans x8).trans x9).trans x10) hbd7

set_option maxHeartbeats 1000000 in
set_option maxRecDepth 10000 in
theorem pshow_6 (w0 : World) (B b : Nat) (s : ByteArray) (n row : Int) (ops : List ByteArray) (args : List TyP) (A1 A2 : Option Addr) (c1 c2 : Nat) (cs : Nat → List Value) (least : Int) (w : World) (K : Ending → World → Prop) (hbd : Bd w B b s) (hBw : B ≤ w.heap.size) (hB : B ≤ b) (hE : Gx.Ext w0 w) (hw0B : w0.heap.size ≤ B) (hz2 : s.size + (inP least (.mk 6 n row ops args)).size ≤ 1099511627776) (hlen : args.length = 2) (hn : I64 n) (hr : I64 row) (hcap : ops.length ≤ c1) (hl : ops.length ≤ 1048576) (hz : ∀ i, (ops.getD i e0).size ≤ 1048576) (ho : Gx.Rd w0 A1 ops.length 1 (fun i => [.string (ops.getD i e0)])) (ha : Gx.Rd w0 A2 2 5 cs) (htab : Lib.TabBelow Tryd.prog w0.heap.size w0 "internal/strconv.uint64pow10" .u64 Lib.pow10Tab) (hle : least ≤ 2) (ihS : ∀ i, i < args.length → ∀ (B b : Nat) (s : ByteArray) (least : Int) (w : World) (K : Ending → World → Prop), Bd w B b s → B ≤ w.heap.size → Gx.Ext w0 w → w0.heap.size ≤ B → least ≤ 2 → (s.size + (inP least (args.getD i ty0)).size ≤ 1099511627776) → (∀ w' s', s' = s ++ inP least (args.getD i ty0) → Gx.Wx 5 B b w w' → Bd w' B b s' → K (.returned (.tuple #[])) w') → Calls Tryd.prog 8 #[.pointer (some ⟨b, 0, none⟩), .agg (cs i).toArray, .int .i64 least] w K) (hK : ∀ w' s', s' = s ++ inP least (.mk 6 n row ops args) → Gx.Wx 5 B b w w' → Bd w' B b s' → K (.returned (.tuple #[])) w') :
    Calls Tryd.prog 8 #[.pointer (some ⟨b, 0, none⟩), .agg #[.int .i64 6, .int .i64 n, .int .i64 row, .slice A1 ops.length c1, .slice A2 2 c2], .int .i64 least] w K := by
  refine Gx.enterDef 137 Tryd.func8 rfl rfl (Nat.le_of_ble_eq_true rfl) ?_
  have tbb : b < w.heap.size := by obtain ⟨_, _, hq, _⟩ := hbd; exact hq.lt
  have hq := congrArg ByteArray.size (show_6 (n := n) (row := row) (ops := ops) hlen); simp only [ByteArray.size_append] at hq
  have hps := par_size least 6 (showP (.mk 6 n row ops args))
  have harz := join_le hl hz
  have hdz : row ≤ 9223372036854775807 := by unfold I64 at hr; omega
  have hdd := dig_size (m := row.toNat) (by omega)
  refine Gx.seq_reg [0] (by kernel_rfl) ?_
  refine Gx.cons (Gx.op_new (.cells #[.int .i64 6, .int .i64 n, .int .i64 row, .slice A1 ops.length c1, .slice A2 2 c2] 25) rfl (by kernel_rfl) (by kernel_rfl) (fun k1 w1 l1 x1 b1 => ?_))
  have zw1 := x1.size
  have tb1 := b1.lt
  refine Gx.ops_end ?_
  refine wp_seq ?_
  refine wp_seq ?_
  refine Gx.noPanic ?_
  refine Gx.draw (S := fun w' => Gx.Has w' k1 (.cells #[.int .i64 6, .int .i64 n, .int .i64 row, .slice A1 ops.length c1, .slice A2 2 c2] 25)) (by kernel_rfl) (fun w2 x2 => ?_)
  have zw2 := x2.size
  refine Gx.any_take 0 (.pointer (some ⟨k1, 4, none⟩)) rfl (by kernel_rfl) (by kernel_rfl) (by kernel_rfl) (fun _ _ _ h => h) (b1.ext x2) (by kernel_rfl) (fun _ _ => (by kernel_rfl)) ?_
  refine Gx.any_take 1 (.slice A2 2 c2) rfl (by kernel_rfl) (by kernel_rfl) (by kernel_rfl) (fun _ _ _ h => h) (b1.ext x2) (by kernel_rfl) (fun _ hs => Gx.run_load rfl 4 (.slice A2 2 c2) (by kernel_rfl) hs (by kernel_rfl)) ?_
  refine Gx.any_take 2 (.int .i64 2) rfl (by kernel_rfl) (by kernel_rfl) (by kernel_rfl) (fun _ _ _ h => h) (b1.ext x2) (by kernel_rfl) (fun _ _ => (by kernel_rfl)) ?_
  refine Gx.any_take 3 (.pointer (some ⟨k1, 0, none⟩)) rfl (by kernel_rfl) (by kernel_rfl) (by kernel_rfl) (fun _ _ _ h => h) (b1.ext x2) (by kernel_rfl) (fun _ _ => (by kernel_rfl)) ?_
  refine Gx.any_take 4 (.int .i64 6) rfl (by kernel_rfl) (by kernel_rfl) (by kernel_rfl) (fun _ _ _ h => h) (b1.ext x2) (by kernel_rfl) (fun _ hs => Gx.run_load rfl 0 (.int .i64 6) (by kernel_rfl) hs (by kernel_rfl)) ?_
  refine Gx.any_one 5 (by kernel_rfl) (Gx.op_call rfl (by kernel_rfl) (by kernel_rfl) (fun R hR => arity_c (6 : Int) _ R  (hR _ _ ⟨(b1.ext x2), ?_⟩)))
  refine Gx.any_take 6 (.bool false) rfl (by kernel_rfl) (by kernel_rfl) (by kernel_rfl) (fun _ _ _ h => h) (b1.ext x2) (by kernel_rfl) (fun _ _ => (by kernel_rfl)) ?_
  refine Gx.any_done (by kernel_rfl) ?_
  refine Gx.then_normal ?_
  refine Gx.cond_f (by kernel_rfl) ?_
  refine wp_skip ?_
  refine Gx.then_normal ?_
  refine Gx.seq_reg [0, 1, 2, 3, 4, 5] (by kernel_rfl) ?_
  refine Gx.cons (Gx.op_makeMap rfl (by kernel_rfl) rfl (fun k2 w3 l2 x3 b2 => ?_))
  have zw3 := x3.size
  have tb2 := b2.lt
  refine Gx.cons (Gx.op_insert rfl (by kernel_rfl) rfl 3 3 (by kernel_rfl) (by kernel_rfl) (by kernel_rfl) (6 : Int) (by kernel_rfl) (.int .i64 0) (by kernel_rfl) b2 rfl #[{ key := .int .i64 6, val := .int .i64 0, born := 0 }] rfl 1 rfl (fun w4 u1 b3 => ?_))
  have zw4 := u1.size
  refine Gx.cons (Gx.op_insert rfl (by kernel_rfl) rfl 3 3 (by kernel_rfl) (by kernel_rfl) (by kernel_rfl) (5 : Int) (by kernel_rfl) (.int .i64 1) (by kernel_rfl) b3 rfl #[{ key := .int .i64 6, val := .int .i64 0, born := 0 }, { key := .int .i64 5, val := .int .i64 1, born := 1 }] rfl 2 rfl (fun w5 u2 b4 => ?_))
  have zw5 := u2.size
  refine Gx.cons (Gx.op_insert rfl (by kernel_rfl) rfl 3 3 (by kernel_rfl) (by kernel_rfl) (by kernel_rfl) (4 : Int) (by kernel_rfl) (.int .i64 2) (by kernel_rfl) b4 rfl #[{ key := .int .i64 6, val := .int .i64 0, born := 0 }, { key := .int .i64 5, val := .int .i64 1, born := 1 }, { key := .int .i64 4, val := .int .i64 2, born := 2 }] rfl 3 rfl (fun w6 u3 b5 => ?_))
  have zw6 := u3.size
  refine Gx.pure [4, 5] [] [(6, .map (some k2)), (18, .map (some k2))] rfl (by kernel_rfl) ?_
  refine Gx.ops_end ?_
  refine wp_seq ?_
  refine Gx.seq_reg [0, 1, 2, 3, 4, 5, 6, 7, 8] (by kernel_rfl) ?_
  refine Gx.pure [0, 1] [2, 3, 4, 5, 6, 7, 8] [(21, .pointer (some ⟨k1, 0, none⟩)), (20, .map (some k2))] rfl (by kernel_rfl) ?_
  refine Gx.cons (Gx.op_load rfl (by kernel_rfl) rfl 0 (.int .i64 6) (by kernel_rfl) (((((b1.ext x2).ext x3).upd1 u1 (by omega)).upd1 u2 (by omega)).upd1 u3 (by omega)) (by kernel_rfl) ?_)
  refine Gx.cons (Gx.op_lookup rfl (by kernel_rfl) rfl 3 3 (by kernel_rfl) (by kernel_rfl) (by kernel_rfl) (by kernel_rfl) (6 : Int) (by kernel_rfl) b5 (some (0, .int .i64 0)) rfl (.int .i64 0) (by kernel_rfl) (.int .i64 0) true rfl ?_)
  refine Gx.pure [4, 5, 6, 7, 8] [] [(8, .bool true), (7, .int .i64 0), (25, .bool true), (24, .int .i64 0), (19, .tuple #[.int .i64 0, .bool true])] rfl (by kernel_rfl) ?_
  refine Gx.ops_end ?_
  refine Gx.seq_run [(31, .bool (decide ((0 : Int) < least))), (30, .bool (decide ((0 : Int) < least))), (29, .int .i64 least), (28, .int .i64 0), (27, .bool true), (26, .bool true)] (by kernel_rfl) ?_
  refine Gx.cond (decide ((0 : Int) < least)) (by kernel_rfl) (fun h_c31 => ?_) (fun h_c31 => ?_)
  · skip
    have p_c31 := h_c31; try simp [-List.getD_eq_getElem?_getD] at p_c31
    have hin := in_yes (n := n) (row := row) (ops := ops) (args := args) (show lvl 6 < least by show (0 : Int) < least; simpa using h_c31)
    have hinz := congrArg ByteArray.size hin; simp only [ByteArray.size_append] at hinz; have hO : bO.size = 1 := rfl; have hCz : bC.size = 1 := rfl
    refine Gx.seq_reg [0, 1] (by kernel_rfl) ?_
    refine Gx.pure [0] [1] [(32, .pointer (some ⟨b, 0, none⟩))] rfl (by kernel_rfl) ?_
    refine Gx.cons (Gx.op_call rfl (by kernel_rfl) (by kernel_rfl) (fun R hR => WriteByte_c B b s 40 _ R ((((((hbd.ext x1).ext x2).ext x3).updO u1 b2 (fun _ _ q => by cases q) (by omega)).updO u2 b3 (fun _ _ q => by cases q) (by omega)).updO u3 b4 (fun _ _ q => by cases q) (by omega)) (by omega) (by omega) (by omega) (fun w7 s1 hs1 x4 hbd1 => hR _ _ ?_)))
    have zw7 := x4.size
    have zhs1 := congrArg ByteArray.size hs1; simp only [ByteArray.size_append, litz1] at zhs1
    refine Gx.ops_end ?_
    refine Gx.reg [0, 1] (by kernel_rfl) ?_
    refine Gx.pure [0] [1] [(34, .pointer (some ⟨b, 0, none⟩))] rfl (by kernel_rfl) ?_
    refine Gx.cons (Gx.op_defer { target := .fn (.func 14) #[], args := #[.pointer (some ⟨b, 0, none⟩), .int .u8 41] } rfl (by kernel_rfl) (by kernel_rfl) ?_)
    refine Gx.ops_nil ?_
    refine Gx.then_normal ?_
    refine Gx.seq_reg [0, 1] (by kernel_rfl) ?_
    refine Gx.pure [0] [1] [(35, .pointer (some ⟨k1, 0, none⟩))] rfl (by kernel_rfl) ?_
    refine Gx.cons (Gx.op_load rfl (by kernel_rfl) rfl 0 (.int .i64 6) (by kernel_rfl) (x4.has (((((b1.ext x2).ext x3).upd1 u1 (by omega)).upd1 u2 (by omega)).upd1 u3 (by omega)) (by omega) (by decide)) (by kernel_rfl) ?_)
    refine Gx.ops_end ?_
    refine wp_block ?_
    refine Gx.seq_run [(37, .bool false), (38, .bool false)] (by kernel_rfl) ?_
    refine Gx.cond_f (by kernel_rfl) ?_
    refine Gx.seq_run [(60, .bool false), (61, .bool false)] (by kernel_rfl) ?_
    refine Gx.cond_f (by kernel_rfl) ?_
    refine Gx.seq_run [(64, .bool false), (65, .bool false)] (by kernel_rfl) ?_
    refine Gx.cond_f (by kernel_rfl) ?_
    refine Gx.seq_run [(68, .bool false), (69, .bool false)] (by kernel_rfl) ?_
    refine Gx.cond_f (by kernel_rfl) ?_
    refine Gx.seq_run [(72, .bool false), (73, .bool false)] (by kernel_rfl) ?_
    refine Gx.cond_f (by kernel_rfl) ?_
    refine Gx.seq_run [(82, .bool false), (83, .bool false)] (by kernel_rfl) ?_
    refine Gx.cond_f (by kernel_rfl) ?_
    refine Gx.seq_run [(98, .bool true), (99, .bool true)] (by kernel_rfl) ?_
    refine Gx.cond_t (by kernel_rfl) ?_
    refine Gx.seq_reg [0, 1, 2, 3, 4, 5] (by kernel_rfl) ?_
    refine Gx.pure [0, 1] [2, 3, 4, 5] [(101, .pointer (some ⟨k1, 4, none⟩)), (100, .pointer (some ⟨b, 0, none⟩))] rfl (by kernel_rfl) ?_
    refine Gx.cons (Gx.op_load rfl (by kernel_rfl) rfl 4 (.slice A2 2 c2) (by kernel_rfl) (x4.has (((((b1.ext x2).ext x3).upd1 u1 (by omega)).upd1 u2 (by omega)).upd1 u3 (by omega)) (by omega) (by decide)) (by kernel_rfl) ?_)
    obtain ⟨a1, ha1, hc1⟩ := ha 0 (by omega)
    refine Gx.cons (Gx.op_indexAddrO rfl (by kernel_rfl) rfl 25 5 (by kernel_rfl) (by kernel_rfl) a1 ha1 2 c2 (by kernel_rfl) .i64 0 (by kernel_rfl) (by omega) ?_)
    refine Gx.cons (Gx.op_loadAgg rfl (by kernel_rfl) rfl (by kernel_rfl) 5 (Gx.cells_ext hc1 (by decide) (Gx.Ext.wx hE ((((((((Gx.Wx.refl (e := 5) (wb := b) w hBw).ext x1).ext x2).ext x3).upd_new u1 (by omega)).upd_new u2 (by omega)).upd_new u3 (by omega)).trans x4) hw0B)) (by kernel_rfl) ?_)
    refine Gx.cons (Gx.op_call rfl (by kernel_rfl) (by kernel_rfl) (fun R hR => ihS 0 (by omega) B b s1 (1 : Int) _ R hbd1 (by omega) (Gx.Ext.wx hE ((((((((Gx.Wx.refl (e := 5) (wb := b) w hBw).ext x1).ext x2).ext x3).upd_new u1 (by omega)).upd_new u2 (by omega)).upd_new u3 (by omega)).trans x4) hw0B) hw0B (by decide) (by omega) (fun w8 s2 hs2 x5 hbd2 => hR _ _ ?_)))
    have zw8 := x5.size
    have zhs2 := congrArg ByteArray.size hs2; rw [ByteArray.size_append] at zhs2
    refine Gx.ops_end ?_
    refine Gx.seq_reg [0, 1, 2, 3] (by kernel_rfl) ?_
    refine Gx.pure [0] [1, 2, 3] [(106, .pointer (some ⟨k1, 3, none⟩))] rfl (by kernel_rfl) ?_
    refine Gx.cons (Gx.op_load rfl (by kernel_rfl) rfl 3 (.slice A1 ops.length c1) (by kernel_rfl) (x5.has (x4.has (((((b1.ext x2).ext x3).upd1 u1 (by omega)).upd1 u2 (by omega)).upd1 u3 (by omega)) (by omega) (by decide)) (by omega) (by decide)) (by kernel_rfl) ?_)
    refine Gx.cons (Gx.op_call rfl (by kernel_rfl) (by kernel_rfl) (fun R hR => join_c A1 ops c1  _ R (Gx.Rd.ext ho (by decide) (Gx.Ext.wx hE (((((((((Gx.Wx.refl (e := 5) (wb := b) w hBw).ext x1).ext x2).ext x3).upd_new u1 (by omega)).upd_new u2 (by omega)).upd_new u3 (by omega)).trans x4).trans x5) hw0B)) hcap hl (by omega) (fun w9 x6  => hR _ _ ?_)))
    have zw9 := x6.size
    refine Gx.pure [3] [] [(9, .string (joinB ops))] rfl (by kernel_rfl) ?_
    refine Gx.ops_end ?_
    refine wp_seq ?_
    refine Gx.seq_reg [0, 1, 2] (by kernel_rfl) ?_
    refine Gx.pure [0] [1, 2] [(109, .pointer (some ⟨k1, 2, none⟩))] rfl (by kernel_rfl) ?_
    refine Gx.cons (Gx.op_load rfl (by kernel_rfl) rfl 2 (.int .i64 row) (by kernel_rfl) ((x5.has (x4.has (((((b1.ext x2).ext x3).upd1 u1 (by omega)).upd1 u2 (by omega)).upd1 u3 (by omega)) (by omega) (by decide)) (by omega) (by decide)).ext x6) (by kernel_rfl) ?_)
    refine Gx.pure [2] [] [(111, .bool (decide (row > (0 : Int))))] rfl (by kernel_rfl) ?_
    refine Gx.ops_end ?_
    refine Gx.cond (decide (row > (0 : Int))) (by kernel_rfl) (fun h_c111 => ?_) (fun h_c111 => ?_)
    · skip
      refine wp_seq ?_
      refine Gx.seq_run [(113, .bool (!((joinB ops).toList == (⟨#[]⟩ : ByteArray).toList))), (112, .string (joinB ops))] (by kernel_rfl) ?_
      refine Gx.cond (!((joinB ops).toList == (⟨#[]⟩ : ByteArray).toList)) (by kernel_rfl) (fun h_c113 => ?_) (fun h_c113 => ?_)
      · skip
        refine Gx.reg [0, 1, 2] (by kernel_rfl) ?_
        refine Gx.pure [0] [1, 2] [(114, .string (joinB ops))] rfl (by kernel_rfl) ?_
        have p_c111 := h_c111; try simp [-List.getD_eq_getElem?_getD] at p_c111
        have p_c113 := h_c113; try simp [-List.getD_eq_getElem?_getD] at p_c113
        refine Gx.cons (Gx.op_concat rfl (by kernel_rfl) rfl (joinB ops) (⟨#[32]⟩ : ByteArray) (by kernel_rfl) (by kernel_rfl) (by simp only [litz1]; omega) ?_)
        refine Gx.pure [2] [] [(9, .string ((joinB ops) ++ (⟨#[32]⟩ : ByteArray)))] rfl (by kernel_rfl) ?_
        refine Gx.ops_nil ?_
        refine Gx.then_normal ?_
        refine Gx.reg [0, 1, 2, 3, 4, 5, 6] (by kernel_rfl) ?_
        refine Gx.pure [0, 1] [2, 3, 4, 5, 6] [(117, .pointer (some ⟨k1, 2, none⟩)), (116, .string ((joinB ops) ++ (⟨#[32]⟩ : ByteArray)))] rfl (by kernel_rfl) ?_
        refine Gx.cons (Gx.op_load rfl (by kernel_rfl) rfl 2 (.int .i64 row) (by kernel_rfl) ((x5.has (x4.has (((((b1.ext x2).ext x3).upd1 u1 (by omega)).upd1 u2 (by omega)).upd1 u3 (by omega)) (by omega) (by decide)) (by omega) (by decide)).ext x6) (by kernel_rfl) ?_)
        refine Gx.cons (Gx.op_call rfl (by kernel_rfl) (by kernel_rfl) (fun R hR => itoa_c row _ R (by omega) (by unfold I64 at *; omega) (htab _ (Gx.Ext.below (Gx.Ext.wx hE ((((((((((Gx.Wx.refl (e := 5) (wb := b) w hBw).ext x1).ext x2).ext x3).upd_new u1 (by omega)).upd_new u2 (by omega)).upd_new u3 (by omega)).trans x4).trans x5).ext x6) hw0B))) (fun w10 x7  => hR _ _ ?_)))
        have zw10 := x7.size
        refine Gx.cons (Gx.op_concat rfl (by kernel_rfl) rfl (⟨#[124, 32, 114]⟩ : ByteArray) (digB row.toNat) (by kernel_rfl) (by kernel_rfl) (by simp only [litz3]; omega) ?_)
        refine Gx.cons (Gx.op_concat rfl (by kernel_rfl) rfl ((joinB ops) ++ (⟨#[32]⟩ : ByteArray)) ((⟨#[124, 32, 114]⟩ : ByteArray) ++ (digB row.toNat)) (by kernel_rfl) (by kernel_rfl) (by simp only [ByteArray.size_append, litz1, litz3]; omega) ?_)
        refine Gx.pure [6] [] [(9, .string (((joinB ops) ++ (⟨#[32]⟩ : ByteArray)) ++ ((⟨#[124, 32, 114]⟩ : ByteArray) ++ (digB row.toNat))))] rfl (by kernel_rfl) ?_
        refine Gx.ops_nil ?_
        refine Gx.then_normal ?_
        refine wp_seq ?_
        refine Gx.seq_run [(123, .bool ((((joinB ops) ++ (⟨#[32]⟩ : ByteArray)) ++ ((⟨#[124, 32, 114]⟩ : ByteArray) ++ (digB row.toNat))).toList == (⟨#[]⟩ : ByteArray).toList)), (122, .string (((joinB ops) ++ (⟨#[32]⟩ : ByteArray)) ++ ((⟨#[124, 32, 114]⟩ : ByteArray) ++ (digB row.toNat))))] (by kernel_rfl) ?_
        refine Gx.cond ((((joinB ops) ++ (⟨#[32]⟩ : ByteArray)) ++ ((⟨#[124, 32, 114]⟩ : ByteArray) ++ (digB row.toNat))).toList == (⟨#[]⟩ : ByteArray).toList) (by kernel_rfl) (fun h_c123 => ?_) (fun h_c123 => ?_)
        · skip
          refine Gx.reg [0, 1] (by kernel_rfl) ?_
          refine Gx.pure [0] [1] [(124, .pointer (some ⟨b, 0, none⟩))] rfl (by kernel_rfl) ?_
          have p_c123 := h_c123; try simp [-List.getD_eq_getElem?_getD] at p_c123
          refine Gx.cons (Gx.op_call rfl (by kernel_rfl) (by kernel_rfl) (fun R hR => WriteString_c B b s2 (⟨#[32, 45, 62, 32]⟩ : ByteArray) _ R ((hbd2.ext x6).ext x7) (by omega) (by simp only [litz4]; omega) (fun w11 s3 hs3 x8 hbd3 => hR _ _ ?_)))
          have zw11 := x8.size
          have zhs3 := congrArg ByteArray.size hs3; simp only [ByteArray.size_append, litz4] at zhs3
          refine Gx.ops_nil ?_
          refine Gx.then_normal ?_
          have h123 := h_c123
          rw [← app_assoc] at h123
          have harr : arrB (rowB (joinB ops) row) = (⟨#[32, 45, 62, 32]⟩ : ByteArray) := by unfold arrB rowB bS bR bL bE bArr; rw [if_pos (show row > 0 by simpa using h_c111)]; simp only [h_c113, h123, Bool.not_true, Bool.not_false, Bool.false_eq_true, if_true, if_false]; (try simp only [app_assoc])
          have harrz := congrArg ByteArray.size harr; simp only [litz4] at harrz
          refine Gx.reg [0, 1, 2, 3, 4, 5] (by kernel_rfl) ?_
          refine Gx.pure [0, 1] [2, 3, 4, 5] [(132, .pointer (some ⟨k1, 4, none⟩)), (131, .pointer (some ⟨b, 0, none⟩))] rfl (by kernel_rfl) ?_
          refine Gx.cons (Gx.op_load rfl (by kernel_rfl) rfl 4 (.slice A2 2 c2) (by kernel_rfl) (x8.has (((x5.has (x4.has (((((b1.ext x2).ext x3).upd1 u1 (by omega)).upd1 u2 (by omega)).upd1 u3 (by omega)) (by omega) (by decide)) (by omega) (by decide)).ext x6).ext x7) (by omega) (by decide)) (by kernel_rfl) ?_)
          obtain ⟨a2, ha2, hc2⟩ := ha 1 (by omega)
          refine Gx.cons (Gx.op_indexAddrO rfl (by kernel_rfl) rfl 25 5 (by kernel_rfl) (by kernel_rfl) a2 ha2 2 c2 (by kernel_rfl) .i64 1 (by kernel_rfl) (by omega) ?_)
          refine Gx.cons (Gx.op_loadAgg rfl (by kernel_rfl) rfl (by kernel_rfl) 5 (Gx.cells_ext hc2 (by decide) (Gx.Ext.wx hE ((((((((((((Gx.Wx.refl (e := 5) (wb := b) w hBw).ext x1).ext x2).ext x3).upd_new u1 (by omega)).upd_new u2 (by omega)).upd_new u3 (by omega)).trans x4).trans x5).ext x6).ext x7).trans x8) hw0B)) (by kernel_rfl) ?_)
          refine Gx.cons (Gx.op_call rfl (by kernel_rfl) (by kernel_rfl) (fun R hR => ihS 1 (by omega) B b s3 (0 : Int) _ R hbd3 (by omega) (Gx.Ext.wx hE ((((((((((((Gx.Wx.refl (e := 5) (wb := b) w hBw).ext x1).ext x2).ext x3).upd_new u1 (by omega)).upd_new u2 (by omega)).upd_new u3 (by omega)).trans x4).trans x5).ext x6).ext x7).trans x8) hw0B) hw0B (by decide) (by omega) (fun w12 s4 hs4 x9 hbd4 => hR _ _ ?_)))
          have zw12 := x9.size
          have zhs4 := congrArg ByteArray.size hs4; rw [ByteArray.size_append] at zhs4
          refine Gx.ops_nil ?_
          refine Gx.block_normal ?_
          refine Gx.retD1_n rfl (by kernel_rfl) ?_
          exact WriteByte_d B b s4 41 _ (fun e w' => (∃ v, e = .returned v) ∧ K (.returned (.tuple #[])) w') hbd4 (by omega) (by omega) (by omega) (fun w' s' hs5 x hb => ⟨⟨_, rfl⟩, hK _ _ (by rw [hs5, hs4, hs3, hs2, hs1, hin, show_6 hlen, harr]; all_goals (try simp only [app_assoc]); all_goals (try rfl)) (Gx.Wx.trans (((((((((((((Gx.Wx.refl (e := 5) (wb := b) w hBw).ext x1).ext x2).ext x3).upd_new u1 (by omega)).upd_new u2 (by omega)).upd_new u3 (by omega)).trans x4).trans x5).ext x6).ext x7).trans x8).trans x9) x) hb⟩)
        refine Gx.reg [0, 1, 2, 3, 4] (by kernel_rfl) ?_
        refine Gx.pure [0, 1] [2, 3, 4] [(127, .string (((joinB ops) ++ (⟨#[32]⟩ : ByteArray)) ++ ((⟨#[124, 32, 114]⟩ : ByteArray) ++ (digB row.toNat)))), (126, .pointer (some ⟨b, 0, none⟩))] rfl (by kernel_rfl) ?_
        have p_c123 := h_c123; try simp [-List.getD_eq_getElem?_getD] at p_c123
        refine Gx.cons (Gx.op_concat rfl (by kernel_rfl) rfl (⟨#[32, 45, 123]⟩ : ByteArray) (((joinB ops) ++ (⟨#[32]⟩ : ByteArray)) ++ ((⟨#[124, 32, 114]⟩ : ByteArray) ++ (digB row.toNat))) (by kernel_rfl) (by kernel_rfl) (by simp only [ByteArray.size_append, litz1, litz3]; omega) ?_)
        refine Gx.cons (Gx.op_concat rfl (by kernel_rfl) rfl ((⟨#[32, 45, 123]⟩ : ByteArray) ++ (((joinB ops) ++ (⟨#[32]⟩ : ByteArray)) ++ ((⟨#[124, 32, 114]⟩ : ByteArray) ++ (digB row.toNat)))) (⟨#[125, 45, 62, 32]⟩ : ByteArray) (by kernel_rfl) (by kernel_rfl) (by simp only [ByteArray.size_append, litz1, litz3, litz4]; omega) ?_)
        refine Gx.cons (Gx.op_call rfl (by kernel_rfl) (by kernel_rfl) (fun R hR => WriteString_c B b s2 (((⟨#[32, 45, 123]⟩ : ByteArray) ++ (((joinB ops) ++ (⟨#[32]⟩ : ByteArray)) ++ ((⟨#[124, 32, 114]⟩ : ByteArray) ++ (digB row.toNat)))) ++ (⟨#[125, 45, 62, 32]⟩ : ByteArray)) _ R ((hbd2.ext x6).ext x7) (by omega) (by simp only [ByteArray.size_append, litz1, litz3, litz4]; omega) (fun w13 s5 hs6 x10 hbd5 => hR _ _ ?_)))
        have zw13 := x10.size
        have zhs6 := congrArg ByteArray.size hs6; simp only [ByteArray.size_append, litz1, litz3, litz4] at zhs6
        refine Gx.ops_nil ?_
        refine Gx.then_normal ?_
        have h123 := h_c123
        rw [← app_assoc] at h123
        have harr : arrB (rowB (joinB ops) row) = (((⟨#[32, 45, 123]⟩ : ByteArray) ++ (((joinB ops) ++ (⟨#[32]⟩ : ByteArray)) ++ ((⟨#[124, 32, 114]⟩ : ByteArray) ++ (digB row.toNat)))) ++ (⟨#[125, 45, 62, 32]⟩ : ByteArray)) := by unfold arrB rowB bS bR bL bE bArr; rw [if_pos (show row > 0 by simpa using h_c111)]; simp only [h_c113, h123, Bool.not_true, Bool.not_false, Bool.false_eq_true, if_true, if_false]; (try simp only [app_assoc])
        have harrz := congrArg ByteArray.size harr; simp only [ByteArray.size_append, litz1, litz3, litz4] at harrz
        refine Gx.reg [0, 1, 2, 3, 4, 5] (by kernel_rfl) ?_
        refine Gx.pure [0, 1] [2, 3, 4, 5] [(132, .pointer (some ⟨k1, 4, none⟩)), (131, .pointer (some ⟨b, 0, none⟩))] rfl (by kernel_rfl) ?_
        refine Gx.cons (Gx.op_load rfl (by kernel_rfl) rfl 4 (.slice A2 2 c2) (by kernel_rfl) (x10.has (((x5.has (x4.has (((((b1.ext x2).ext x3).upd1 u1 (by omega)).upd1 u2 (by omega)).upd1 u3 (by omega)) (by omega) (by decide)) (by omega) (by decide)).ext x6).ext x7) (by omega) (by decide)) (by kernel_rfl) ?_)
        obtain ⟨a3, ha3, hc3⟩ := ha 1 (by omega)
        refine Gx.cons (Gx.op_indexAddrO rfl (by kernel_rfl) rfl 25 5 (by kernel_rfl) (by kernel_rfl) a3 ha3 2 c2 (by kernel_rfl) .i64 1 (by kernel_rfl) (by omega) ?_)
        refine Gx.cons (Gx.op_loadAgg rfl (by kernel_rfl) rfl (by kernel_rfl) 5 (Gx.cells_ext hc3 (by decide) (Gx.Ext.wx hE ((((((((((((Gx.Wx.refl (e := 5) (wb := b) w hBw).ext x1).ext x2).ext x3).upd_new u1 (by omega)).upd_new u2 (by omega)).upd_new u3 (by omega)).trans x4).trans x5).ext x6).ext x7).trans x10) hw0B)) (by kernel_rfl) ?_)
        refine Gx.cons (Gx.op_call rfl (by kernel_rfl) (by kernel_rfl) (fun R hR => ihS 1 (by omega) B b s5 (0 : Int) _ R hbd5 (by omega) (Gx.Ext.wx hE ((((((((((((Gx.Wx.refl (e := 5) (wb := b) w hBw).ext x1).ext x2).ext x3).upd_new u1 (by omega)).upd_new u2 (by omega)).upd_new u3 (by omega)).trans x4).trans x5).ext x6).ext x7).trans x10) hw0B) hw0B (by decide) (by omega) (fun w14 s6 hs7 x11 hbd6 => hR _ _ ?_)))
        have zw14 := x11.size
        have zhs7 := congrArg ByteArray.size hs7; rw [ByteArray.size_append] at zhs7
        refine Gx.ops_nil ?_
        refine Gx.block_normal ?_
        refine Gx.retD1_n rfl (by kernel_rfl) ?_
        exact WriteByte_d B b s6 41 _ (fun e w' => (∃ v, e = .returned v) ∧ K (.returned (.tuple #[])) w') hbd6 (by omega) (by omega) (by omega) (fun w' s' hs8 x hb => ⟨⟨_, rfl⟩, hK _ _ (by rw [hs8, hs7, hs6, hs2, hs1, hin, show_6 hlen, harr]; all_goals (try simp only [app_assoc]); all_goals (try rfl)) (Gx.Wx.trans (((((((((((((Gx.Wx.refl (e := 5) (wb := b) w hBw).ext x1).ext x2).ext x3).upd_new u1 (by omega)).upd_new u2 (by omega)).upd_new u3 (by omega)).trans x4).trans x5).ext x6).ext x7).trans x10).trans x11) x) hb⟩)
      refine wp_skip ?_
      refine Gx.then_normal ?_
      refine Gx.reg [0, 1, 2, 3, 4, 5, 6] (by kernel_rfl) ?_
      refine Gx.pure [0, 1] [2, 3, 4, 5, 6] [(117, .pointer (some ⟨k1, 2, none⟩)), (116, .string (joinB ops))] rfl (by kernel_rfl) ?_
      have p_c111 := h_c111; try simp [-List.getD_eq_getElem?_getD] at p_c111
      have p_c113 := h_c113; try simp [-List.getD_eq_getElem?_getD] at p_c113
      refine Gx.cons (Gx.op_load rfl (by kernel_rfl) rfl 2 (.int .i64 row) (by kernel_rfl) ((x5.has (x4.has (((((b1.ext x2).ext x3).upd1 u1 (by omega)).upd1 u2 (by omega)).upd1 u3 (by omega)) (by omega) (by decide)) (by omega) (by decide)).ext x6) (by kernel_rfl) ?_)
      refine Gx.cons (Gx.op_call rfl (by kernel_rfl) (by kernel_rfl) (fun R hR => itoa_c row _ R (by omega) (by unfold I64 at *; omega) (htab _ (Gx.Ext.below (Gx.Ext.wx hE ((((((((((Gx.Wx.refl (e := 5) (wb := b) w hBw).ext x1).ext x2).ext x3).upd_new u1 (by omega)).upd_new u2 (by omega)).upd_new u3 (by omega)).trans x4).trans x5).ext x6) hw0B))) (fun w15 x12  => hR _ _ ?_)))
      have zw15 := x12.size
      refine Gx.cons (Gx.op_concat rfl (by kernel_rfl) rfl (⟨#[124, 32, 114]⟩ : ByteArray) (digB row.toNat) (by kernel_rfl) (by kernel_rfl) (by simp only [litz3]; omega) ?_)
      refine Gx.cons (Gx.op_concat rfl (by kernel_rfl) rfl (joinB ops) ((⟨#[124, 32, 114]⟩ : ByteArray) ++ (digB row.toNat)) (by kernel_rfl) (by kernel_rfl) (by simp only [ByteArray.size_append, litz3]; omega) ?_)
      refine Gx.pure [6] [] [(9, .string ((joinB ops) ++ ((⟨#[124, 32, 114]⟩ : ByteArray) ++ (digB row.toNat))))] rfl (by kernel_rfl) ?_
      refine Gx.ops_nil ?_
      refine Gx.then_normal ?_
      refine wp_seq ?_
      refine Gx.seq_run [(123, .bool (((joinB ops) ++ ((⟨#[124, 32, 114]⟩ : ByteArray) ++ (digB row.toNat))).toList == (⟨#[]⟩ : ByteArray).toList)), (122, .string ((joinB ops) ++ ((⟨#[124, 32, 114]⟩ : ByteArray) ++ (digB row.toNat))))] (by kernel_rfl) ?_
      refine Gx.cond (((joinB ops) ++ ((⟨#[124, 32, 114]⟩ : ByteArray) ++ (digB row.toNat))).toList == (⟨#[]⟩ : ByteArray).toList) (by kernel_rfl) (fun h_c123 => ?_) (fun h_c123 => ?_)
      · skip
        refine Gx.reg [0, 1] (by kernel_rfl) ?_
        refine Gx.pure [0] [1] [(124, .pointer (some ⟨b, 0, none⟩))] rfl (by kernel_rfl) ?_
        have p_c123 := h_c123; try simp [-List.getD_eq_getElem?_getD] at p_c123
        refine Gx.cons (Gx.op_call rfl (by kernel_rfl) (by kernel_rfl) (fun R hR => WriteString_c B b s2 (⟨#[32, 45, 62, 32]⟩ : ByteArray) _ R ((hbd2.ext x6).ext x12) (by omega) (by simp only [litz4]; omega) (fun w16 s7 hs9 x13 hbd7 => hR _ _ ?_)))
        have zw16 := x13.size
        have zhs9 := congrArg ByteArray.size hs9; simp only [ByteArray.size_append, litz4] at zhs9
        refine Gx.ops_nil ?_
        refine Gx.then_normal ?_
        have h123 := h_c123
        rw [← app_assoc] at h123
        have harr : arrB (rowB (joinB ops) row) = (⟨#[32, 45, 62, 32]⟩ : ByteArray) := by unfold arrB rowB bS bR bL bE bArr; rw [if_pos (show row > 0 by simpa using h_c111)]; simp only [h_c113, h123, Bool.not_true, Bool.not_false, Bool.false_eq_true, if_true, if_false]; (try simp only [app_assoc])
        have harrz := congrArg ByteArray.size harr; simp only [litz4] at harrz
        refine Gx.reg [0, 1, 2, 3, 4, 5] (by kernel_rfl) ?_
        refine Gx.pure [0, 1] [2, 3, 4, 5] [(132, .pointer (some ⟨k1, 4, none⟩)), (131, .pointer (some ⟨b, 0, none⟩))] rfl (by kernel_rfl) ?_
        refine Gx.cons (Gx.op_load rfl (by kernel_rfl) rfl 4 (.slice A2 2 c2) (by kernel_rfl) (x13.has (((x5.has (x4.has (((((b1.ext x2).ext x3).upd1 u1 (by omega)).upd1 u2 (by omega)).upd1 u3 (by omega)) (by omega) (by decide)) (by omega) (by decide)).ext x6).ext x12) (by omega) (by decide)) (by kernel_rfl) ?_)
        obtain ⟨a4, ha4, hc4⟩ := ha 1 (by omega)
        refine Gx.cons (Gx.op_indexAddrO rfl (by kernel_rfl) rfl 25 5 (by kernel_rfl) (by kernel_rfl) a4 ha4 2 c2 (by kernel_rfl) .i64 1 (by kernel_rfl) (by omega) ?_)
        refine Gx.cons (Gx.op_loadAgg rfl (by kernel_rfl) rfl (by kernel_rfl) 5 (Gx.cells_ext hc4 (by decide) (Gx.Ext.wx hE ((((((((((((Gx.Wx.refl (e := 5) (wb := b) w hBw).ext x1).ext x2).ext x3).upd_new u1 (by omega)).upd_new u2 (by omega)).upd_new u3 (by omega)).trans x4).trans x5).ext x6).ext x12).trans x13) hw0B)) (by kernel_rfl) ?_)
        refine Gx.cons (Gx.op_call rfl (by kernel_rfl) (by kernel_rfl) (fun R hR => ihS 1 (by omega) B b s7 (0 : Int) _ R hbd7 (by omega) (Gx.Ext.wx hE ((((((((((((Gx.Wx.refl (e := 5) (wb := b) w hBw).ext x1).ext x2).ext x3).upd_new u1 (by omega)).upd_new u2 (by omega)).upd_new u3 (by omega)).trans x4).trans x5).ext x6).ext x12).trans x13) hw0B) hw0B (by decide) (by omega) (fun w17 s8 hs10 x14 hbd8 => hR _ _ ?_)))
        have zw17 := x14.size
        have zhs10 := congrArg ByteArray.size hs10; rw [ByteArray.size_append] at zhs10
        refine Gx.ops_nil ?_
        refine Gx.block_normal ?_
        refine Gx.retD1_n rfl (by kernel_rfl) ?_
        exact WriteByte_d B b s8 41 _ (fun e w' => (∃ v, e = .returned v) ∧ K (.returned (.tuple #[])) w') hbd8 (by omega) (by omega) (by omega) (fun w' s' hs11 x hb => ⟨⟨_, rfl⟩, hK _ _ (by rw [hs11, hs10, hs9, hs2, hs1, hin, show_6 hlen, harr]; all_goals (try simp only [app_assoc]); all_goals (try rfl)) (Gx.Wx.trans (((((((((((((Gx.Wx.refl (e := 5) (wb := b) w hBw).ext x1).ext x2).ext x3).upd_new u1 (by omega)).upd_new u2 (by omega)).upd_new u3 (by omega)).trans x4).trans x5).ext x6).ext x12).trans x13).trans x14) x) hb⟩)
      refine Gx.reg [0, 1, 2, 3, 4] (by kernel_rfl) ?_
      refine Gx.pure [0, 1] [2, 3, 4] [(127, .string ((joinB ops) ++ ((⟨#[124, 32, 114]⟩ : ByteArray) ++ (digB row.toNat)))), (126, .pointer (some ⟨b, 0, none⟩))] rfl (by kernel_rfl) ?_
      have p_c123 := h_c123; try simp [-List.getD_eq_getElem?_getD] at p_c123
      refine Gx.cons (Gx.op_concat rfl (by kernel_rfl) rfl (⟨#[32, 45, 123]⟩ : ByteArray) ((joinB ops) ++ ((⟨#[124, 32, 114]⟩ : ByteArray) ++ (digB row.toNat))) (by kernel_rfl) (by kernel_rfl) (by simp only [ByteArray.size_append, litz3]; omega) ?_)
      refine Gx.cons (Gx.op_concat rfl (by kernel_rfl) rfl ((⟨#[32, 45, 123]⟩ : ByteArray) ++ ((joinB ops) ++ ((⟨#[124, 32, 114]⟩ : ByteArray) ++ (digB row.toNat)))) (⟨#[125, 45, 62, 32]⟩ : ByteArray) (by kernel_rfl) (by kernel_rfl) (by simp only [ByteArray.size_append, litz3, litz4]; omega) ?_)
      refine Gx.cons (Gx.op_call rfl (by kernel_rfl) (by kernel_rfl) (fun R hR => WriteString_c B b s2 (((⟨#[32, 45, 123]⟩ : ByteArray) ++ ((joinB ops) ++ ((⟨#[124, 32, 114]⟩ : ByteArray) ++ (digB row.toNat)))) ++ (⟨#[125, 45, 62, 32]⟩ : ByteArray)) _ R ((hbd2.ext x6).ext x12) (by omega) (by simp only [ByteArray.size_append, litz3, litz4]; omega) (fun w18 s9 hs12 x15 hbd9 => hR _ _ ?_)))
      have zw18 := x15.size
      have zhs12 := congrArg ByteArray.size hs12; simp only [ByteArray.size_append, litz3, litz4] at zhs12
      refine Gx.ops_nil ?_
      refine Gx.then_normal ?_
      have h123 := h_c123
      rw [← app_assoc] at h123
      have harr : arrB (rowB (joinB ops) row) = (((⟨#[32, 45, 123]⟩ : ByteArray) ++ ((joinB ops) ++ ((⟨#[124, 32, 114]⟩ : ByteArray) ++ (digB row.toNat)))) ++ (⟨#[125, 45, 62, 32]⟩ : ByteArray)) := by unfold arrB rowB bS bR bL bE bArr; rw [if_pos (show row > 0 by simpa using h_c111)]; simp only [h_c113, h123, Bool.not_true, Bool.not_false, Bool.false_eq_true, if_true, if_false]; (try simp only [app_assoc])
      have harrz := congrArg ByteArray.size harr; simp only [ByteArray.size_append, litz3, litz4] at harrz
      refine Gx.reg [0, 1, 2, 3, 4, 5] (by kernel_rfl) ?_
      refine Gx.pure [0, 1] [2, 3, 4, 5] [(132, .pointer (some ⟨k1, 4, none⟩)), (131, .pointer (some ⟨b, 0, none⟩))] rfl (by kernel_rfl) ?_
      refine Gx.cons (Gx.op_load rfl (by kernel_rfl) rfl 4 (.slice A2 2 c2) (by kernel_rfl) (x15.has (((x5.has (x4.has (((((b1.ext x2).ext x3).upd1 u1 (by omega)).upd1 u2 (by omega)).upd1 u3 (by omega)) (by omega) (by decide)) (by omega) (by decide)).ext x6).ext x12) (by omega) (by decide)) (by kernel_rfl) ?_)
      obtain ⟨a5, ha5, hc5⟩ := ha 1 (by omega)
      refine Gx.cons (Gx.op_indexAddrO rfl (by kernel_rfl) rfl 25 5 (by kernel_rfl) (by kernel_rfl) a5 ha5 2 c2 (by kernel_rfl) .i64 1 (by kernel_rfl) (by omega) ?_)
      refine Gx.cons (Gx.op_loadAgg rfl (by kernel_rfl) rfl (by kernel_rfl) 5 (Gx.cells_ext hc5 (by decide) (Gx.Ext.wx hE ((((((((((((Gx.Wx.refl (e := 5) (wb := b) w hBw).ext x1).ext x2).ext x3).upd_new u1 (by omega)).upd_new u2 (by omega)).upd_new u3 (by omega)).trans x4).trans x5).ext x6).ext x12).trans x15) hw0B)) (by kernel_rfl) ?_)
      refine Gx.cons (Gx.op_call rfl (by kernel_rfl) (by kernel_rfl) (fun R hR => ihS 1 (by omega) B b s9 (0 : Int) _ R hbd9 (by omega) (Gx.Ext.wx hE ((((((((((((Gx.Wx.refl (e := 5) (wb := b) w hBw).ext x1).ext x2).ext x3).upd_new u1 (by omega)).upd_new u2 (by omega)).upd_new u3 (by omega)).trans x4).trans x5).ext x6).ext x12).trans x15) hw0B) hw0B (by decide) (by omega) (fun w19 s10 hs13 x16 hbd10 => hR _ _ ?_)))
      have zw19 := x16.size
      have zhs13 := congrArg ByteArray.size hs13; rw [ByteArray.size_append] at zhs13
      refine Gx.ops_nil ?_
      refine Gx.block_normal ?_
      refine Gx.retD1_n rfl (by kernel_rfl) ?_
      exact WriteByte_d B b s10 41 _ (fun e w' => (∃ v, e = .returned v) ∧ K (.returned (.tuple #[])) w') hbd10 (by omega) (by omega) (by omega) (fun w' s' hs14 x hb => ⟨⟨_, rfl⟩, hK _ _ (by rw [hs14, hs13, hs12, hs2, hs1, hin, show_6 hlen, harr]; all_goals (try simp only [app_assoc]); all_goals (try rfl)) (Gx.Wx.trans (((((((((((((Gx.Wx.refl (e := 5) (wb := b) w hBw).ext x1).ext x2).ext x3).upd_new u1 (by omega)).upd_new u2 (by omega)).upd_new u3 (by omega)).trans x4).trans x5).ext x6).ext x12).trans x15).trans x16) x) hb⟩)
    refine wp_skip ?_
    refine Gx.then_normal ?_
    refine wp_seq ?_
    refine Gx.seq_run [(123, .bool ((joinB ops).toList == (⟨#[]⟩ : ByteArray).toList)), (122, .string (joinB ops))] (by kernel_rfl) ?_
    refine Gx.cond ((joinB ops).toList == (⟨#[]⟩ : ByteArray).toList) (by kernel_rfl) (fun h_c123 => ?_) (fun h_c123 => ?_)
    · skip
      refine Gx.reg [0, 1] (by kernel_rfl) ?_
      refine Gx.pure [0] [1] [(124, .pointer (some ⟨b, 0, none⟩))] rfl (by kernel_rfl) ?_
      have p_c111 := h_c111; try simp [-List.getD_eq_getElem?_getD] at p_c111
      have p_c123 := h_c123; try simp [-List.getD_eq_getElem?_getD] at p_c123
      refine Gx.cons (Gx.op_call rfl (by kernel_rfl) (by kernel_rfl) (fun R hR => WriteString_c B b s2 (⟨#[32, 45, 62, 32]⟩ : ByteArray) _ R (hbd2.ext x6) (by omega) (by simp only [litz4]; omega) (fun w20 s11 hs15 x17 hbd11 => hR _ _ ?_)))
      have zw20 := x17.size
      have zhs15 := congrArg ByteArray.size hs15; simp only [ByteArray.size_append, litz4] at zhs15
      refine Gx.ops_nil ?_
      refine Gx.then_normal ?_
      have h123 := h_c123
      have harr : arrB (rowB (joinB ops) row) = (⟨#[32, 45, 62, 32]⟩ : ByteArray) := by unfold arrB rowB bS bR bL bE bArr; rw [if_neg (show ¬ row > 0 by simpa using h_c111)]; simp only [h123, Bool.not_true, Bool.not_false, Bool.false_eq_true, if_true, if_false]; (try simp only [app_assoc])
      have harrz := congrArg ByteArray.size harr; simp only [litz4] at harrz
      refine Gx.reg [0, 1, 2, 3, 4, 5] (by kernel_rfl) ?_
      refine Gx.pure [0, 1] [2, 3, 4, 5] [(132, .pointer (some ⟨k1, 4, none⟩)), (131, .pointer (some ⟨b, 0, none⟩))] rfl (by kernel_rfl) ?_
      refine Gx.cons (Gx.op_load rfl (by kernel_rfl) rfl 4 (.slice A2 2 c2) (by kernel_rfl) (x17.has ((x5.has (x4.has (((((b1.ext x2).ext x3).upd1 u1 (by omega)).upd1 u2 (by omega)).upd1 u3 (by omega)) (by omega) (by decide)) (by omega) (by decide)).ext x6) (by omega) (by decide)) (by kernel_rfl) ?_)
      obtain ⟨a6, ha6, hc6⟩ := ha 1 (by omega)
      refine Gx.cons (Gx.op_indexAddrO rfl (by kernel_rfl) rfl 25 5 (by kernel_rfl) (by kernel_rfl) a6 ha6 2 c2 (by kernel_rfl) .i64 1 (by kernel_rfl) (by omega) ?_)
      refine Gx.cons (Gx.op_loadAgg rfl (by kernel_rfl) rfl (by kernel_rfl) 5 (Gx.cells_ext hc6 (by decide) (Gx.Ext.wx hE (((((((((((Gx.Wx.refl (e := 5) (wb := b) w hBw).ext x1).ext x2).ext x3).upd_new u1 (by omega)).upd_new u2 (by omega)).upd_new u3 (by omega)).trans x4).trans x5).ext x6).trans x17) hw0B)) (by kernel_rfl) ?_)
      refine Gx.cons (Gx.op_call rfl (by kernel_rfl) (by kernel_rfl) (fun R hR => ihS 1 (by omega) B b s11 (0 : Int) _ R hbd11 (by omega) (Gx.Ext.wx hE (((((((((((Gx.Wx.refl (e := 5) (wb := b) w hBw).ext x1).ext x2).ext x3).upd_new u1 (by omega)).upd_new u2 (by omega)).upd_new u3 (by omega)).trans x4).trans x5).ext x6).trans x17) hw0B) hw0B (by decide) (by omega) (fun w21 s12 hs16 x18 hbd12 => hR _ _ ?_)))
      have zw21 := x18.size
      have zhs16 := congrArg ByteArray.size hs16; rw [ByteArray.size_append] at zhs16
      refine Gx.ops_nil ?_
      refine Gx.block_normal ?_
      refine Gx.retD1_n rfl (by kernel_rfl) ?_
      exact WriteByte_d B b s12 41 _ (fun e w' => (∃ v, e = .returned v) ∧ K (.returned (.tuple #[])) w') hbd12 (by omega) (by omega) (by omega) (fun w' s' hs17 x hb => ⟨⟨_, rfl⟩, hK _ _ (by rw [hs17, hs16, hs15, hs2, hs1, hin, show_6 hlen, harr]; all_goals (try simp only [app_assoc]); all_goals (try rfl)) (Gx.Wx.trans ((((((((((((Gx.Wx.refl (e := 5) (wb := b) w hBw).ext x1).ext x2).ext x3).upd_new u1 (by omega)).upd_new u2 (by omega)).upd_new u3 (by omega)).trans x4).trans x5).ext x6).trans x17).trans x18) x) hb⟩)
    refine Gx.reg [0, 1, 2, 3, 4] (by kernel_rfl) ?_
    refine Gx.pure [0, 1] [2, 3, 4] [(127, .string (joinB ops)), (126, .pointer (some ⟨b, 0, none⟩))] rfl (by kernel_rfl) ?_
    have p_c111 := h_c111; try simp [-List.getD_eq_getElem?_getD] at p_c111
    have p_c123 := h_c123; try simp [-List.getD_eq_getElem?_getD] at p_c123
    refine Gx.cons (Gx.op_concat rfl (by kernel_rfl) rfl (⟨#[32, 45, 123]⟩ : ByteArray) (joinB ops) (by kernel_rfl) (by kernel_rfl) (by simp only [litz3]; omega) ?_)
    refine Gx.cons (Gx.op_concat rfl (by kernel_rfl) rfl ((⟨#[32, 45, 123]⟩ : ByteArray) ++ (joinB ops)) (⟨#[125, 45, 62, 32]⟩ : ByteArray) (by kernel_rfl) (by kernel_rfl) (by simp only [ByteArray.size_append, litz3, litz4]; omega) ?_)
    refine Gx.cons (Gx.op_call rfl (by kernel_rfl) (by kernel_rfl) (fun R hR => WriteString_c B b s2 (((⟨#[32, 45, 123]⟩ : ByteArray) ++ (joinB ops)) ++ (⟨#[125, 45, 62, 32]⟩ : ByteArray)) _ R (hbd2.ext x6) (by omega) (by simp only [ByteArray.size_append, litz3, litz4]; omega) (fun w22 s13 hs18 x19 hbd13 => hR _ _ ?_)))
    have zw22 := x19.size
    have zhs18 := congrArg ByteArray.size hs18; simp only [ByteArray.size_append, litz3, litz4] at zhs18
    refine Gx.ops_nil ?_
    refine Gx.then_normal ?_
    have h123 := h_c123
    have harr : arrB (rowB (joinB ops) row) = (((⟨#[32, 45, 123]⟩ : ByteArray) ++ (joinB ops)) ++ (⟨#[125, 45, 62, 32]⟩ : ByteArray)) := by unfold arrB rowB bS bR bL bE bArr; rw [if_neg (show ¬ row > 0 by simpa using h_c111)]; simp only [h123, Bool.not_true, Bool.not_false, Bool.false_eq_true, if_true, if_false]; (try simp only [app_assoc])
    have harrz := congrArg ByteArray.size harr; simp only [ByteArray.size_append, litz3, litz4] at harrz
    refine Gx.reg [0, 1, 2, 3, 4, 5] (by kernel_rfl) ?_
    refine Gx.pure [0, 1] [2, 3, 4, 5] [(132, .pointer (some ⟨k1, 4, none⟩)), (131, .pointer (some ⟨b, 0, none⟩))] rfl (by kernel_rfl) ?_
    refine Gx.cons (Gx.op_load rfl (by kernel_rfl) rfl 4 (.slice A2 2 c2) (by kernel_rfl) (x19.has ((x5.has (x4.has (((((b1.ext x2).ext x3).upd1 u1 (by omega)).upd1 u2 (by omega)).upd1 u3 (by omega)) (by omega) (by decide)) (by omega) (by decide)).ext x6) (by omega) (by decide)) (by kernel_rfl) ?_)
    obtain ⟨a7, ha7, hc7⟩ := ha 1 (by omega)
    refine Gx.cons (Gx.op_indexAddrO rfl (by kernel_rfl) rfl 25 5 (by kernel_rfl) (by kernel_rfl) a7 ha7 2 c2 (by kernel_rfl) .i64 1 (by kernel_rfl) (by omega) ?_)
    refine Gx.cons (Gx.op_loadAgg rfl (by kernel_rfl) rfl (by kernel_rfl) 5 (Gx.cells_ext hc7 (by decide) (Gx.Ext.wx hE (((((((((((Gx.Wx.refl (e := 5) (wb := b) w hBw).ext x1).ext x2).ext x3).upd_new u1 (by omega)).upd_new u2 (by omega)).upd_new u3 (by omega)).trans x4).trans x5).ext x6).trans x19) hw0B)) (by kernel_rfl) ?_)
    refine Gx.cons (Gx.op_call rfl (by kernel_rfl) (by kernel_rfl) (fun R hR => ihS 1 (by omega) B b s13 (0 : Int) _ R hbd13 (by omega) (Gx.Ext.wx hE (((((((((((Gx.Wx.refl (e := 5) (wb := b) w hBw).ext x1).ext x2).ext x3).upd_new u1 (by omega)).upd_new u2 (by omega)).upd_new u3 (by omega)).trans x4).trans x5).ext x6).trans x19) hw0B) hw0B (by decide) (by omega) (fun w23 s14 hs19 x20 hbd14 => hR _ _ ?_)))
    have zw23 := x20.size
    have zhs19 := congrArg ByteArray.size hs19; rw [ByteArray.size_append] at zhs19
    refine Gx.ops_nil ?_
    refine Gx.block_normal ?_
    refine Gx.retD1_n rfl (by kernel_rfl) ?_
    exact WriteByte_d B b s14 41 _ (fun e w' => (∃ v, e = .returned v) ∧ K (.returned (.tuple #[])) w') hbd14 (by omega) (by omega) (by omega) (fun w' s' hs20 x hb => ⟨⟨_, rfl⟩, hK _ _ (by rw [hs20, hs19, hs18, hs2, hs1, hin, show_6 hlen, harr]; all_goals (try simp only [app_assoc]); all_goals (try rfl)) (Gx.Wx.trans ((((((((((((Gx.Wx.refl (e := 5) (wb := b) w hBw).ext x1).ext x2).ext x3).upd_new u1 (by omega)).upd_new u2 (by omega)).upd_new u3 (by omega)).trans x4).trans x5).ext x6).trans x19).trans x20) x) hb⟩)
  have p_c31 := h_c31; try simp [-List.getD_eq_getElem?_getD] at p_c31
  have hin := in_no (n := n) (row := row) (ops := ops) (args := args) (show ¬ lvl 6 < least by show ¬ (0 : Int) < least; simpa using h_c31)
  have hinz := congrArg ByteArray.size hin
  refine wp_skip ?_
  refine Gx.then_normal ?_
  refine Gx.seq_reg [0, 1] (by kernel_rfl) ?_
  refine Gx.pure [0] [1] [(35, .pointer (some ⟨k1, 0, none⟩))] rfl (by kernel_rfl) ?_
  refine Gx.cons (Gx.op_load rfl (by kernel_rfl) rfl 0 (.int .i64 6) (by kernel_rfl) (((((b1.ext x2).ext x3).upd1 u1 (by omega)).upd1 u2 (by omega)).upd1 u3 (by omega)) (by kernel_rfl) ?_)
  refine Gx.ops_end ?_
  refine wp_block ?_
  refine Gx.seq_run [(37, .bool false), (38, .bool false)] (by kernel_rfl) ?_
  refine Gx.cond_f (by kernel_rfl) ?_
  refine Gx.seq_run [(60, .bool false), (61, .bool false)] (by kernel_rfl) ?_
  refine Gx.cond_f (by kernel_rfl) ?_
  refine Gx.seq_run [(64, .bool false), (65, .bool false)] (by kernel_rfl) ?_
  refine Gx.cond_f (by kernel_rfl) ?_
  refine Gx.seq_run [(68, .bool false), (69, .bool false)] (by kernel_rfl) ?_
  refine Gx.cond_f (by kernel_rfl) ?_
  refine Gx.seq_run [(72, .bool false), (73, .bool false)] (by kernel_rfl) ?_
  refine Gx.cond_f (by kernel_rfl) ?_
  refine Gx.seq_run [(82, .bool false), (83, .bool false)] (by kernel_rfl) ?_
  refine Gx.cond_f (by kernel_rfl) ?_
  refine Gx.seq_run [(98, .bool true), (99, .bool true)] (by kernel_rfl) ?_
  refine Gx.cond_t (by kernel_rfl) ?_
  refine Gx.seq_reg [0, 1, 2, 3, 4, 5] (by kernel_rfl) ?_
  refine Gx.pure [0, 1] [2, 3, 4, 5] [(101, .pointer (some ⟨k1, 4, none⟩)), (100, .pointer (some ⟨b, 0, none⟩))] rfl (by kernel_rfl) ?_
  refine Gx.cons (Gx.op_load rfl (by kernel_rfl) rfl 4 (.slice A2 2 c2) (by kernel_rfl) (((((b1.ext x2).ext x3).upd1 u1 (by omega)).upd1 u2 (by omega)).upd1 u3 (by omega)) (by kernel_rfl) ?_)
  obtain ⟨a8, ha8, hc8⟩ := ha 0 (by omega)
  refine Gx.cons (Gx.op_indexAddrO rfl (by kernel_rfl) rfl 25 5 (by kernel_rfl) (by kernel_rfl) a8 ha8 2 c2 (by kernel_rfl) .i64 0 (by kernel_rfl) (by omega) ?_)
  refine Gx.cons (Gx.op_loadAgg rfl (by kernel_rfl) rfl (by kernel_rfl) 5 (Gx.cells_ext hc8 (by decide) (Gx.Ext.wx hE (((((((Gx.Wx.refl (e := 5) (wb := b) w hBw).ext x1).ext x2).ext x3).upd_new u1 (by omega)).upd_new u2 (by omega)).upd_new u3 (by omega)) hw0B)) (by kernel_rfl) ?_)
  refine Gx.cons (Gx.op_call rfl (by kernel_rfl) (by kernel_rfl) (fun R hR => ihS 0 (by omega) B b s (1 : Int) _ R ((((((hbd.ext x1).ext x2).ext x3).updO u1 b2 (fun _ _ q => by cases q) (by omega)).updO u2 b3 (fun _ _ q => by cases q) (by omega)).updO u3 b4 (fun _ _ q => by cases q) (by omega)) (by omega) (Gx.Ext.wx hE (((((((Gx.Wx.refl (e := 5) (wb := b) w hBw).ext x1).ext x2).ext x3).upd_new u1 (by omega)).upd_new u2 (by omega)).upd_new u3 (by omega)) hw0B) hw0B (by decide) (by omega) (fun w24 s15 hs21 x21 hbd15 => hR _ _ ?_)))
  have zw24 := x21.size
  have zhs21 := congrArg ByteArray.size hs21; rw [ByteArray.size_append] at zhs21
  refine Gx.ops_end ?_
  refine Gx.seq_reg [0, 1, 2, 3] (by kernel_rfl) ?_
  refine Gx.pure [0] [1, 2, 3] [(106, .pointer (some ⟨k1, 3, none⟩))] rfl (by kernel_rfl) ?_
  refine Gx.cons (Gx.op_load rfl (by kernel_rfl) rfl 3 (.slice A1 ops.length c1) (by kernel_rfl) (x21.has (((((b1.ext x2).ext x3).upd1 u1 (by omega)).upd1 u2 (by omega)).upd1 u3 (by omega)) (by omega) (by decide)) (by kernel_rfl) ?_)
  refine Gx.cons (Gx.op_call rfl (by kernel_rfl) (by kernel_rfl) (fun R hR => join_c A1 ops c1  _ R (Gx.Rd.ext ho (by decide) (Gx.Ext.wx hE ((((((((Gx.Wx.refl (e := 5) (wb := b) w hBw).ext x1).ext x2).ext x3).upd_new u1 (by omega)).upd_new u2 (by omega)).upd_new u3 (by omega)).trans x21) hw0B)) hcap hl (by omega) (fun w25 x22  => hR _ _ ?_)))
  have zw25 := x22.size
  refine Gx.pure [3] [] [(9, .string (joinB ops))] rfl (by kernel_rfl) ?_
  refine Gx.ops_end ?_
  refine wp_seq ?_
  refine Gx.seq_reg [0, 1, 2] (by kernel_rfl) ?_
  refine Gx.pure [0] [1, 2] [(109, .pointer (some ⟨k1, 2, none⟩))] rfl (by kernel_rfl) ?_
  refine Gx.cons (Gx.op_load rfl (by kernel_rfl) rfl 2 (.int .i64 row) (by kernel_rfl) ((x21.has (((((b1.ext x2).ext x3).upd1 u1 (by omega)).upd1 u2 (by omega)).upd1 u3 (by omega)) (by omega) (by decide)).ext x22) (by kernel_rfl) ?_)
  refine Gx.pure [2] [] [(111, .bool (decide (row > (0 : Int))))] rfl (by kernel_rfl) ?_
  refine Gx.ops_end ?_
  refine Gx.cond (decide (row > (0 : Int))) (by kernel_rfl) (fun h_c111 => ?_) (fun h_c111 => ?_)
  · skip
    refine wp_seq ?_
    refine Gx.seq_run [(113, .bool (!((joinB ops).toList == (⟨#[]⟩ : ByteArray).toList))), (112, .string (joinB ops))] (by kernel_rfl) ?_
    refine Gx.cond (!((joinB ops).toList == (⟨#[]⟩ : ByteArray).toList)) (by kernel_rfl) (fun h_c113 => ?_) (fun h_c113 => ?_)
    · skip
      refine Gx.reg [0, 1, 2] (by kernel_rfl) ?_
      refine Gx.pure [0] [1, 2] [(114, .string (joinB ops))] rfl (by kernel_rfl) ?_
      have p_c111 := h_c111; try simp [-List.getD_eq_getElem?_getD] at p_c111
      have p_c113 := h_c113; try simp [-List.getD_eq_getElem?_getD] at p_c113
      refine Gx.cons (Gx.op_concat rfl (by kernel_rfl) rfl (joinB ops) (⟨#[32]⟩ : ByteArray) (by kernel_rfl) (by kernel_rfl) (by simp only [litz1]; omega) ?_)
      refine Gx.pure [2] [] [(9, .string ((joinB ops) ++ (⟨#[32]⟩ : ByteArray)))] rfl (by kernel_rfl) ?_
      refine Gx.ops_nil ?_
      refine Gx.then_normal ?_
      refine Gx.reg [0, 1, 2, 3, 4, 5, 6] (by kernel_rfl) ?_
      refine Gx.pure [0, 1] [2, 3, 4, 5, 6] [(117, .pointer (some ⟨k1, 2, none⟩)), (116, .string ((joinB ops) ++ (⟨#[32]⟩ : ByteArray)))] rfl (by kernel_rfl) ?_
      refine Gx.cons (Gx.op_load rfl (by kernel_rfl) rfl 2 (.int .i64 row) (by kernel_rfl) ((x21.has (((((b1.ext x2).ext x3).upd1 u1 (by omega)).upd1 u2 (by omega)).upd1 u3 (by omega)) (by omega) (by decide)).ext x22) (by kernel_rfl) ?_)
      refine Gx.cons (Gx.op_call rfl (by kernel_rfl) (by kernel_rfl) (fun R hR => itoa_c row _ R (by omega) (by unfold I64 at *; omega) (htab _ (Gx.Ext.below (Gx.Ext.wx hE (((((((((Gx.Wx.refl (e := 5) (wb := b) w hBw).ext x1).ext x2).ext x3).upd_new u1 (by omega)).upd_new u2 (by omega)).upd_new u3 (by omega)).trans x21).ext x22) hw0B))) (fun w26 x23  => hR _ _ ?_)))
      have zw26 := x23.size
      refine Gx.cons (Gx.op_concat rfl (by kernel_rfl) rfl (⟨#[124, 32, 114]⟩ : ByteArray) (digB row.toNat) (by kernel_rfl) (by kernel_rfl) (by simp only [litz3]; omega) ?_)
      refine Gx.cons (Gx.op_concat rfl (by kernel_rfl) rfl ((joinB ops) ++ (⟨#[32]⟩ : ByteArray)) ((⟨#[124, 32, 114]⟩ : ByteArray) ++ (digB row.toNat)) (by kernel_rfl) (by kernel_rfl) (by simp only [ByteArray.size_append, litz1, litz3]; omega) ?_)
      refine Gx.pure [6] [] [(9, .string (((joinB ops) ++ (⟨#[32]⟩ : ByteArray)) ++ ((⟨#[124, 32, 114]⟩ : ByteArray) ++ (digB row.toNat))))] rfl (by kernel_rfl) ?_
      refine Gx.ops_nil ?_
      refine Gx.then_normal ?_
      refine wp_seq ?_
      refine Gx.seq_run [(123, .bool ((((joinB ops) ++ (⟨#[32]⟩ : ByteArray)) ++ ((⟨#[124, 32, 114]⟩ : ByteArray) ++ (digB row.toNat))).toList == (⟨#[]⟩ : ByteArray).toList)), (122, .string (((joinB ops) ++ (⟨#[32]⟩ : ByteArray)) ++ ((⟨#[124, 32, 114]⟩ : ByteArray) ++ (digB row.toNat))))] (by kernel_rfl) ?_
      refine Gx.cond ((((joinB ops) ++ (⟨#[32]⟩ : ByteArray)) ++ ((⟨#[124, 32, 114]⟩ : ByteArray) ++ (digB row.toNat))).toList == (⟨#[]⟩ : ByteArray).toList) (by kernel_rfl) (fun h_c123 => ?_) (fun h_c123 => ?_)
      · skip
        refine Gx.reg [0, 1] (by kernel_rfl) ?_
        refine Gx.pure [0] [1] [(124, .pointer (some ⟨b, 0, none⟩))] rfl (by kernel_rfl) ?_
        have p_c123 := h_c123; try simp [-List.getD_eq_getElem?_getD] at p_c123
        refine Gx.cons (Gx.op_call rfl (by kernel_rfl) (by kernel_rfl) (fun R hR => WriteString_c B b s15 (⟨#[32, 45, 62, 32]⟩ : ByteArray) _ R ((hbd15.ext x22).ext x23) (by omega) (by simp only [litz4]; omega) (fun w27 s16 hs22 x24 hbd16 => hR _ _ ?_)))
        have zw27 := x24.size
        have zhs22 := congrArg ByteArray.size hs22; simp only [ByteArray.size_append, litz4] at zhs22
        refine Gx.ops_nil ?_
        refine Gx.then_normal ?_
        have h123 := h_c123
        rw [← app_assoc] at h123
        have harr : arrB (rowB (joinB ops) row) = (⟨#[32, 45, 62, 32]⟩ : ByteArray) := by unfold arrB rowB bS bR bL bE bArr; rw [if_pos (show row > 0 by simpa using h_c111)]; simp only [h_c113, h123, Bool.not_true, Bool.not_false, Bool.false_eq_true, if_true, if_false]; (try simp only [app_assoc])
        have harrz := congrArg ByteArray.size harr; simp only [litz4] at harrz
        refine Gx.reg [0, 1, 2, 3, 4, 5] (by kernel_rfl) ?_
        refine Gx.pure [0, 1] [2, 3, 4, 5] [(132, .pointer (some ⟨k1, 4, none⟩)), (131, .pointer (some ⟨b, 0, none⟩))] rfl (by kernel_rfl) ?_
        refine Gx.cons (Gx.op_load rfl (by kernel_rfl) rfl 4 (.slice A2 2 c2) (by kernel_rfl) (x24.has (((x21.has (((((b1.ext x2).ext x3).upd1 u1 (by omega)).upd1 u2 (by omega)).upd1 u3 (by omega)) (by omega) (by decide)).ext x22).ext x23) (by omega) (by decide)) (by kernel_rfl) ?_)
        obtain ⟨a9, ha9, hc9⟩ := ha 1 (by omega)
        refine Gx.cons (Gx.op_indexAddrO rfl (by kernel_rfl) rfl 25 5 (by kernel_rfl) (by kernel_rfl) a9 ha9 2 c2 (by kernel_rfl) .i64 1 (by kernel_rfl) (by omega) ?_)
        refine Gx.cons (Gx.op_loadAgg rfl (by kernel_rfl) rfl (by kernel_rfl) 5 (Gx.cells_ext hc9 (by decide) (Gx.Ext.wx hE (((((((((((Gx.Wx.refl (e := 5) (wb := b) w hBw).ext x1).ext x2).ext x3).upd_new u1 (by omega)).upd_new u2 (by omega)).upd_new u3 (by omega)).trans x21).ext x22).ext x23).trans x24) hw0B)) (by kernel_rfl) ?_)
        refine Gx.cons (Gx.op_call rfl (by kernel_rfl) (by kernel_rfl) (fun R hR => ihS 1 (by omega) B b s16 (0 : Int) _ R hbd16 (by omega) (Gx.Ext.wx hE (((((((((((Gx.Wx.refl (e := 5) (wb := b) w hBw).ext x1).ext x2).ext x3).upd_new u1 (by omega)).upd_new u2 (by omega)).upd_new u3 (by omega)).trans x21).ext x22).ext x23).trans x24) hw0B) hw0B (by decide) (by omega) (fun w28 s17 hs23 x25 hbd17 => hR _ _ ?_)))
        have zw28 := x25.size
        have zhs23 := congrArg ByteArray.size hs23; rw [ByteArray.size_append] at zhs23
        refine Gx.ops_nil ?_
        refine Gx.block_normal ?_
        refine Gx.retD_n (Gx.res0 rfl) ?_
        exact hK _ s17 (by rw [hs23, hs22, hs21, hin, show_6 hlen, harr]; all_goals (try simp only [app_assoc]); all_goals (try rfl)) ((((((((((((Gx.Wx.refl (e := 5) (wb := b) w hBw).ext x1).ext x2).ext x3).upd_new u1 (by omega)).upd_new u2 (by omega)).upd_new u3 (by omega)).trans x21).ext x22).ext x23).trans x24).trans x25) hbd17
      refine Gx.reg [0, 1, 2, 3, 4] (by kernel_rfl) ?_
      refine Gx.pure [0, 1] [2, 3, 4] [(127, .string (((joinB ops) ++ (⟨#[32]⟩ : ByteArray)) ++ ((⟨#[124, 32, 114]⟩ : ByteArray) ++ (digB row.toNat)))), (126, .pointer (some ⟨b, 0, none⟩))] rfl (by kernel_rfl) ?_
      have p_c123 := h_c123; try simp [-List.getD_eq_getElem?_getD] at p_c123
      refine Gx.cons (Gx.op_concat rfl (by kernel_rfl) rfl (⟨#[32, 45, 123]⟩ : ByteArray) (((joinB ops) ++ (⟨#[32]⟩ : ByteArray)) ++ ((⟨#[124, 32, 114]⟩ : ByteArray) ++ (digB row.toNat))) (by kernel_rfl) (by kernel_rfl) (by simp only [ByteArray.size_append, litz1, litz3]; omega) ?_)
      refine Gx.cons (Gx.op_concat rfl (by kernel_rfl) rfl ((⟨#[32, 45, 123]⟩ : ByteArray) ++ (((joinB ops) ++ (⟨#[32]⟩ : ByteArray)) ++ ((⟨#[124, 32, 114]⟩ : ByteArray) ++ (digB row.toNat)))) (⟨#[125, 45, 62, 32]⟩ : ByteArray) (by kernel_rfl) (by kernel_rfl) (by simp only [ByteArray.size_append, litz1, litz3, litz4]; omega) ?_)
      refine Gx.cons (Gx.op_call rfl (by kernel_rfl) (by kernel_rfl) (fun R hR => WriteString_c B b s15 (((⟨#[32, 45, 123]⟩ : ByteArray) ++ (((joinB ops) ++ (⟨#[32]⟩ : ByteArray)) ++ ((⟨#[124, 32, 114]⟩ : ByteArray) ++ (digB row.toNat)))) ++ (⟨#[125, 45, 62, 32]⟩ : ByteArray)) _ R ((hbd15.ext x22).ext x23) (by omega) (by simp only [ByteArray.size_append, litz1, litz3, litz4]; omega) (fun w29 s18 hs24 x26 hbd18 => hR _ _ ?_)))
      have zw29 := x26.size
      have zhs24 := congrArg ByteArray.size hs24; simp only [ByteArray.size_append, litz1, litz3, litz4] at zhs24
      refine Gx.ops_nil ?_
      refine Gx.then_normal ?_
      have h123 := h_c123
      rw [← app_assoc] at h123
      have harr : arrB (rowB (joinB ops) row) = (((⟨#[32, 45, 123]⟩ : ByteArray) ++ (((joinB ops) ++ (⟨#[32]⟩ : ByteArray)) ++ ((⟨#[124, 32, 114]⟩ : ByteArray) ++ (digB row.toNat)))) ++ (⟨#[125, 45, 62, 32]⟩ : ByteArray)) := by unfold arrB rowB bS bR bL bE bArr; rw [if_pos (show row > 0 by simpa using h_c111)]; simp only [h_c113, h123, Bool.not_true, Bool.not_false, Bool.false_eq_true, if_true, if_false]; (try simp only [app_assoc])
      have harrz := congrArg ByteArray.size harr; simp only [ByteArray.size_append, litz1, litz3, litz4] at harrz
      refine Gx.reg [0, 1, 2, 3, 4, 5] (by kernel_rfl) ?_
      refine Gx.pure [0, 1] [2, 3, 4, 5] [(132, .pointer (some ⟨k1, 4, none⟩)), (131, .pointer (some ⟨b, 0, none⟩))] rfl (by kernel_rfl) ?_
      refine Gx.cons (Gx.op_load rfl (by kernel_rfl) rfl 4 (.slice A2 2 c2) (by kernel_rfl) (x26.has (((x21.has (((((b1.ext x2).ext x3).upd1 u1 (by omega)).upd1 u2 (by omega)).upd1 u3 (by omega)) (by omega) (by decide)).ext x22).ext x23) (by omega) (by decide)) (by kernel_rfl) ?_)
      obtain ⟨a10, ha10, hc10⟩ := ha 1 (by omega)
      refine Gx.cons (Gx.op_indexAddrO rfl (by kernel_rfl) rfl 25 5 (by kernel_rfl) (by kernel_rfl) a10 ha10 2 c2 (by kernel_rfl) .i64 1 (by kernel_rfl) (by omega) ?_)
      refine Gx.cons (Gx.op_loadAgg rfl (by kernel_rfl) rfl (by kernel_rfl) 5 (Gx.cells_ext hc10 (by decide) (Gx.Ext.wx hE (((((((((((Gx.Wx.refl (e := 5) (wb := b) w hBw).ext x1).ext x2).ext x3).upd_new u1 (by omega)).upd_new u2 (by omega)).upd_new u3 (by omega)).trans x21).ext x22).ext x23).trans x26) hw0B)) (by kernel_rfl) ?_)
      refine Gx.cons (Gx.op_call rfl (by kernel_rfl) (by kernel_rfl) (fun R hR => ihS 1 (by omega) B b s18 (0 : Int) _ R hbd18 (by omega) (Gx.Ext.wx hE (((((((((((Gx.Wx.refl (e := 5) (wb := b) w hBw).ext x1).ext x2).ext x3).upd_new u1 (by omega)).upd_new u2 (by omega)).upd_new u3 (by omega)).trans x21).ext x22).ext x23).trans x26) hw0B) hw0B (by decide) (by omega) (fun w30 s19 hs25 x27 hbd19 => hR _ _ ?_)))
      have zw30 := x27.size
      have zhs25 := congrArg ByteArray.size hs25; rw [ByteArray.size_append] at zhs25
      refine Gx.ops_nil ?_
      refine Gx.block_normal ?_
      refine Gx.retD_n (Gx.res0 rfl) ?_
      exact hK _ s19 (by rw [hs25, hs24, hs21, hin, show_6 hlen, harr]; all_goals (try simp only [app_assoc]); all_goals (try rfl)) ((((((((((((Gx.Wx.refl (e := 5) (wb := b) w hBw).ext x1).ext x2).ext x3).upd_new u1 (by omega)).upd_new u2 (by omega)).upd_new u3 (by omega)).trans x21).ext x22).ext x23).trans x26).trans x27) hbd19
    refine wp_skip ?_
    refine Gx.then_normal ?_
    refine Gx.reg [0, 1, 2, 3, 4, 5, 6] (by kernel_rfl) ?_
    refine Gx.pure [0, 1] [2, 3, 4, 5, 6] [(117, .pointer (some ⟨k1, 2, none⟩)), (116, .string (joinB ops))] rfl (by kernel_rfl) ?_
    have p_c111 := h_c111; try simp [-List.getD_eq_getElem?_getD] at p_c111
    have p_c113 := h_c113; try simp [-List.getD_eq_getElem?_getD] at p_c113
    refine Gx.cons (Gx.op_load rfl (by kernel_rfl) rfl 2 (.int .i64 row) (by kernel_rfl) ((x21.has (((((b1.ext x2).ext x3).upd1 u1 (by omega)).upd1 u2 (by omega)).upd1 u3 (by omega)) (by omega) (by decide)).ext x22) (by kernel_rfl) ?_)
    refine Gx.cons (Gx.op_call rfl (by kernel_rfl) (by kernel_rfl) (fun R hR => itoa_c row _ R (by omega) (by unfold I64 at *; omega) (htab _ (Gx.Ext.below (Gx.Ext.wx hE (((((((((Gx.Wx.refl (e := 5) (wb := b) w hBw).ext x1).ext x2).ext x3).upd_new u1 (by omega)).upd_new u2 (by omega)).upd_new u3 (by omega)).trans x21).ext x22) hw0B))) (fun w31 x28  => hR _ _ ?_)))
    have zw31 := x28.size
    refine Gx.cons (Gx.op_concat rfl (by kernel_rfl) rfl (⟨#[124, 32, 114]⟩ : ByteArray) (digB row.toNat) (by kernel_rfl) (by kernel_rfl) (by simp only [litz3]; omega) ?_)
    refine Gx.cons (Gx.op_concat rfl (by kernel_rfl) rfl (joinB ops) ((⟨#[124, 32, 114]⟩ : ByteArray) ++ (digB row.toNat)) (by kernel_rfl) (by kernel_rfl) (by simp only [ByteArray.size_append, litz3]; omega) ?_)
    refine Gx.pure [6] [] [(9, .string ((joinB ops) ++ ((⟨#[124, 32, 114]⟩ : ByteArray) ++ (digB row.toNat))))] rfl (by kernel_rfl) ?_
    refine Gx.ops_nil ?_
    refine Gx.then_normal ?_
    refine wp_seq ?_
    refine Gx.seq_run [(123, .bool (((joinB ops) ++ ((⟨#[124, 32, 114]⟩ : ByteArray) ++ (digB row.toNat))).toList == (⟨#[]⟩ : ByteArray).toList)), (122, .string ((joinB ops) ++ ((⟨#[124, 32, 114]⟩ : ByteArray) ++ (digB row.toNat))))] (by kernel_rfl) ?_
    refine Gx.cond (((joinB ops) ++ ((⟨#[124, 32, 114]⟩ : ByteArray) ++ (digB row.toNat))).toList == (⟨#[]⟩ : ByteArray).toList) (by kernel_rfl) (fun h_c123 => ?_) (fun h_c123 => ?_)
    · skip
      refine Gx.reg [0, 1] (by kernel_rfl) ?_
      refine Gx.pure [0] [1] [(124, .pointer (some ⟨b, 0, none⟩))] rfl (by kernel_rfl) ?_
      have p_c123 := h_c123; try simp [-List.getD_eq_getElem?_getD] at p_c123
      refine Gx.cons (Gx.op_call rfl (by kernel_rfl) (by kernel_rfl) (fun R hR => WriteString_c B b s15 (⟨#[32, 45, 62, 32]⟩ : ByteArray) _ R ((hbd15.ext x22).ext x28) (by omega) (by simp only [litz4]; omega) (fun w32 s20 hs26 x29 hbd20 => hR _ _ ?_)))
      have zw32 := x29.size
      have zhs26 := congrArg ByteArray.size hs26; simp only [ByteArray.size_append, litz4] at zhs26
      refine Gx.ops_nil ?_
      refine Gx.then_normal ?_
      have h123 := h_c123
      rw [← app_assoc] at h123
      have harr : arrB (rowB (joinB ops) row) = (⟨#[32, 45, 62, 32]⟩ : ByteArray) := by unfold arrB rowB bS bR bL bE bArr; rw [if_pos (show row > 0 by simpa using h_c111)]; simp only [h_c113, h123, Bool.not_true, Bool.not_false, Bool.false_eq_true, if_true, if_false]; (try simp only [app_assoc])
      have harrz := congrArg ByteArray.size harr; simp only [litz4] at harrz
      refine Gx.reg [0, 1, 2, 3, 4, 5] (by kernel_rfl) ?_
      refine Gx.pure [0, 1] [2, 3, 4, 5] [(132, .pointer (some ⟨k1, 4, none⟩)), (131, .pointer (some ⟨b, 0, none⟩))] rfl (by kernel_rfl) ?_
      refine Gx.cons (Gx.op_load rfl (by kernel_rfl) rfl 4 (.slice A2 2 c2) (by kernel_rfl) (x29.has (((x21.has (((((b1.ext x2).ext x3).upd1 u1 (by omega)).upd1 u2 (by omega)).upd1 u3 (by omega)) (by omega) (by decide)).ext x22).ext x28) (by omega) (by decide)) (by kernel_rfl) ?_)
      obtain ⟨a11, ha11, hc11⟩ := ha 1 (by omega)
      refine Gx.cons (Gx.op_indexAddrO rfl (by kernel_rfl) rfl 25 5 (by kernel_rfl) (by kernel_rfl) a11 ha11 2 c2 (by kernel_rfl) .i64 1 (by kernel_rfl) (by omega) ?_)
      refine Gx.cons (Gx.op_loadAgg rfl (by kernel_rfl) rfl (by kernel_rfl) 5 (Gx.cells_ext hc11 (by decide) (Gx.Ext.wx hE (((((((((((Gx.Wx.refl (e := 5) (wb := b) w hBw).ext x1).ext x2).ext x3).upd_new u1 (by omega)).upd_new u2 (by omega)).upd_new u3 (by omega)).trans x21).ext x22).ext x28).trans x29) hw0B)) (by kernel_rfl) ?_)
      refine Gx.cons (Gx.op_call rfl (by kernel_rfl) (by kernel_rfl) (fun R hR => ihS 1 (by omega) B b s20 (0 : Int) _ R hbd20 (by omega) (Gx.Ext.wx hE (((((((((((Gx.Wx.refl (e := 5) (wb := b) w hBw).ext x1).ext x2).ext x3).upd_new u1 (by omega)).upd_new u2 (by omega)).upd_new u3 (by omega)).trans x21).ext x22).ext x28).trans x29) hw0B) hw0B (by decide) (by omega) (fun w33 s21 hs27 x30 hbd21 => hR _ _ ?_)))
      have zw33 := x30.size
      have zhs27 := congrArg ByteArray.size hs27; rw [ByteArray.size_append] at zhs27
      refine Gx.ops_nil ?_
      refine Gx.block_normal ?_
      refine Gx.retD_n (Gx.res0 rfl) ?_
      exact hK _ s21 (by rw [hs27, hs26, hs21, hin, show_6 hlen, harr]; all_goals (try simp only [app_assoc]); all_goals (try rfl)) ((((((((((((Gx.Wx.refl (e := 5) (wb := b) w hBw).ext x1).ext x2).ext x3).upd_new u1 (by omega)).upd_new u2 (by omega)).upd_new u3 (by omega)).trans x21).ext x22).ext x28).trans x29).trans x30) hbd21
    refine Gx.reg [0, 1, 2, 3, 4] (by kernel_rfl) ?_
    refine Gx.pure [0, 1] [2, 3, 4] [(127, .string ((joinB ops) ++ ((⟨#[124, 32, 114]⟩ : ByteArray) ++ (digB row.toNat)))), (126, .pointer (some ⟨b, 0, none⟩))] rfl (by kernel_rfl) ?_
    have p_c123 := h_c123; try simp [-List.getD_eq_getElem?_getD] at p_c123
    refine Gx.cons (Gx.op_concat rfl (by kernel_rfl) rfl (⟨#[32, 45, 123]⟩ : ByteArray) ((joinB ops) ++ ((⟨#[124, 32, 114]⟩ : ByteArray) ++ (digB row.toNat))) (by kernel_rfl) (by kernel_rfl) (by simp only [ByteArray.size_append, litz3]; omega) ?_)
    refine Gx.cons (Gx.op_concat rfl (by kernel_rfl) rfl ((⟨#[32, 45, 123]⟩ : ByteArray) ++ ((joinB ops) ++ ((⟨#[124, 32, 114]⟩ : ByteArray) ++ (digB row.toNat)))) (⟨#[125, 45, 62, 32]⟩ : ByteArray) (by kernel_rfl) (by kernel_rfl) (by simp only [ByteArray.size_append, litz3, litz4]; omega) ?_)
    refine Gx.cons (Gx.op_call rfl (by kernel_rfl) (by kernel_rfl) (fun R hR => WriteString_c B b s15 (((⟨#[32, 45, 123]⟩ : ByteArray) ++ ((joinB ops) ++ ((⟨#[124, 32, 114]⟩ : ByteArray) ++ (digB row.toNat)))) ++ (⟨#[125, 45, 62, 32]⟩ : ByteArray)) _ R ((hbd15.ext x22).ext x28) (by omega) (by simp only [ByteArray.size_append, litz3, litz4]; omega) (fun w34 s22 hs28 x31 hbd22 => hR _ _ ?_)))
    have zw34 := x31.size
    have zhs28 := congrArg ByteArray.size hs28; simp only [ByteArray.size_append, litz3, litz4] at zhs28
    refine Gx.ops_nil ?_
    refine Gx.then_normal ?_
    have h123 := h_c123
    rw [← app_assoc] at h123
    have harr : arrB (rowB (joinB ops) row) = (((⟨#[32, 45, 123]⟩ : ByteArray) ++ ((joinB ops) ++ ((⟨#[124, 32, 114]⟩ : ByteArray) ++ (digB row.toNat)))) ++ (⟨#[125, 45, 62, 32]⟩ : ByteArray)) := by unfold arrB rowB bS bR bL bE bArr; rw [if_pos (show row > 0 by simpa using h_c111)]; simp only [h_c113, h123, Bool.not_true, Bool.not_false, Bool.false_eq_true, if_true, if_false]; (try simp only [app_assoc])
    have harrz := congrArg ByteArray.size harr; simp only [ByteArray.size_append, litz3, litz4] at harrz
    refine Gx.reg [0, 1, 2, 3, 4, 5] (by kernel_rfl) ?_
    refine Gx.pure [0, 1] [2, 3, 4, 5] [(132, .pointer (some ⟨k1, 4, none⟩)), (131, .pointer (some ⟨b, 0, none⟩))] rfl (by kernel_rfl) ?_
    refine Gx.cons (Gx.op_load rfl (by kernel_rfl) rfl 4 (.slice A2 2 c2) (by kernel_rfl) (x31.has (((x21.has (((((b1.ext x2).ext x3).upd1 u1 (by omega)).upd1 u2 (by omega)).upd1 u3 (by omega)) (by omega) (by decide)).ext x22).ext x28) (by omega) (by decide)) (by kernel_rfl) ?_)
    obtain ⟨a12, ha12, hc12⟩ := ha 1 (by omega)
    refine Gx.cons (Gx.op_indexAddrO rfl (by kernel_rfl) rfl 25 5 (by kernel_rfl) (by kernel_rfl) a12 ha12 2 c2 (by kernel_rfl) .i64 1 (by kernel_rfl) (by omega) ?_)
    refine Gx.cons (Gx.op_loadAgg rfl (by kernel_rfl) rfl (by kernel_rfl) 5 (Gx.cells_ext hc12 (by decide) (Gx.Ext.wx hE (((((((((((Gx.Wx.refl (e := 5) (wb := b) w hBw).ext x1).ext x2).ext x3).upd_new u1 (by omega)).upd_new u2 (by omega)).upd_new u3 (by omega)).trans x21).ext x22).ext x28).trans x31) hw0B)) (by kernel_rfl) ?_)
    refine Gx.cons (Gx.op_call rfl (by kernel_rfl) (by kernel_rfl) (fun R hR => ihS 1 (by omega) B b s22 (0 : Int) _ R hbd22 (by omega) (Gx.Ext.wx hE (((((((((((Gx.Wx.refl (e := 5) (wb := b) w hBw).ext x1).ext x2).ext x3).upd_new u1 (by omega)).upd_new u2 (by omega)).upd_new u3 (by omega)).trans x21).ext x22).ext x28).trans x31) hw0B) hw0B (by decide) (by omega) (fun w35 s23 hs29 x32 hbd23 => hR _ _ ?_)))
    have zw35 := x32.size
    have zhs29 := congrArg ByteArray.size hs29; rw [ByteArray.size_append] at zhs29
    refine Gx.ops_nil ?_
    refine Gx.block_normal ?_
    refine Gx.retD_n (Gx.res0 rfl) ?_
    exact hK _ s23 (by rw [hs29, hs28, hs21, hin, show_6 hlen, harr]; all_goals (try simp only [app_assoc]); all_goals (try rfl)) ((((((((((((Gx.Wx.refl (e := 5) (wb := b) w hBw).ext x1).ext x2).ext x3).upd_new u1 (by omega)).upd_new u2 (by omega)).upd_new u3 (by omega)).trans x21).ext x22).ext x28).trans x31).trans x32) hbd23
  refine wp_skip ?_
  refine Gx.then_normal ?_
  refine wp_seq ?_
  refine Gx.seq_run [(123, .bool ((joinB ops).toList == (⟨#[]⟩ : ByteArray).toList)), (122, .string (joinB ops))] (by kernel_rfl) ?_
  refine Gx.cond ((joinB ops).toList == (⟨#[]⟩ : ByteArray).toList) (by kernel_rfl) (fun h_c123 => ?_) (fun h_c123 => ?_)
  · skip
    refine Gx.reg [0, 1] (by kernel_rfl) ?_
    refine Gx.pure [0] [1] [(124, .pointer (some ⟨b, 0, none⟩))] rfl (by kernel_rfl) ?_
    have p_c111 := h_c111; try simp [-List.getD_eq_getElem?_getD] at p_c111
    have p_c123 := h_c123; try simp [-List.getD_eq_getElem?_getD] at p_c123
    refine Gx.cons (Gx.op_call rfl (by kernel_rfl) (by kernel_rfl) (fun R hR => WriteString_c B b s15 (⟨#[32, 45, 62, 32]⟩ : ByteArray) _ R (hbd15.ext x22) (by omega) (by simp only [litz4]; omega) (fun w36 s24 hs30 x33 hbd24 => hR _ _ ?_)))
    have zw36 := x33.size
    have zhs30 := congrArg ByteArray.size hs30; simp only [ByteArray.size_append, litz4] at zhs30
    refine Gx.ops_nil ?_
    refine Gx.then_normal ?_
    have h123 := h_c123
    have harr : arrB (rowB (joinB ops) row) = (⟨#[32, 45, 62, 32]⟩ : ByteArray) := by unfold arrB rowB bS bR bL bE bArr; rw [if_neg (show ¬ row > 0 by simpa using h_c111)]; simp only [h123, Bool.not_true, Bool.not_false, Bool.false_eq_true, if_true, if_false]; (try simp only [app_assoc])
    have harrz := congrArg ByteArray.size harr; simp only [litz4] at harrz
    refine Gx.reg [0, 1, 2, 3, 4, 5] (by kernel_rfl) ?_
    refine Gx.pure [0, 1] [2, 3, 4, 5] [(132, .pointer (some ⟨k1, 4, none⟩)), (131, .pointer (some ⟨b, 0, none⟩))] rfl (by kernel_rfl) ?_
    refine Gx.cons (Gx.op_load rfl (by kernel_rfl) rfl 4 (.slice A2 2 c2) (by kernel_rfl) (x33.has ((x21.has (((((b1.ext x2).ext x3).upd1 u1 (by omega)).upd1 u2 (by omega)).upd1 u3 (by omega)) (by omega) (by decide)).ext x22) (by omega) (by decide)) (by kernel_rfl) ?_)
    obtain ⟨a13, ha13, hc13⟩ := ha 1 (by omega)
    refine Gx.cons (Gx.op_indexAddrO rfl (by kernel_rfl) rfl 25 5 (by kernel_rfl) (by kernel_rfl) a13 ha13 2 c2 (by kernel_rfl) .i64 1 (by kernel_rfl) (by omega) ?_)
    refine Gx.cons (Gx.op_loadAgg rfl (by kernel_rfl) rfl (by kernel_rfl) 5 (Gx.cells_ext hc13 (by decide) (Gx.Ext.wx hE ((((((((((Gx.Wx.refl (e := 5) (wb := b) w hBw).ext x1).ext x2).ext x3).upd_new u1 (by omega)).upd_new u2 (by omega)).upd_new u3 (by omega)).trans x21).ext x22).trans x33) hw0B)) (by kernel_rfl) ?_)
    refine Gx.cons (Gx.op_call rfl (by kernel_rfl) (by kernel_rfl) (fun R hR => ihS 1 (by omega) B b s24 (0 : Int) _ R hbd24 (by omega) (Gx.Ext.wx hE ((((((((((Gx.Wx.refl (e := 5) (wb := b) w hBw).ext x1).ext x2).ext x3).upd_new u1 (by omega)).upd_new u2 (by omega)).upd_new u3 (by omega)).trans x21).ext x22).trans x33) hw0B) hw0B (by decide) (by omega) (fun w37 s25 hs31 x34 hbd25 => hR _ _ ?_)))
    have zw37 := x34.size
    have zhs31 := congrArg ByteArray.size hs31; rw [ByteArray.size_append] at zhs31
    refine Gx.ops_nil ?_
    refine Gx.block_normal ?_
    refine Gx.retD_n (Gx.res0 rfl) ?_
    exact hK _ s25 (by rw [hs31, hs30, hs21, hin, show_6 hlen, harr]; all_goals (try simp only [app_assoc]); all_goals (try rfl)) (((((((((((Gx.Wx.refl (e := 5) (wb := b) w hBw).ext x1).ext x2).ext x3).upd_new u1 (by omega)).upd_new u2 (by omega)).upd_new u3 (by omega)).trans x21).ext x22).trans x33).trans x34) hbd25
  refine Gx.reg [0, 1, 2, 3, 4] (by kernel_rfl) ?_
  refine Gx.pure [0, 1] [2, 3, 4] [(127, .string (joinB ops)), (126, .pointer (some ⟨b, 0, none⟩))] rfl (by kernel_rfl) ?_
  have p_c111 := h_c111; try simp [-List.getD_eq_getElem?_getD] at p_c111
  have p_c123 := h_c123; try simp [-List.getD_eq_getElem?_getD] at p_c123
  refine Gx.cons (Gx.op_concat rfl (by kernel_rfl) rfl (⟨#[32, 45, 123]⟩ : ByteArray) (joinB ops) (by kernel_rfl) (by kernel_rfl) (by simp only [litz3]; omega) ?_)
  refine Gx.cons (Gx.op_concat rfl (by kernel_rfl) rfl ((⟨#[32, 45, 123]⟩ : ByteArray) ++ (joinB ops)) (⟨#[125, 45, 62, 32]⟩ : ByteArray) (by kernel_rfl) (by kernel_rfl) (by simp only [ByteArray.size_append, litz3, litz4]; omega) ?_)
  refine Gx.cons (Gx.op_call rfl (by kernel_rfl) (by kernel_rfl) (fun R hR => WriteString_c B b s15 (((⟨#[32, 45, 123]⟩ : ByteArray) ++ (joinB ops)) ++ (⟨#[125, 45, 62, 32]⟩ : ByteArray)) _ R (hbd15.ext x22) (by omega) (by simp only [ByteArray.size_append, litz3, litz4]; omega) (fun w38 s26 hs32 x35 hbd26 => hR _ _ ?_)))
  have zw38 := x35.size
  have zhs32 := congrArg ByteArray.size hs32; simp only [ByteArray.size_append, litz3, litz4] at zhs32
  refine Gx.ops_nil ?_
  refine Gx.then_normal ?_
  have h123 := h_c123
  have harr : arrB (rowB (joinB ops) row) = (((⟨#[32, 45, 123]⟩ : ByteArray) ++ (joinB ops)) ++ (⟨#[125, 45, 62, 32]⟩ : ByteArray)) := by unfold arrB rowB bS bR bL bE bArr; rw [if_neg (show ¬ row > 0 by simpa using h_c111)]; simp only [h123, Bool.not_true, Bool.not_false, Bool.false_eq_true, if_true, if_false]; (try simp only [app_assoc])
  have harrz := congrArg ByteArray.size harr; simp only [ByteArray.size_append, litz3, litz4] at harrz
  refine Gx.reg [0, 1, 2, 3, 4, 5] (by kernel_rfl) ?_
  refine Gx.pure [0, 1] [2, 3, 4, 5] [(132, .pointer (some ⟨k1, 4, none⟩)), (131, .pointer (some ⟨b, 0, none⟩))] rfl (by kernel_rfl) ?_
  refine Gx.cons (Gx.op_load rfl (by kernel_rfl) rfl 4 (.slice A2 2 c2) (by kernel_rfl) (x35.has ((x21.has (((((b1.ext x2).ext x3).upd1 u1 (by omega)).upd1 u2 (by omega)).upd1 u3 (by omega)) (by omega) (by decide)).ext x22) (by omega) (by decide)) (by kernel_rfl) ?_)
  obtain ⟨a14, ha14, hc14⟩ := ha 1 (by omega)
  refine Gx.cons (Gx.op_indexAddrO rfl (by kernel_rfl) rfl 25 5 (by kernel_rfl) (by kernel_rfl) a14 ha14 2 c2 (by kernel_rfl) .i64 1 (by kernel_rfl) (by omega) ?_)
  refine Gx.cons (Gx.op_loadAgg rfl (by kernel_rfl) rfl (by kernel_rfl) 5 (Gx.cells_ext hc14 (by decide) (Gx.Ext.wx hE ((((((((((Gx.Wx.refl (e := 5) (wb := b) w hBw).ext x1).ext x2).ext x3).upd_new u1 (by omega)).upd_new u2 (by omega)).upd_new u3 (by omega)).trans x21).ext x22).trans x35) hw0B)) (by kernel_rfl) ?_)
  refine Gx.cons (Gx.op_call rfl (by kernel_rfl) (by kernel_rfl) (fun R hR => ihS 1 (by omega) B b s26 (0 : Int) _ R hbd26 (by omega) (Gx.Ext.wx hE ((((((((((Gx.Wx.refl (e := 5) (wb := b) w hBw).ext x1).ext x2).ext x3).upd_new u1 (by omega)).upd_new u2 (by omega)).upd_new u3 (by omega)).trans x21).ext x22).trans x35) hw0B) hw0B (by decide) (by omega) (fun w39 s27 hs33 x36 hbd27 => hR _ _ ?_)))
  have zw39 := x36.size
  have zhs33 := congrArg ByteArray.size hs33; rw [ByteArray.size_append] at zhs33
  refine Gx.ops_nil ?_
  refine Gx.block_normal ?_
  refine Gx.retD_n (Gx.res0 rfl) ?_
  exact hK _ s27 (by rw [hs33, hs32, hs21, hin, show_6 hlen, harr]; all_goals (try simp only [app_assoc]); all_goals (try rfl)) (((((((((((Gx.Wx.refl (e := 5) (wb := b) w hBw).ext x1).ext x2).ext x3).upd_new u1 (by omega)).upd_new u2 (by omega)).upd_new u3 (by omega)).trans x21).ext x22).trans x35).trans x36) hbd27

end Go.Proofs.YtmlmppdffeacdaaDoor
