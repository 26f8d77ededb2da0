/- The walks of the functions that show types, written by a program of ours (wip/gx/gx.py, wip/shows/showgen.py). -/
import Derived.Test.YtmlmppdffeacdaaDoorRows
import Derived.Test.YtmlmppdffeacdaaDoorGw
import Derived.Test.YtmlmppdffeacdaaDoorShowPlain
import Derived.Test.YtmlmppdffeacdaaDoorBuild
import Derived.Test.YtmlmppdffeacdaaDoorShowWalks1
import Derived.Test.YtmlmppdffeacdaaDoorShowWalks2
import Derived.Test.YtmlmppdffeacdaaDoorShowWalks3
import Derived.Test.YtmlmppdffeacdaaDoorShowWalks4
namespace Go.Proofs.YtmlmppdffeacdaaDoor
open Go.RowKit Go.Show
attribute [local irreducible] Go.wpOps Go.Code.wp Go.wpOp Go.wpAnyH Go.Calls
set_option maxHeartbeats 400000 in
set_option maxRecDepth 10000 in
theorem copyCheck_0 (B b : Nat) (s : ByteArray) (w : World) (K : Ending → World → Prop) (v : Value) (hwb : Gx.Has w b (.cells #[.pointer none, v] 33)) (hown : w.ownsRow B 5 1 v s.size (Lib.strCells s)) (hB : B ≤ b) (hBw : B ≤ w.heap.size) (hK : ∀ w', Gx.Wx 5 B b w w' → Bd w' B b s → K (.returned (.tuple #[])) w') :
    Calls Tryd.prog 18 #[.pointer (some ⟨b, 0, none⟩)] w K := by
  refine Gx.enter 20 Tryd.func18 rfl rfl (Nat.le_of_ble_eq_true rfl) ?_
  have tbb := hwb.lt
  refine Gx.seq_reg [0, 1, 2, 3, 4] (by kernel_rfl) ?_
  refine Gx.pure [0, 1, 2] [3, 4] [(4, .pointer (some ⟨b, 0, none⟩)), (3, .pointer (some ⟨b, 0, none⟩)), (2, .pointer (some ⟨b, 0, none⟩))] rfl (by kernel_rfl) ?_
  refine Gx.cons (Gx.op_load rfl (by kernel_rfl) rfl 0 (.pointer none) (by kernel_rfl) hwb (by kernel_rfl) ?_)
  refine Gx.pure [4] [] [(6, .bool true)] rfl (by kernel_rfl) ?_
  refine Gx.ops_end ?_
  refine Gx.cond_t (by kernel_rfl) ?_
  refine Gx.reg [0, 1, 2, 3, 4, 5, 6, 7] (by kernel_rfl) ?_
  refine Gx.pure [0, 1] [2, 3, 4, 5, 6, 7] [(8, .pointer (some ⟨b, 0, none⟩)), (7, .pointer (some ⟨b, 0, none⟩))] rfl (by kernel_rfl) ?_
  refine Gx.cons (Gx.op_val rfl (by kernel_rfl) (run_conv1 rfl (by kernel_rfl) hwb (by kernel_rfl)) ?_)
  refine Gx.cons (Gx.op_val rfl (by kernel_rfl) (run_noEsc (v := .pointer (some ⟨b, 0, none⟩)) rfl (by kernel_rfl)) ?_)
  refine Gx.cons (Gx.op_val rfl (by kernel_rfl) (run_conv2 rfl (by kernel_rfl) hwb (by kernel_rfl)) ?_)
  refine Gx.pure [5, 6] [7] [(13, .pointer (some ⟨b, 0, none⟩)), (12, .pointer (some ⟨b, 0, none⟩))] rfl (by kernel_rfl) ?_
  refine Gx.cons (Gx.op_store rfl (by kernel_rfl) rfl 0 (.pointer (some ⟨b, 0, none⟩)) (by kernel_rfl) (by kernel_rfl) hwb (by kernel_rfl) (by kernel_rfl) (by kernel_rfl) #[.pointer (some ⟨b, 0, none⟩), v] (by kernel_rfl) (fun w1 u1 b1 => ?_))
  have zw1 := u1.size
  refine Gx.ops_nil ?_
  refine Gx.ret_n (Gx.res0 rfl) ?_
  exact hK _ ((Gx.Wx.refl (e := 5) (wb := b) w hBw).upd u1 hB) ⟨_, _, b1, (Gx.own_upd1 hown u1 (Gx.own_ne hown hwb (by decide))), hB, .inr rfl⟩

set_option maxHeartbeats 400000 in
set_option maxRecDepth 10000 in
theorem copyCheck_1 (B b : Nat) (s : ByteArray) (w : World) (K : Ending → World → Prop) (v : Value) (hwb : Gx.Has w b (.cells #[.pointer (some ⟨b, 0, none⟩), v] 33)) (hown : w.ownsRow B 5 1 v s.size (Lib.strCells s)) (hB : B ≤ b) (hBw : B ≤ w.heap.size) (hK : ∀ w', Gx.Wx 5 B b w w' → Bd w' B b s → K (.returned (.tuple #[])) w') :
    Calls Tryd.prog 18 #[.pointer (some ⟨b, 0, none⟩)] w K := by
  refine Gx.enter 20 Tryd.func18 rfl rfl (Nat.le_of_ble_eq_true rfl) ?_
  have tbb := hwb.lt
  refine Gx.seq_reg [0, 1, 2, 3, 4] (by kernel_rfl) ?_
  refine Gx.pure [0, 1, 2] [3, 4] [(4, .pointer (some ⟨b, 0, none⟩)), (3, .pointer (some ⟨b, 0, none⟩)), (2, .pointer (some ⟨b, 0, none⟩))] rfl (by kernel_rfl) ?_
  refine Gx.cons (Gx.op_load rfl (by kernel_rfl) rfl 0 (.pointer (some ⟨b, 0, none⟩)) (by kernel_rfl) hwb (by kernel_rfl) ?_)
  refine Gx.pure [4] [] [(6, .bool false)] rfl (by kernel_rfl) ?_
  refine Gx.ops_end ?_
  refine Gx.cond_f (by kernel_rfl) ?_
  refine Gx.seq_reg [0, 1, 2, 3, 4, 5] (by kernel_rfl) ?_
  refine Gx.pure [0, 1, 2] [3, 4, 5] [(16, .pointer (some ⟨b, 0, none⟩)), (15, .pointer (some ⟨b, 0, none⟩)), (14, .pointer (some ⟨b, 0, none⟩))] rfl (by kernel_rfl) ?_
  refine Gx.cons (Gx.op_load rfl (by kernel_rfl) rfl 0 (.pointer (some ⟨b, 0, none⟩)) (by kernel_rfl) hwb (by kernel_rfl) ?_)
  refine Gx.pure [4] [5] [(18, .pointer (some ⟨b, 0, none⟩))] rfl (by kernel_rfl) ?_
  refine Gx.cons (Gx.op_val rfl (by kernel_rfl) (run_neqSelf (a := ⟨b, 0, none⟩) rfl (by kernel_rfl) (by kernel_rfl)) ?_)
  refine Gx.ops_end ?_
  refine Gx.cond_f (by kernel_rfl) ?_
  refine wp_skip ?_
  refine Gx.ret_n (Gx.res0 rfl) ?_
  exact hK _ (Gx.Wx.refl (e := 5) (wb := b) w hBw) ⟨_, _, hwb, hown, hB, .inr rfl⟩


theorem copyCheck_c (B b : Nat) (s : ByteArray) (w : World) (K : Ending → World → Prop) (h : Bd w B b s) (hBw : B ≤ w.heap.size) (hK : ∀ w', Gx.Wx 5 B b w w' → Bd w' B b s → K (.returned (.tuple #[])) w') : Calls Tryd.prog 18 #[.pointer (some ⟨b, 0, none⟩)] w K := by
  obtain ⟨p, v, hb, ho, hB, rfl | rfl⟩ := h
  · exact copyCheck_0 B b s w K v hb ho hB hBw hK
  · exact copyCheck_1 B b s w K v hb ho hB hBw hK

set_option maxHeartbeats 400000 in
set_option maxRecDepth 10000 in
theorem WriteByte_c (B b : Nat) (s : ByteArray) (c : Nat) (w : World) (K : Ending → World → Prop) (h : Bd w B b s) (hBw : B ≤ w.heap.size) (hc : c < 256) (hz : s.size ≤ 140737488355000) (hK : ∀ w' s', s' = s ++ ⟨#[UInt8.ofNat c]⟩ → Gx.Wx 5 B b w w' → Bd w' B b s' → K (.returned (.nilIface)) w') :
    Calls Tryd.prog 14 #[.pointer (some ⟨b, 0, none⟩), .int .u8 ((c : Nat) : Int)] w K := by
  refine Gx.enter 17 Tryd.func14 rfl rfl (Nat.le_of_ble_eq_true rfl) ?_
  obtain ⟨p, v, hwb, hown, hB, hp⟩ := h
  have tbb := hwb.lt
  refine Gx.seq_run [(4, .nilIface)] (by kernel_rfl) ?_
  refine Gx.seq_reg [0, 1] (by kernel_rfl) ?_
  refine Gx.pure [0] [1] [(5, .pointer (some ⟨b, 0, none⟩))] rfl (by kernel_rfl) ?_
  refine Gx.cons (Gx.op_call rfl (by kernel_rfl) (by kernel_rfl) (fun R hR => copyCheck_c B b s _ R ⟨_, _, hwb, hown, hB, hp⟩ (by omega) (fun w1 x1 hbd1 => hR _ _ ?_)))
  have zw1 := x1.size
  obtain ⟨p1, v1, b1, ow1, _, hp1⟩ := hbd1
  have tb1 := b1.lt
  refine Gx.ops_end ?_
  refine Gx.seq_reg [0, 1, 2, 3, 4, 5, 6, 7, 8, 9, 10] (by kernel_rfl) ?_
  refine Gx.pure [0, 1, 2, 3] [4, 5, 6, 7, 8, 9, 10] [(10, .pointer (some ⟨b, 1, none⟩)), (9, .pointer (some ⟨b, 0, none⟩)), (8, .pointer (some ⟨b, 0, none⟩)), (7, .pointer (some ⟨b, 0, none⟩))] rfl (by kernel_rfl) ?_
  refine Gx.cons (Gx.op_load rfl (by kernel_rfl) rfl 1 (v1) (by kernel_rfl) b1 (by kernel_rfl) ?_)
  refine Gx.pure [5] [6, 7, 8, 9, 10] [(12, .int .u8 ((c : Nat) : Int))] rfl (by kernel_rfl) ?_
  refine Gx.cons (Gx.op_row (.cells #[.int .u8 ((c : Nat) : Int)] 5) 1 1 rfl (by kernel_rfl) (by kernel_rfl) (fun k1 w2 l1 x2 b2 => ?_))
  have zw2 := x2.size
  have tb2 := b2.lt
  refine Gx.cons (Gx.op_append rfl (by kernel_rfl) rfl 5 1 1 (by kernel_rfl) (by kernel_rfl) (by kernel_rfl) (B) (by kernel_rfl) (Gx.own_ext ow1 x2) 0 1 1 (by kernel_rfl) b2 [.int .u8 ((c : Nat) : Int)] (by kernel_rfl) (by kernel_rfl) (by kernel_rfl) (by unfold maxLen; omega) (by omega) (by omega) (fun v2 w3 ow2 g1 nl1 => ?_))
  have zw3 := g1.size
  refine Gx.pure [8, 9] [10] [(16, .pointer (some ⟨b, 1, none⟩)), (15, .pointer (some ⟨b, 0, none⟩))] rfl (by kernel_rfl) ?_
  refine Gx.cons (Gx.op_storeO rfl (by kernel_rfl) rfl 1 (v2) (by kernel_rfl) (by kernel_rfl) ((b1.ext x2).upd g1 (fun e => Gx.own_ne (Gx.own_ext ow1 x2) (b1.ext x2) (by decide) _ e.symm rfl)) (by kernel_rfl) (Gx.own_cells' ow2) (by kernel_rfl) #[p1, v2] (by kernel_rfl) (fun w4 u1 b3 => ?_))
  have zw4 := u1.size
  refine Gx.ops_end ?_
  refine Gx.seq_run [(4, .nilIface)] (by kernel_rfl) ?_
  refine wp_ret ?_
  refine Gx.ret (v := .nilIface) (Gx.res1 rfl (by kernel_rfl)) ?_
  exact hK _ _ rfl (((((Gx.Wx.refl (e := 5) (wb := b) w hBw).trans x1).ext x2).app g1 (Gx.own_ext ow1 x2)).upd u1 hB) ⟨_, _, b3, (own_byte (Gx.own_upd1 ow2 u1 (Gx.own_ne ow2 ((b1.ext x2).upd g1 (fun e => Gx.own_ne (Gx.own_ext ow1 x2) (b1.ext x2) (by decide) _ e.symm rfl)) (by decide))) hc), hB, hp1⟩

set_option maxHeartbeats 400000 in
set_option maxRecDepth 10000 in
theorem WriteByte_d (B b : Nat) (s : ByteArray) (c : Nat) (w : World) (K : Ending → World → Prop) (h : Bd w B b s) (hBw : B ≤ w.heap.size) (hc : c < 256) (hz : s.size ≤ 140737488355000) (hK : ∀ w' s', s' = s ++ ⟨#[UInt8.ofNat c]⟩ → Gx.Wx 5 B b w w' → Bd w' B b s' → K (.returned (.nilIface)) w') :
    CallsD Tryd.prog 14 #[.pointer (some ⟨b, 0, none⟩), .int .u8 ((c : Nat) : Int)] .returning w (fun e u' w' => u' = .returning ∧ K e w') := by
  refine Gx.enterD 17 Tryd.func14 rfl rfl (Nat.le_of_ble_eq_true rfl) ?_
  obtain ⟨p, v, hwb, hown, hB, hp⟩ := h
  have tbb := hwb.lt
  refine Gx.seq_run [(4, .nilIface)] (by kernel_rfl) ?_
  refine Gx.seq_reg [0, 1] (by kernel_rfl) ?_
  refine Gx.pure [0] [1] [(5, .pointer (some ⟨b, 0, none⟩))] rfl (by kernel_rfl) ?_
  refine Gx.cons (Gx.op_call rfl (by kernel_rfl) (by kernel_rfl) (fun R hR => copyCheck_c B b s _ R ⟨_, _, hwb, hown, hB, hp⟩ (by omega) (fun w1 x1 hbd1 => hR _ _ ?_)))
  have zw1 := x1.size
  obtain ⟨p1, v1, b1, ow1, _, hp1⟩ := hbd1
  have tb1 := b1.lt
  refine Gx.ops_end ?_
  refine Gx.seq_reg [0, 1, 2, 3, 4, 5, 6, 7, 8, 9, 10] (by kernel_rfl) ?_
  refine Gx.pure [0, 1, 2, 3] [4, 5, 6, 7, 8, 9, 10] [(10, .pointer (some ⟨b, 1, none⟩)), (9, .pointer (some ⟨b, 0, none⟩)), (8, .pointer (some ⟨b, 0, none⟩)), (7, .pointer (some ⟨b, 0, none⟩))] rfl (by kernel_rfl) ?_
  refine Gx.cons (Gx.op_load rfl (by kernel_rfl) rfl 1 (v1) (by kernel_rfl) b1 (by kernel_rfl) ?_)
  refine Gx.pure [5] [6, 7, 8, 9, 10] [(12, .int .u8 ((c : Nat) : Int))] rfl (by kernel_rfl) ?_
  refine Gx.cons (Gx.op_row (.cells #[.int .u8 ((c : Nat) : Int)] 5) 1 1 rfl (by kernel_rfl) (by kernel_rfl) (fun k1 w2 l1 x2 b2 => ?_))
  have zw2 := x2.size
  have tb2 := b2.lt
  refine Gx.cons (Gx.op_append rfl (by kernel_rfl) rfl 5 1 1 (by kernel_rfl) (by kernel_rfl) (by kernel_rfl) (B) (by kernel_rfl) (Gx.own_ext ow1 x2) 0 1 1 (by kernel_rfl) b2 [.int .u8 ((c : Nat) : Int)] (by kernel_rfl) (by kernel_rfl) (by kernel_rfl) (by unfold maxLen; omega) (by omega) (by omega) (fun v2 w3 ow2 g1 nl1 => ?_))
  have zw3 := g1.size
  refine Gx.pure [8, 9] [10] [(16, .pointer (some ⟨b, 1, none⟩)), (15, .pointer (some ⟨b, 0, none⟩))] rfl (by kernel_rfl) ?_
  refine Gx.cons (Gx.op_storeO rfl (by kernel_rfl) rfl 1 (v2) (by kernel_rfl) (by kernel_rfl) ((b1.ext x2).upd g1 (fun e => Gx.own_ne (Gx.own_ext ow1 x2) (b1.ext x2) (by decide) _ e.symm rfl)) (by kernel_rfl) (Gx.own_cells' ow2) (by kernel_rfl) #[p1, v2] (by kernel_rfl) (fun w4 u1 b3 => ?_))
  have zw4 := u1.size
  refine Gx.ops_end ?_
  refine Gx.seq_run [(4, .nilIface)] (by kernel_rfl) ?_
  refine wp_ret ?_
  refine Gx.ret (v := .nilIface) (Gx.res1 rfl (by kernel_rfl)) ?_
  exact hK _ _ rfl (((((Gx.Wx.refl (e := 5) (wb := b) w hBw).trans x1).ext x2).app g1 (Gx.own_ext ow1 x2)).upd u1 hB) ⟨_, _, b3, (own_byte (Gx.own_upd1 ow2 u1 (Gx.own_ne ow2 ((b1.ext x2).upd g1 (fun e => Gx.own_ne (Gx.own_ext ow1 x2) (b1.ext x2) (by decide) _ e.symm rfl)) (by decide))) hc), hB, hp1⟩

set_option maxHeartbeats 400000 in
set_option maxRecDepth 10000 in
theorem WriteString_c (B b : Nat) (s : ByteArray) (x : ByteArray) (w : World) (K : Ending → World → Prop) (h : Bd w B b s) (hBw : B ≤ w.heap.size) (hz : s.size + x.size ≤ 140737488355000) (hK : ∀ w' s', s' = s ++ x → Gx.Wx 5 B b w w' → Bd w' B b s' → K (.returned (.tuple #[.int .i64 ((x.size : Nat) : Int), .nilIface])) w') :
    Calls Tryd.prog 15 #[.pointer (some ⟨b, 0, none⟩), .string x] w K := by
  refine Gx.enter 19 Tryd.func15 rfl rfl (Nat.le_of_ble_eq_true rfl) ?_
  obtain ⟨p, v, hwb, hown, hB, hp⟩ := h
  have tbb := hwb.lt
  refine Gx.seq_run [(5, .nilIface), (4, .int .i64 0)] (by kernel_rfl) ?_
  refine Gx.seq_reg [0, 1] (by kernel_rfl) ?_
  refine Gx.pure [0] [1] [(6, .pointer (some ⟨b, 0, none⟩))] rfl (by kernel_rfl) ?_
  refine Gx.cons (Gx.op_call rfl (by kernel_rfl) (by kernel_rfl) (fun R hR => copyCheck_c B b s _ R ⟨_, _, hwb, hown, hB, hp⟩ (by omega) (fun w1 x1 hbd1 => hR _ _ ?_)))
  have zw1 := x1.size
  obtain ⟨p1, v1, b1, ow1, _, hp1⟩ := hbd1
  have tb1 := b1.lt
  refine Gx.ops_end ?_
  refine Gx.seq_reg [0, 1, 2, 3, 4, 5, 6, 7, 8, 9] (by kernel_rfl) ?_
  refine Gx.pure [0, 1, 2, 3] [4, 5, 6, 7, 8, 9] [(11, .pointer (some ⟨b, 1, none⟩)), (10, .pointer (some ⟨b, 0, none⟩)), (9, .pointer (some ⟨b, 0, none⟩)), (8, .pointer (some ⟨b, 0, none⟩))] rfl (by kernel_rfl) ?_
  refine Gx.cons (Gx.op_load rfl (by kernel_rfl) rfl 1 (v1) (by kernel_rfl) b1 (by kernel_rfl) ?_)
  refine Gx.pure [5] [6, 7, 8, 9] [(13, .string x)] rfl (by kernel_rfl) ?_
  refine Gx.cons (Gx.op_append_str rfl (by kernel_rfl) rfl 5 (by kernel_rfl) (by kernel_rfl) (by kernel_rfl) (B) (by kernel_rfl) ow1 x (by kernel_rfl) (by first | omega | (simp only [ByteArray.size_append]; omega)) (by omega) (fun v2 w2 ow2 g1 => ?_))
  have zw2 := g1.size
  refine Gx.pure [7, 8] [9] [(16, .pointer (some ⟨b, 1, none⟩)), (15, .pointer (some ⟨b, 0, none⟩))] rfl (by kernel_rfl) ?_
  refine Gx.cons (Gx.op_storeO rfl (by kernel_rfl) rfl 1 (v2) (by kernel_rfl) (by kernel_rfl) (b1.upd g1 (fun e => Gx.own_ne ow1 b1 (by decide) _ e.symm rfl)) (by kernel_rfl) (Gx.own_cells' ow2) (by kernel_rfl) #[p1, v2] (by kernel_rfl) (fun w3 u1 b2 => ?_))
  have zw3 := u1.size
  refine Gx.ops_end ?_
  refine Gx.seq_run [(5, .nilIface), (4, .int .i64 ((x.size : Nat) : Int)), (18, .int .i64 ((x.size : Nat) : Int)), (17, .string x)] (by kernel_rfl) ?_
  refine wp_ret ?_
  refine Gx.ret (Gx.res2 (v := .int .i64 ((x.size : Nat) : Int)) (u := .nilIface) rfl (by kernel_rfl) (by kernel_rfl)) ?_
  exact hK _ _ rfl ((((Gx.Wx.refl (e := 5) (wb := b) w hBw).trans x1).app g1 ow1).upd u1 hB) ⟨_, _, b2, (own_str (Gx.own_upd1 ow2 u1 (Gx.own_ne ow2 (b1.upd g1 (fun e => Gx.own_ne ow1 b1 (by decide) _ e.symm rfl)) (by decide)))), hB, hp1⟩

end Go.Proofs.YtmlmppdffeacdaaDoor
