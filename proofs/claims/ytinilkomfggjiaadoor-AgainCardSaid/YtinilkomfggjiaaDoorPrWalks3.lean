/- The walks, written by a program of ours (wip/gx/gx.py, printgen.py). -/
import Derived.Test.YtinilkomfggjiaaDoorRows
import Derived.Test.YtinilkomfggjiaaDoorGs
import Derived.Test.YtinilkomfggjiaaDoorSynBuild
import Derived.Test.YtinilkomfggjiaaDoorPrWalks2
set_option linter.unusedVariables false
set_option linter.unusedSimpArgs false
set_option maxHeartbeats 4000000
set_option maxRecDepth 20000
namespace Go.Proofs.YtinilkomfggjiaaDoor
open Go.RowKit Go.Lex Go.Syn
open Go.Show (digB e0 dig_small dig_step app_e0 app_assoc)
attribute [local irreducible] Go.wpOps Go.Code.wp Go.wpOp Go.wpAnyH Go.Calls Go.Syn.J
theorem exp_3 (B b : Nat) (x : ByteArray) (w0 : World) (a : Nat) (nm : ByteArray) (n : Int) (A : Option Addr) (c : Nat) (As : Nat → Option Addr) (cs : Nat → Nat) (w : World) (K : Ending → World → Prop) (h : Bd w B b x) (hBw : B ≤ w.heap.size) (hE : Gx.Ext w0 w) (hw0B : w0.heap.size ≤ B) (hsz : x.size + (intT n).size ≤ 100000000000) (hn : -9223372036854775807 ≤ n ∧ n ≤ 9223372036854775807) (htab : Lib.TabBelow Tryd.prog w0.heap.size w0 "internal/strconv.uint64pow10" .u64 Lib.pow10Tab) (hK : ∀ w' s', s' = J x (intT n) → Gx.Wx 5 B b w w' → Bd w' B b s' → K (.returned (.tuple #[])) w') :
    Calls Tryd.prog 42 #[Z.P b 0, .agg #[.int .i64 3, Z.n a, .string nm, .int .i64 n, .slice A 0 c]] w K := by
  refine Z.en 146 Tryd.func42 ?_
  have tbb : b < w.heap.size := by obtain ⟨_, _, hq, _⟩ := h; exact hq.lt
  have hB : B ≤ b := by obtain ⟨_, _, _, _, hq, _⟩ := h; exact hq
  have hq := hsz; (try simp only [zap, zli, List.length] at hq)
  refine Z.r [0] ?_
  refine Z.N (.cells #[.int .i64 3, Z.n a, .string nm, .int .i64 n, .slice A 0 c] 24) (fun k1 w1 l1 x1 b1 zw1 tb1 => ?_)
  refine Z.e (Z.r [0, 1, 2] ?_)
  refine Z.p [0] [1, 2] [(5, Z.P k1 4)] ?_
  refine Z.L 4 (.slice A 0 c) b1 ?_
  refine Z.p [2] [] [(4, .slice A 0 c)] ?_
  refine Z.e (Z.r [0, 1] ?_)
  refine Z.p [0] [1] [(7, Z.P k1 0)] ?_
  refine Z.L 0 (.int .i64 3) b1 ?_
  refine Z.e (wp_block (Z.st [(9, .bool true), (10, .bool true)] ?_))
  refine Z.r [0, 1, 2] ?_
  refine Z.p [0] [1, 2] [(11, Z.P k1 3)] ?_
  refine Z.L 3 (.int .i64 n) b1 ?_
  refine Z.p [2] [] [(13, .bool (decide (n < (0 : Int))))] ?_
  refine Z.e (Z.c (decide (n < (0 : Int))) (fun h_c13 => ?_) (fun h_c13 => ?_))
  · skip
    have p_c13 := of_decide_eq_true h_c13
    have hin : intT n = (Z.B [126, 32]) ++ digB (-n).toNat := by unfold intT; rw [if_pos (by simpa using h_c13)]
    have hinz := congrArg ByteArray.size hin; (try simp only [zap, zli, List.length] at hinz)
    refine Z.g [0, 1, 2, 3, 4, 5, 6] ?_
    refine Z.p [0, 1] [2, 3, 4, 5, 6] [(15, Z.P k1 3), (14, Z.P b 0)] ?_
    refine Z.L 3 (.int .i64 n) b1 ?_
    refine Gx.pure_eq [3] [4, 5, 6] [(17, .int .i64 (IntKind.i64.wrap (0 - n)))] [(17, .int .i64 (-n))] rfl (by kernel_rfl) (Gx.eqI (by rw [IntWalk.i64_in _ (by omega)]; omega)) ?_
    refine Z.k (fun R hR => itoa_c (-n) _ R (by omega) (by omega) (htab _ (Gx.Ext.below (Gx.Ext.wx hE ((Gx.Wx.refl (e := 5) (wb := b) w hBw).ext x1) hw0B))) (fun w2 x2  => hR _ _ ?_))
    have zw2 := x2.size
    refine Z.R (.cells #[.string Z.k29, .string (digB (-n).toNat)] 9) 2 2 (fun k2 w3 l2 x3 b2 zw3 tb2 => ?_)
    have zs1 : (putJ x [Z.k29, digB (-n).toNat]).size ≤ x.size + (Z.k29.size + 1 + ((digB (-n).toNat).size + 1 + 0)) := putJ_bd [Z.k29, digB (-n).toNat] x
    (try simp only [zap, zli, List.length] at zs1)
    refine Z.k (fun R hR => put_c B b x [Z.k29, digB (-n).toNat] k2 2 _ R (((h.ext x1).ext x2).ext x3) (by omega) b2 (by omega) (Nat.le_of_ble_eq_true rfl) (by omega) (fun w4 s1 hs1 x4 hbd1 => hR _ _ ?_))
    have zw4 := x4.size
    rw [← hs1] at zs1
    refine Gx.ops_nil (Gx.block_normal (Gx.ret_n (Gx.res0 rfl) ?_))
    exact hK _ _ (by rw [hs1]; show putJ x [Z.k29, digB (-n).toNat] = _; rw [putJ_join _ (by first | decide | omega | (simp only [zap, zli, List.length]; omega))]; exact congrArg (J x) (bl (by rw [hin]; (try simp [joinS, l_app, Z.bd, Z.ed])))) (((((Gx.Wx.refl (e := 5) (wb := b) w hBw).ext x1).ext x2).ext x3).trans x4) hbd1
  have p_c13 := of_decide_eq_false h_c13
  have hin : intT n = digB n.toNat := by unfold intT; rw [if_neg (by simpa using h_c13)]
  have hinz := congrArg ByteArray.size hin; (try simp only [zap, zli, List.length] at hinz)
  refine Z.g [0, 1, 2, 3, 4, 5] ?_
  refine Z.p [0, 1] [2, 3, 4, 5] [(22, Z.P k1 3), (21, Z.P b 0)] ?_
  refine Z.L 3 (.int .i64 n) b1 ?_
  refine Z.k (fun R hR => itoa_c n _ R (by omega) (by omega) (htab _ (Gx.Ext.below (Gx.Ext.wx hE ((Gx.Wx.refl (e := 5) (wb := b) w hBw).ext x1) hw0B))) (fun w5 x5  => hR _ _ ?_))
  have zw5 := x5.size
  refine Z.R (.cells #[.string (digB n.toNat)] 9) 1 1 (fun k3 w6 l3 x6 b3 zw6 tb3 => ?_)
  have zs2 : (putJ x [digB n.toNat]).size ≤ x.size + ((digB n.toNat).size + 1 + 0) := putJ_bd [digB n.toNat] x
  (try simp only [zap, zli, List.length] at zs2)
  refine Z.k (fun R hR => put_c B b x [digB n.toNat] k3 1 _ R (((h.ext x1).ext x5).ext x6) (by omega) b3 (by omega) (Nat.le_of_ble_eq_true rfl) (by omega) (fun w7 s2 hs2 x7 hbd2 => hR _ _ ?_))
  have zw7 := x7.size
  rw [← hs2] at zs2
  refine Gx.ops_nil (Gx.block_normal (Gx.ret_n (Gx.res0 rfl) ?_))
  exact hK _ _ (by rw [hs2]; (first | done | exact congrArg (J x) (bl (by rw [hin]; (try simp [l_app, Z.bd, Z.ed]))))) (((((Gx.Wx.refl (e := 5) (wb := b) w hBw).ext x1).ext x5).ext x6).trans x7) hbd2
theorem exp_4 (B b : Nat) (x : ByteArray) (w0 : World) (a : Nat) (nm : ByteArray) (n : Int) (A : Option Addr) (c : Nat) (As : Nat → Option Addr) (cs : Nat → Nat) (w : World) (K : Ending → World → Prop) (h : Bd w B b x) (hBw : B ≤ w.heap.size) (hE : Gx.Ext w0 w) (hw0B : w0.heap.size ≤ B) (hsz : x.size + (if n = 1 then Z.k13 else Z.k14).size ≤ 100000000000) (hK : ∀ w' s', s' = J x (if n = 1 then Z.k13 else Z.k14) → Gx.Wx 5 B b w w' → Bd w' B b s' → K (.returned (.tuple #[])) w') :
    Calls Tryd.prog 42 #[Z.P b 0, .agg #[.int .i64 4, Z.n a, .string nm, .int .i64 n, .slice A 0 c]] w K := by
  refine Z.en 146 Tryd.func42 ?_
  have tbb : b < w.heap.size := by obtain ⟨_, _, hq, _⟩ := h; exact hq.lt
  have hB : B ≤ b := by obtain ⟨_, _, _, _, hq, _⟩ := h; exact hq
  have hq := hsz; (try simp only [zap, zli, List.length] at hq)
  have hfb : (if (n == (1 : Int)) = true then Z.k13 else Z.k14).size ≤ 5 := by split <;> decide
  refine Z.r [0] ?_
  refine Z.N (.cells #[.int .i64 4, Z.n a, .string nm, .int .i64 n, .slice A 0 c] 24) (fun k1 w1 l1 x1 b1 zw1 tb1 => ?_)
  refine Z.e (Z.r [0, 1, 2] ?_)
  refine Z.p [0] [1, 2] [(5, Z.P k1 4)] ?_
  refine Z.L 4 (.slice A 0 c) b1 ?_
  refine Z.p [2] [] [(4, .slice A 0 c)] ?_
  refine Z.e (Z.r [0, 1] ?_)
  refine Z.p [0] [1] [(7, Z.P k1 0)] ?_
  refine Z.L 0 (.int .i64 4) b1 ?_
  refine Z.e (wp_block (Z.sf [(9, .bool false), (10, .bool false)] ?_))
  refine Z.st [(27, .bool true), (28, .bool true)] ?_
  refine Z.g [0, 1, 2, 3, 4, 5, 6] ?_
  refine Z.p [0, 1] [2, 3, 4, 5, 6] [(30, Z.P k1 3), (29, Z.P b 0)] ?_
  refine Z.L 3 (.int .i64 n) b1 ?_
  refine Z.p [3] [4, 5, 6] [(32, .bool (n == (1 : Int)))] ?_
  refine Z.k (fun R hR => FormatBool_c (n == (1 : Int)) _ R  (fun w2 x2  => hR _ _ ?_))
  have zw2 := x2.size
  refine Z.R (.cells #[.string (if (n == (1 : Int)) = true then Z.k13 else Z.k14)] 9) 1 1 (fun k2 w3 l2 x3 b2 zw3 tb2 => ?_)
  have zs1 : (putJ x [if (n == (1 : Int)) = true then Z.k13 else Z.k14]).size ≤ x.size + ((if (n == (1 : Int)) = true then Z.k13 else Z.k14).size + 1 + 0) := putJ_bd [if (n == (1 : Int)) = true then Z.k13 else Z.k14] x
  (try simp only [zap, zli, List.length] at zs1)
  refine Z.k (fun R hR => put_c B b x [if (n == (1 : Int)) = true then Z.k13 else Z.k14] k2 1 _ R (((h.ext x1).ext x2).ext x3) (by omega) b2 (by omega) (Nat.le_of_ble_eq_true rfl) (by omega) (fun w4 s1 hs1 x4 hbd1 => hR _ _ ?_))
  have zw4 := x4.size
  rw [← hs1] at zs1
  refine Gx.ops_nil (Gx.block_normal (Gx.ret_n (Gx.res0 rfl) ?_))
  exact hK _ _ (by rw [hs1]; (first | done | exact congrArg (J x) (bl (by (try simp [l_app, Z.bd, Z.ed]))))) (((((Gx.Wx.refl (e := 5) (wb := b) w hBw).ext x1).ext x2).ext x3).trans x4) hbd1
theorem exp_5 (B b : Nat) (x : ByteArray) (w0 : World) (a : Nat) (nm : ByteArray) (n : Int) (A : Option Addr) (c : Nat) (As : Nat → Option Addr) (cs : Nat → Nat) (w : World) (K : Ending → World → Prop) (h : Bd w B b x) (hBw : B ≤ w.heap.size) (hE : Gx.Ext w0 w) (hw0B : w0.heap.size ≤ B) (hsz : x.size + ((Z.B [40, 32, 41])).size ≤ 100000000000) (hK : ∀ w' s', s' = J x ((Z.B [40, 32, 41])) → Gx.Wx 5 B b w w' → Bd w' B b s' → K (.returned (.tuple #[])) w') :
    Calls Tryd.prog 42 #[Z.P b 0, .agg #[.int .i64 5, Z.n a, .string nm, .int .i64 n, .slice A 0 c]] w K := by
  refine Z.en 146 Tryd.func42 ?_
  have tbb : b < w.heap.size := by obtain ⟨_, _, hq, _⟩ := h; exact hq.lt
  have hB : B ≤ b := by obtain ⟨_, _, _, _, hq, _⟩ := h; exact hq
  have hq := hsz; (try simp only [zap, zli, List.length] at hq)
  refine Z.r [0] ?_
  refine Z.N (.cells #[.int .i64 5, Z.n a, .string nm, .int .i64 n, .slice A 0 c] 24) (fun k1 w1 l1 x1 b1 zw1 tb1 => ?_)
  refine Z.e (Z.r [0, 1, 2] ?_)
  refine Z.p [0] [1, 2] [(5, Z.P k1 4)] ?_
  refine Z.L 4 (.slice A 0 c) b1 ?_
  refine Z.p [2] [] [(4, .slice A 0 c)] ?_
  refine Z.e (Z.r [0, 1] ?_)
  refine Z.p [0] [1] [(7, Z.P k1 0)] ?_
  refine Z.L 0 (.int .i64 5) b1 ?_
  refine Z.e (wp_block (Z.sf [(9, .bool false), (10, .bool false)] ?_))
  refine Z.sf [(27, .bool false), (28, .bool false)] ?_
  refine Z.st [(36, .bool true), (37, .bool true)] ?_
  refine Z.g [0, 1, 2] ?_
  refine Z.p [0] [1, 2] [(38, Z.P b 0)] ?_
  refine Z.R (.cells #[.string Z.k4, .string Z.k2] 9) 2 2 (fun k2 w2 l2 x2 b2 zw2 tb2 => ?_)
  have zs1 : (putJ x [Z.k4, Z.k2]).size ≤ x.size + (Z.k4.size + 1 + (Z.k2.size + 1 + 0)) := putJ_bd [Z.k4, Z.k2] x
  (try simp only [zap, zli, List.length] at zs1)
  refine Z.k (fun R hR => put_c B b x [Z.k4, Z.k2] k2 2 _ R ((h.ext x1).ext x2) (by omega) b2 (by omega) (Nat.le_of_ble_eq_true rfl) (by omega) (fun w3 s1 hs1 x3 hbd1 => hR _ _ ?_))
  have zw3 := x3.size
  rw [← hs1] at zs1
  refine Gx.ops_nil (Gx.block_normal (Gx.ret_n (Gx.res0 rfl) ?_))
  exact hK _ _ (by rw [hs1]; show putJ x [Z.k4, Z.k2] = _; rw [putJ_join _ (by first | decide | omega | (simp only [zap, zli, List.length]; omega))]; exact congrArg (J x) (bl (by (try simp [joinS, l_app, Z.bd, Z.ed])))) ((((Gx.Wx.refl (e := 5) (wb := b) w hBw).ext x1).ext x2).trans x3) hbd1
theorem exp_6 (B b : Nat) (x : ByteArray) (w0 : World) (a : Nat) (nm : ByteArray) (n : Int) (A : Option Addr) (c : Nat) (As : Nat → Option Addr) (cs : Nat → Nat) (w : World) (K : Ending → World → Prop) (h : Bd w B b x) (hBw : B ≤ w.heap.size) (hE : Gx.Ext w0 w) (hw0B : w0.heap.size ≤ B) (hsz : x.size + (nm).size ≤ 100000000000) (hm : 0 < nm.size) (hK : ∀ w' s', s' = J x (nm) → Gx.Wx 5 B b w w' → Bd w' B b s' → K (.returned (.tuple #[])) w') :
    Calls Tryd.prog 42 #[Z.P b 0, .agg #[.int .i64 6, Z.n a, .string nm, .int .i64 n, .slice A 0 c]] w K := by
  refine Z.en 146 Tryd.func42 ?_
  have tbb : b < w.heap.size := by obtain ⟨_, _, hq, _⟩ := h; exact hq.lt
  have hB : B ≤ b := by obtain ⟨_, _, _, _, hq, _⟩ := h; exact hq
  have hq := hsz; (try simp only [zap, zli, List.length] at hq)
  refine Z.r [0] ?_
  refine Z.N (.cells #[.int .i64 6, Z.n a, .string nm, .int .i64 n, .slice A 0 c] 24) (fun k1 w1 l1 x1 b1 zw1 tb1 => ?_)
  refine Z.e (Z.r [0, 1, 2] ?_)
  refine Z.p [0] [1, 2] [(5, Z.P k1 4)] ?_
  refine Z.L 4 (.slice A 0 c) b1 ?_
  refine Z.p [2] [] [(4, .slice A 0 c)] ?_
  refine Z.e (Z.r [0, 1] ?_)
  refine Z.p [0] [1] [(7, Z.P k1 0)] ?_
  refine Z.L 0 (.int .i64 6) b1 ?_
  refine Z.e (wp_block (Z.sf [(9, .bool false), (10, .bool false)] ?_))
  refine Z.sf [(27, .bool false), (28, .bool false)] ?_
  refine Z.sf [(36, .bool false), (37, .bool false)] ?_
  refine wp_seq (Z.st [(41, .bool true), (42, .bool true)] ?_)
  refine wp_skip (Z.x (Z.ct ?_))
  refine Z.g [0, 1, 2, 3, 4] ?_
  refine Z.p [0, 1] [2, 3, 4] [(45, Z.P k1 2), (44, Z.P b 0)] ?_
  refine Z.L 2 (.string nm) b1 ?_
  refine Z.R (.cells #[.string nm] 9) 1 1 (fun k2 w2 l2 x2 b2 zw2 tb2 => ?_)
  have zs1 : (putJ x [nm]).size ≤ x.size + (nm.size + 1 + 0) := putJ_bd [nm] x
  (try simp only [zap, zli, List.length] at zs1)
  refine Z.k (fun R hR => put_c B b x [nm] k2 1 _ R ((h.ext x1).ext x2) (by omega) b2 (by omega) (Nat.le_of_ble_eq_true rfl) (by omega) (fun w3 s1 hs1 x3 hbd1 => hR _ _ ?_))
  have zw3 := x3.size
  rw [← hs1] at zs1
  refine Gx.ops_nil (Gx.block_normal (Gx.ret_n (Gx.res0 rfl) ?_))
  exact hK _ _ (by rw [hs1]; (first | done | exact congrArg (J x) (bl (by (try simp [l_app, Z.bd, Z.ed]))))) ((((Gx.Wx.refl (e := 5) (wb := b) w hBw).ext x1).ext x2).trans x3) hbd1
theorem exp_7 (B b : Nat) (x : ByteArray) (w0 : World) (a : Nat) (nm : ByteArray) (n : Int) (kA : Nd) (A : Option Addr) (c : Nat) (As : Nat → Option Addr) (cs : Nat → Nat) (tA : ByteArray) (w : World) (K : Ending → World → Prop) (h : Bd w B b x) (hBw : B ≤ w.heap.size) (hE : Gx.Ext w0 w) (hw0B : w0.heap.size ≤ B) (hsz : x.size + ((((Z.B [102, 110, 32]) ++ nm) ++ Z.k30) ++ tA).size ≤ 100000000000) (hr : Gx.Rd w0 A 1 5 (fun i => ndC ([kA].getD i nd0) (As i) (cs i))) (h0 : POK w0 kA (As 0) (cs 0) tA) (o0 : Op5 kA) (p0 : 0 < tA.size) (hm : 0 < nm.size) (hK : ∀ w' s', s' = J x ((((Z.B [102, 110, 32]) ++ nm) ++ Z.k30) ++ tA) → Gx.Wx 5 B b w w' → Bd w' B b s' → K (.returned (.tuple #[])) w') :
    Calls Tryd.prog 42 #[Z.P b 0, .agg #[.int .i64 7, Z.n a, .string nm, .int .i64 n, .slice A 1 c]] w K := by
  refine Z.en 146 Tryd.func42 ?_
  have tbb : b < w.heap.size := by obtain ⟨_, _, hq, _⟩ := h; exact hq.lt
  have hB : B ≤ b := by obtain ⟨_, _, _, _, hq, _⟩ := h; exact hq
  have hq := hsz; (try simp only [zap, zli, List.length] at hq)
  refine Z.r [0] ?_
  refine Z.N (.cells #[.int .i64 7, Z.n a, .string nm, .int .i64 n, .slice A 1 c] 24) (fun k1 w1 l1 x1 b1 zw1 tb1 => ?_)
  refine Z.e (Z.r [0, 1, 2] ?_)
  refine Z.p [0] [1, 2] [(5, Z.P k1 4)] ?_
  refine Z.L 4 (.slice A 1 c) b1 ?_
  refine Z.p [2] [] [(4, .slice A 1 c)] ?_
  refine Z.e (Z.r [0, 1] ?_)
  refine Z.p [0] [1] [(7, Z.P k1 0)] ?_
  refine Z.L 0 (.int .i64 7) b1 ?_
  refine Z.e (wp_block (Z.sf [(9, .bool false), (10, .bool false)] ?_))
  refine Z.sf [(27, .bool false), (28, .bool false)] ?_
  refine Z.sf [(36, .bool false), (37, .bool false)] ?_
  refine wp_seq (Z.sf [(41, .bool false), (42, .bool false)] ?_)
  refine Z.u [(41, .bool false), (43, .bool false)] ?_
  refine Z.x (Z.cf ?_)
  refine Z.st [(49, .bool true), (50, .bool true)] ?_
  refine Z.r [0, 1, 2, 3, 4] ?_
  refine Z.p [0, 1] [2, 3, 4] [(52, Z.P k1 2), (51, Z.P b 0)] ?_
  refine Z.L 2 (.string nm) b1 ?_
  refine Z.R (.cells #[.string Z.k25, .string nm, .string Z.k1] 9) 3 3 (fun k2 w2 l2 x2 b2 zw2 tb2 => ?_)
  have zs1 : (putJ x [Z.k25, nm, Z.k1]).size ≤ x.size + (Z.k25.size + 1 + (nm.size + 1 + (Z.k1.size + 1 + 0))) := putJ_bd [Z.k25, nm, Z.k1] x
  (try simp only [zap, zli, List.length] at zs1)
  refine Z.k (fun R hR => put_c B b x [Z.k25, nm, Z.k1] k2 3 _ R ((h.ext x1).ext x2) (by omega) b2 (by omega) (Nat.le_of_ble_eq_true rfl) (by omega) (fun w3 s1 hs1 x3 hbd1 => hR _ _ ?_))
  have zw3 := x3.size
  rw [← hs1] at zs1
  refine Z.e (Z.g [0, 1, 2, 3, 4] ?_)
  refine Z.p [0, 1] [2, 3, 4] [(57, .slice A 1 c), (56, Z.P b 0)] ?_
  obtain ⟨a1, ha1, hc1⟩ := hr 0 (by omega)
  refine Z.I 24 5 ha1 1 c 0 ?_
  refine Z.La [Z.n kA.k, Z.n kA.a, .string kA.nm, .int .i64 kA.n, .slice (As 0) kA.ks.length (cs 0)] 5 hc1 (Gx.Ext.wx hE ((((Gx.Wx.refl (e := 5) (wb := b) w hBw).ext x1).ext x2).trans x3) hw0B) ?_
  have zs2 := (J_size s1 tA).1
  (try simp only [zap, zli, List.length] at zs2)
  refine Z.k (fun R hR => h0 B b s1 _ R hbd1 (by omega) (Gx.Ext.wx hE ((((Gx.Wx.refl (e := 5) (wb := b) w hBw).ext x1).ext x2).trans x3) hw0B) hw0B (by omega) (fun w4 s2 hs2 x4 hbd2 => hR _ _ ?_))
  have zw4 := x4.size
  rw [← hs2] at zs2
  refine Gx.ops_nil (Gx.block_normal (Gx.ret_n (Gx.res0 rfl) ?_))
  exact hK _ _ (by rw [hs2, hs1]; show putJ x [Z.k25, nm, Z.k1, tA] = _; rw [putJ_join _ (by first | decide | omega | (simp only [zap, zli, List.length]; omega))]; exact congrArg (J x) (bl (by (try simp [joinS, l_app, Z.bd, Z.ed])))) (((((Gx.Wx.refl (e := 5) (wb := b) w hBw).ext x1).ext x2).trans x3).trans x4) hbd2
theorem exp_8 (B b : Nat) (x : ByteArray) (w0 : World) (a : Nat) (nm : ByteArray) (n : Int) (kA kB : Nd) (A : Option Addr) (c : Nat) (As : Nat → Option Addr) (cs : Nat → Nat) (tA tB : ByteArray) (w : World) (K : Ending → World → Prop) (h : Bd w B b x) (hBw : B ≤ w.heap.size) (hE : Gx.Ext w0 w) (hw0B : w0.heap.size ≤ B) (hsz : x.size + (((if kA.k = 8 then tA else inT 6 kA tA) ++ Z.k3) ++ inT 6 kB tB).size ≤ 100000000000) (hr : Gx.Rd w0 A 2 5 (fun i => ndC ([kA, kB].getD i nd0) (As i) (cs i))) (h0 : POK w0 kA (As 0) (cs 0) tA) (o0 : Op5 kA) (p0 : 0 < tA.size) (h1 : POK w0 kB (As 1) (cs 1) tB) (o1 : Op5 kB) (p1 : 0 < tB.size) (hK : ∀ w' s', s' = J x (((if kA.k = 8 then tA else inT 6 kA tA) ++ Z.k3) ++ inT 6 kB tB) → Gx.Wx 5 B b w w' → Bd w' B b s' → K (.returned (.tuple #[])) w') :
    Calls Tryd.prog 42 #[Z.P b 0, .agg #[.int .i64 8, Z.n a, .string nm, .int .i64 n, .slice A 2 c]] w K := by
  refine Z.en 146 Tryd.func42 ?_
  have tbb : b < w.heap.size := by obtain ⟨_, _, hq, _⟩ := h; exact hq.lt
  have hB : B ≤ b := by obtain ⟨_, _, _, _, hq, _⟩ := h; exact hq
  have hq := hsz; (try simp only [zap, zli, List.length] at hq)
  have i0 := inT_le 6 kA tA; have i1 := inT_le 6 kB tB
  refine Z.r [0] ?_
  refine Z.N (.cells #[.int .i64 8, Z.n a, .string nm, .int .i64 n, .slice A 2 c] 24) (fun k1 w1 l1 x1 b1 zw1 tb1 => ?_)
  refine Z.e (Z.r [0, 1, 2] ?_)
  refine Z.p [0] [1, 2] [(5, Z.P k1 4)] ?_
  refine Z.L 4 (.slice A 2 c) b1 ?_
  refine Z.p [2] [] [(4, .slice A 2 c)] ?_
  refine Z.e (Z.r [0, 1] ?_)
  refine Z.p [0] [1] [(7, Z.P k1 0)] ?_
  refine Z.L 0 (.int .i64 8) b1 ?_
  refine Z.e (wp_block (Z.sf [(9, .bool false), (10, .bool false)] ?_))
  refine Z.sf [(27, .bool false), (28, .bool false)] ?_
  refine Z.sf [(36, .bool false), (37, .bool false)] ?_
  refine wp_seq (Z.sf [(41, .bool false), (42, .bool false)] ?_)
  refine Z.u [(41, .bool false), (43, .bool false)] ?_
  refine Z.x (Z.cf ?_)
  refine Z.sf [(49, .bool false), (50, .bool false)] ?_
  refine Z.st [(61, .bool true), (62, .bool true)] ?_
  refine wp_seq (Z.r [0, 1, 2, 3, 4] ?_)
  refine Z.p [0] [1, 2, 3, 4] [(63, .slice A 2 c)] ?_
  obtain ⟨a1, ha1, hc1⟩ := hr 0 (by omega)
  refine Z.I 24 5 ha1 2 c 0 ?_
  refine Z.F (a1.add (0 * 5)) 0 ?_
  refine Z.Lo [Z.n kA.k] (Z.n kA.k) 1 (Gx.cells_sub hc1 0 1 rfl) (Gx.Ext.wx hE ((Gx.Wx.refl (e := 5) (wb := b) w hBw).ext x1) hw0B) ?_
  refine Z.p [4] [] [(67, .bool (((kA.k : Nat) : Int) == (8 : Int)))] ?_
  refine Z.e (Z.c (((kA.k : Nat) : Int) == (8 : Int)) (fun h_c67 => ?_) (fun h_c67 => ?_))
  · skip
    have n_c67 : kA.k = 8 := by have z := Gx.k1 h_c67; omega
    have h8 : kA.k = 8 := by omega
    rw [if_pos h8] at hq
    refine Z.g [0, 1, 2, 3, 4] ?_
    refine Z.p [0, 1] [2, 3, 4] [(69, .slice A 2 c), (68, Z.P b 0)] ?_
    obtain ⟨a2, ha2, hc2⟩ := hr 0 (by omega)
    refine Z.I 24 5 ha2 2 c 0 ?_
    refine Z.La [Z.n kA.k, Z.n kA.a, .string kA.nm, .int .i64 kA.n, .slice (As 0) kA.ks.length (cs 0)] 5 hc2 (Gx.Ext.wx hE ((Gx.Wx.refl (e := 5) (wb := b) w hBw).ext x1) hw0B) ?_
    have zs1 := (J_size x tA).1
    (try simp only [zap, zli, List.length] at zs1)
    refine Z.k (fun R hR => h0 B b x _ R (h.ext x1) (by omega) (Gx.Ext.wx hE ((Gx.Wx.refl (e := 5) (wb := b) w hBw).ext x1) hw0B) hw0B (by omega) (fun w2 s1 hs1 x2 hbd1 => hR _ _ ?_))
    have zw2 := x2.size
    rw [← hs1] at zs1
    refine Gx.ops_nil (Z.x (Z.g [0, 1, 2, 3, 4] ?_))
    refine Z.p [0, 1] [2, 3, 4] [(79, .slice A 2 c), (78, Z.P b 0)] ?_
    obtain ⟨a3, ha3, hc3⟩ := hr 1 (by omega)
    refine Z.I 24 5 ha3 2 c 1 ?_
    refine Z.La [Z.n kB.k, Z.n kB.a, .string kB.nm, .int .i64 kB.n, .slice (As 1) kB.ks.length (cs 1)] 5 hc3 (Gx.Ext.wx hE (((Gx.Wx.refl (e := 5) (wb := b) w hBw).ext x1).trans x2) hw0B) ?_
    have zs2 := (J_size s1 (inT 6 kB tB)).1
    (try simp only [zap, zli, List.length] at zs2)
    refine Z.k (fun R hR => kid_c B b s1 w0 kB (As 1) (cs 1) tB 6 _ R hbd1 (by omega) (Gx.Ext.wx hE (((Gx.Wx.refl (e := 5) (wb := b) w hBw).ext x1).trans x2) hw0B) hw0B (by omega) h1 o1 (fun w3 s2 hs2 x3 hbd2 => hR _ _ ?_))
    have zw3 := x3.size
    rw [← hs2] at zs2
    refine Gx.ops_nil (Gx.block_normal (Gx.ret_n (Gx.res0 rfl) ?_))
    exact hK _ _ (by rw [hs2, hs1]; show putJ x [tA, inT 6 kB tB] = _; rw [putJ_join _ (by first | decide | omega | (simp only [zap, zli, List.length]; omega))]; exact congrArg (J x) (bl (by rw [if_pos h8]; (try simp [joinS, l_app, Z.bd, Z.ed])))) ((((Gx.Wx.refl (e := 5) (wb := b) w hBw).ext x1).trans x2).trans x3) hbd2
  have n_c67 : ¬ kA.k = 8 := by have z := Gx.k0 h_c67; omega
  have h8 : ¬ kA.k = 8 := by omega
  rw [if_neg h8] at hq
  refine Z.g [0, 1, 2, 3, 4] ?_
  refine Z.p [0, 1] [2, 3, 4] [(74, .slice A 2 c), (73, Z.P b 0)] ?_
  obtain ⟨a4, ha4, hc4⟩ := hr 0 (by omega)
  refine Z.I 24 5 ha4 2 c 0 ?_
  refine Z.La [Z.n kA.k, Z.n kA.a, .string kA.nm, .int .i64 kA.n, .slice (As 0) kA.ks.length (cs 0)] 5 hc4 (Gx.Ext.wx hE ((Gx.Wx.refl (e := 5) (wb := b) w hBw).ext x1) hw0B) ?_
  have zs3 := (J_size x (inT 6 kA tA)).1
  (try simp only [zap, zli, List.length] at zs3)
  refine Z.k (fun R hR => kid_c B b x w0 kA (As 0) (cs 0) tA 6 _ R (h.ext x1) (by omega) (Gx.Ext.wx hE ((Gx.Wx.refl (e := 5) (wb := b) w hBw).ext x1) hw0B) hw0B (by omega) h0 o0 (fun w4 s3 hs3 x4 hbd3 => hR _ _ ?_))
  have zw4 := x4.size
  rw [← hs3] at zs3
  refine Gx.ops_nil (Z.x (Z.g [0, 1, 2, 3, 4] ?_))
  refine Z.p [0, 1] [2, 3, 4] [(79, .slice A 2 c), (78, Z.P b 0)] ?_
  obtain ⟨a5, ha5, hc5⟩ := hr 1 (by omega)
  refine Z.I 24 5 ha5 2 c 1 ?_
  refine Z.La [Z.n kB.k, Z.n kB.a, .string kB.nm, .int .i64 kB.n, .slice (As 1) kB.ks.length (cs 1)] 5 hc5 (Gx.Ext.wx hE (((Gx.Wx.refl (e := 5) (wb := b) w hBw).ext x1).trans x4) hw0B) ?_
  have zs4 := (J_size s3 (inT 6 kB tB)).1
  (try simp only [zap, zli, List.length] at zs4)
  refine Z.k (fun R hR => kid_c B b s3 w0 kB (As 1) (cs 1) tB 6 _ R hbd3 (by omega) (Gx.Ext.wx hE (((Gx.Wx.refl (e := 5) (wb := b) w hBw).ext x1).trans x4) hw0B) hw0B (by omega) h1 o1 (fun w5 s4 hs4 x5 hbd4 => hR _ _ ?_))
  have zw5 := x5.size
  rw [← hs4] at zs4
  refine Gx.ops_nil (Gx.block_normal (Gx.ret_n (Gx.res0 rfl) ?_))
  exact hK _ _ (by rw [hs4, hs3]; show putJ x [inT 6 kA tA, inT 6 kB tB] = _; rw [putJ_join _ (by first | decide | omega | (simp only [zap, zli, List.length]; omega))]; exact congrArg (J x) (bl (by rw [if_neg h8]; (try simp [joinS, l_app, Z.bd, Z.ed])))) ((((Gx.Wx.refl (e := 5) (wb := b) w hBw).ext x1).trans x4).trans x5) hbd4
theorem exp_9 (B b : Nat) (x : ByteArray) (w0 : World) (a : Nat) (nm : ByteArray) (kA kB : Nd) (A : Option Addr) (c : Nat) (As : Nat → Option Addr) (cs : Nat → Nat) (tA tB : ByteArray) (w : World) (K : Ending → World → Prop) (h : Bd w B b x) (hBw : B ≤ w.heap.size) (hE : Gx.Ext w0 w) (hw0B : w0.heap.size ≤ B) (hsz : x.size + ((((((Z.B [108, 101, 116, 32]) ++ nm) ++ Z.k52) ++ tA) ++ Z.k58) ++ tB).size ≤ 100000000000) (hr : Gx.Rd w0 A 2 5 (fun i => ndC ([kA, kB].getD i nd0) (As i) (cs i))) (h0 : POK w0 kA (As 0) (cs 0) tA) (o0 : Op5 kA) (p0 : 0 < tA.size) (h1 : POK w0 kB (As 1) (cs 1) tB) (o1 : Op5 kB) (p1 : 0 < tB.size) (hm : 0 < nm.size) (hK : ∀ w' s', s' = J x ((((((Z.B [108, 101, 116, 32]) ++ nm) ++ Z.k52) ++ tA) ++ Z.k58) ++ tB) → Gx.Wx 5 B b w w' → Bd w' B b s' → K (.returned (.tuple #[])) w') :
    Calls Tryd.prog 42 #[Z.P b 0, .agg #[.int .i64 9, Z.n a, .string nm, .int .i64 0, .slice A 2 c]] w K := by
  refine Z.en 146 Tryd.func42 ?_
  have tbb : b < w.heap.size := by obtain ⟨_, _, hq, _⟩ := h; exact hq.lt
  have hB : B ≤ b := by obtain ⟨_, _, _, _, hq, _⟩ := h; exact hq
  have hq := hsz; (try simp only [zap, zli, List.length] at hq)
  refine Z.r [0] ?_
  refine Z.N (.cells #[.int .i64 9, Z.n a, .string nm, .int .i64 0, .slice A 2 c] 24) (fun k1 w1 l1 x1 b1 zw1 tb1 => ?_)
  refine Z.e (Z.r [0, 1, 2] ?_)
  refine Z.p [0] [1, 2] [(5, Z.P k1 4)] ?_
  refine Z.L 4 (.slice A 2 c) b1 ?_
  refine Z.p [2] [] [(4, .slice A 2 c)] ?_
  refine Z.e (Z.r [0, 1] ?_)
  refine Z.p [0] [1] [(7, Z.P k1 0)] ?_
  refine Z.L 0 (.int .i64 9) b1 ?_
  refine Z.e (wp_block (Z.sf [(9, .bool false), (10, .bool false)] ?_))
  refine Z.sf [(27, .bool false), (28, .bool false)] ?_
  refine Z.sf [(36, .bool false), (37, .bool false)] ?_
  refine wp_seq (Z.sf [(41, .bool false), (42, .bool false)] ?_)
  refine Z.u [(41, .bool false), (43, .bool false)] ?_
  refine Z.x (Z.cf ?_)
  refine Z.sf [(49, .bool false), (50, .bool false)] ?_
  refine Z.sf [(61, .bool false), (62, .bool false)] ?_
  refine Z.st [(83, .bool true), (84, .bool true)] ?_
  refine Z.r [0, 1, 2] ?_
  refine Z.p [0] [1, 2] [(85, Z.P b 0)] ?_
  refine Z.R (.cells #[.string Z.k12] 9) 1 1 (fun k2 w2 l2 x2 b2 zw2 tb2 => ?_)
  have zs1 : (putJ x [Z.k12]).size ≤ x.size + (Z.k12.size + 1 + 0) := putJ_bd [Z.k12] x
  (try simp only [zap, zli, List.length] at zs1)
  refine Z.k (fun R hR => put_c B b x [Z.k12] k2 1 _ R ((h.ext x1).ext x2) (by omega) b2 (by omega) (Nat.le_of_ble_eq_true rfl) (by omega) (fun w3 s1 hs1 x3 hbd1 => hR _ _ ?_))
  have zw3 := x3.size
  rw [← hs1] at zs1
  refine Z.e (wp_seq (Z.r [0, 1, 2] ?_))
  refine Z.p [0] [1, 2] [(88, Z.P k1 3)] ?_
  have y1 := x3.has (b1.ext x2) (by omega) (by decide)
  refine Z.L 3 (.int .i64 0) y1 ?_
  refine Z.p [2] [] [(90, .bool false)] ?_
  refine Z.e (Z.cf ?_)
  refine wp_skip (Z.x (Z.r [0, 1, 2, 3, 4] ?_))
  refine Z.p [0, 1] [2, 3, 4] [(95, Z.P k1 2), (94, Z.P b 0)] ?_
  refine Z.L 2 (.string nm) y1 ?_
  refine Z.R (.cells #[.string nm] 9) 1 1 (fun k3 w4 l3 x4 b3 zw4 tb3 => ?_)
  have zs2 : (putJ s1 [nm]).size ≤ s1.size + (nm.size + 1 + 0) := putJ_bd [nm] s1
  (try simp only [zap, zli, List.length] at zs2)
  refine Z.k (fun R hR => put_c B b s1 [nm] k3 1 _ R (hbd1.ext x4) (by omega) b3 (by omega) (Nat.le_of_ble_eq_true rfl) (by omega) (fun w5 s2 hs2 x5 hbd2 => hR _ _ ?_))
  have zw5 := x5.size
  rw [← hs2] at zs2
  refine Z.e (wp_seq (Z.D (fun w' => Gx.Has w' k1 (.cells #[.int .i64 9, Z.n a, .string nm, .int .i64 0, .slice A 2 c] 24) ∧ Gx.Ext w0 w') (fun w6 x6 zw6 => ?_)))
  have y2 := (x5.has (y1.ext x4) (by omega) (by decide)).ext x6
  refine Z.h ⟨y2, (Gx.Ext.wx hE (((((((Gx.Wx.refl (e := 5) (wb := b) w hBw).ext x1).ext x2).trans x3).ext x4).trans x5).ext x6) hw0B)⟩ (fun hS1 => ?_)
  refine Z.t 0 (Z.P b 0) hS1 ?_
  refine Z.t 1 (.slice A 2 c) hS1 ?_
  obtain ⟨a1, ha1, hc1⟩ := hr 0 (by omega)
  refine Z.ti 2 24 5 ha1 2 c 0 hS1 ?_
  refine Z.ta 3 [Z.n kA.k, Z.n kA.a, .string kA.nm, .int .i64 kA.n, .slice (As 0) kA.ks.length (cs 0)] 5 hc1 (fun _ hs => hs.2) hS1 ?_
  refine Z.t 4 (Z.P k1 3) hS1 ?_
  refine Z.tl 5 3 (.int .i64 0) (fun _ hs => hs.1) hS1 ?_
  refine Z.t 6 (.bool false) hS1 ?_
  have zs3 := (J_size s2 ((Z.B [61, 32]) ++ tA)).1
  (try simp only [zap, zli, List.length] at zs3)
  refine Z.o 7 (fun R hR => bound_f B b s2 w0 kA (As 0) (cs 0) tA _ R (hbd2.ext x6) (by omega) (Gx.Ext.wx hE (((((((Gx.Wx.refl (e := 5) (wb := b) w hBw).ext x1).ext x2).trans x3).ext x4).trans x5).ext x6) hw0B) hw0B (by (try simp only [zap, zli, List.length]); omega) h0 (fun w7 s3 hs3 x7 hbd3 => hR _ _ ⟨⟨(x7.has y2 (by omega) (by decide)), (Gx.Ext.wx hE ((((((((Gx.Wx.refl (e := 5) (wb := b) w hBw).ext x1).ext x2).trans x3).ext x4).trans x5).ext x6).trans x7) hw0B)⟩, fun hS2 => ?_⟩))
  have zw7 := x7.size
  rw [← hs3] at zs3
  refine Z.q ?_
  refine Z.x (Z.r [0, 1, 2] ?_)
  refine Z.p [0] [1, 2] [(107, Z.P b 0)] ?_
  refine Z.R (.cells #[.string Z.k21] 9) 1 1 (fun k4 w8 l4 x8 b4 zw8 tb4 => ?_)
  have zs4 : (putJ s3 [Z.k21]).size ≤ s3.size + (Z.k21.size + 1 + 0) := putJ_bd [Z.k21] s3
  (try simp only [zap, zli, List.length] at zs4)
  refine Z.k (fun R hR => put_c B b s3 [Z.k21] k4 1 _ R (hbd3.ext x8) (by omega) b4 (by omega) (Nat.le_of_ble_eq_true rfl) (by omega) (fun w9 s4 hs4 x9 hbd4 => hR _ _ ?_))
  have zw9 := x9.size
  rw [← hs4] at zs4
  refine Z.e (Z.g [0, 1, 2, 3, 4] ?_)
  refine Z.p [0, 1] [2, 3, 4] [(111, .slice A 2 c), (110, Z.P b 0)] ?_
  obtain ⟨a2, ha2, hc2⟩ := hr 1 (by omega)
  refine Z.I 24 5 ha2 2 c 1 ?_
  refine Z.La [Z.n kB.k, Z.n kB.a, .string kB.nm, .int .i64 kB.n, .slice (As 1) kB.ks.length (cs 1)] 5 hc2 (Gx.Ext.wx hE ((((((((((Gx.Wx.refl (e := 5) (wb := b) w hBw).ext x1).ext x2).trans x3).ext x4).trans x5).ext x6).trans x7).ext x8).trans x9) hw0B) ?_
  have zs5 := (J_size s4 tB).1
  (try simp only [zap, zli, List.length] at zs5)
  refine Z.k (fun R hR => h1 B b s4 _ R hbd4 (by omega) (Gx.Ext.wx hE ((((((((((Gx.Wx.refl (e := 5) (wb := b) w hBw).ext x1).ext x2).trans x3).ext x4).trans x5).ext x6).trans x7).ext x8).trans x9) hw0B) hw0B (by omega) (fun w10 s5 hs5 x10 hbd5 => hR _ _ ?_))
  have zw10 := x10.size
  rw [← hs5] at zs5
  refine Gx.ops_nil (Gx.block_normal (Gx.ret_n (Gx.res0 rfl) ?_))
  exact hK _ _ (by rw [hs5, hs4, hs3, hs2, hs1]; show putJ x [Z.k12, nm, (Z.B [61, 32]) ++ tA, Z.k21, tB] = _; rw [putJ_join _ (by first | decide | omega | (simp only [zap, zli, List.length]; omega))]; exact congrArg (J x) (bl (by (try simp [joinS, l_app, Z.bd, Z.ed])))) (((((((((((Gx.Wx.refl (e := 5) (wb := b) w hBw).ext x1).ext x2).trans x3).ext x4).trans x5).ext x6).trans x7).ext x8).trans x9).trans x10) hbd5
theorem exp_9r (B b : Nat) (x : ByteArray) (w0 : World) (a : Nat) (nm : ByteArray) (A : Option Addr) (c : Nat) (As : Nat → Option Addr) (cs : Nat → Nat) (fa : Nat) (fx : ByteArray) (fm : Int) (kC kB : Nd) (tC tB : ByteArray) (Bs : Nat → Option Addr) (ds : Nat → Nat) (w : World) (K : Ending → World → Prop) (h : Bd w B b x) (hBw : B ≤ w.heap.size) (hE : Gx.Ext w0 w) (hw0B : w0.heap.size ≤ B) (hsz : x.size + (((((Z.k62 ++ nm) ++ Z.k3) ++ ((fx ++ Z.k52) ++ tC)) ++ Z.k58) ++ tB).size ≤ 100000000000) (hr : Gx.Rd w0 A 2 5 (fun i => ndC ([Nd.mk 7 fa fx fm [kC], kB].getD i nd0) (As i) (cs i))) (hr0 : Gx.Rd w0 (As 0) 1 5 (fun i => ndC ([kC].getD i nd0) (Bs i) (ds i))) (h0 : POK w0 kC (Bs 0) (ds 0) tC) (h1 : POK w0 kB (As 1) (cs 1) tB) (p1 : 0 < tB.size) (hm : 0 < nm.size) (hf : 0 < fx.size) (hK : ∀ w' s', s' = J x (((((Z.k62 ++ nm) ++ Z.k3) ++ ((fx ++ Z.k52) ++ tC)) ++ Z.k58) ++ tB) → Gx.Wx 5 B b w w' → Bd w' B b s' → K (.returned (.tuple #[])) w') :
    Calls Tryd.prog 42 #[Z.P b 0, .agg #[.int .i64 9, Z.n a, .string nm, .int .i64 1, .slice A 2 c]] w K := by
  refine Z.en 146 Tryd.func42 ?_
  have tbb : b < w.heap.size := by obtain ⟨_, _, hq, _⟩ := h; exact hq.lt
  have hB : B ≤ b := by obtain ⟨_, _, _, _, hq, _⟩ := h; exact hq
  have hq := hsz; (try simp only [zap, zli, List.length] at hq)
  refine Z.r [0] ?_
  refine Z.N (.cells #[.int .i64 9, Z.n a, .string nm, .int .i64 1, .slice A 2 c] 24) (fun k1 w1 l1 x1 b1 zw1 tb1 => ?_)
  refine Z.e (Z.r [0, 1, 2] ?_)
  refine Z.p [0] [1, 2] [(5, Z.P k1 4)] ?_
  refine Z.L 4 (.slice A 2 c) b1 ?_
  refine Z.p [2] [] [(4, .slice A 2 c)] ?_
  refine Z.e (Z.r [0, 1] ?_)
  refine Z.p [0] [1] [(7, Z.P k1 0)] ?_
  refine Z.L 0 (.int .i64 9) b1 ?_
  refine Z.e (wp_block (Z.sf [(9, .bool false), (10, .bool false)] ?_))
  refine Z.sf [(27, .bool false), (28, .bool false)] ?_
  refine Z.sf [(36, .bool false), (37, .bool false)] ?_
  refine wp_seq (Z.sf [(41, .bool false), (42, .bool false)] ?_)
  refine Z.u [(41, .bool false), (43, .bool false)] ?_
  refine Z.x (Z.cf ?_)
  refine Z.sf [(49, .bool false), (50, .bool false)] ?_
  refine Z.sf [(61, .bool false), (62, .bool false)] ?_
  refine Z.st [(83, .bool true), (84, .bool true)] ?_
  refine Z.r [0, 1, 2] ?_
  refine Z.p [0] [1, 2] [(85, Z.P b 0)] ?_
  refine Z.R (.cells #[.string Z.k12] 9) 1 1 (fun k2 w2 l2 x2 b2 zw2 tb2 => ?_)
  have zs1 : (putJ x [Z.k12]).size ≤ x.size + (Z.k12.size + 1 + 0) := putJ_bd [Z.k12] x
  (try simp only [zap, zli, List.length] at zs1)
  refine Z.k (fun R hR => put_c B b x [Z.k12] k2 1 _ R ((h.ext x1).ext x2) (by omega) b2 (by omega) (Nat.le_of_ble_eq_true rfl) (by omega) (fun w3 s1 hs1 x3 hbd1 => hR _ _ ?_))
  have zw3 := x3.size
  rw [← hs1] at zs1
  refine Z.e (wp_seq (Z.r [0, 1, 2] ?_))
  refine Z.p [0] [1, 2] [(88, Z.P k1 3)] ?_
  have y1 := x3.has (b1.ext x2) (by omega) (by decide)
  refine Z.L 3 (.int .i64 1) y1 ?_
  refine Z.p [2] [] [(90, .bool true)] ?_
  refine Z.e (Z.ct ?_)
  refine Z.g [0, 1, 2] ?_
  refine Z.p [0] [1, 2] [(91, Z.P b 0)] ?_
  refine Z.R (.cells #[.string Z.k19] 9) 1 1 (fun k3 w4 l3 x4 b3 zw4 tb3 => ?_)
  have zs2 : (putJ s1 [Z.k19]).size ≤ s1.size + (Z.k19.size + 1 + 0) := putJ_bd [Z.k19] s1
  (try simp only [zap, zli, List.length] at zs2)
  refine Z.k (fun R hR => put_c B b s1 [Z.k19] k3 1 _ R (hbd1.ext x4) (by omega) b3 (by omega) (Nat.le_of_ble_eq_true rfl) (by omega) (fun w5 s2 hs2 x5 hbd2 => hR _ _ ?_))
  have zw5 := x5.size
  rw [← hs2] at zs2
  refine Gx.ops_nil (Z.x (Z.r [0, 1, 2, 3, 4] ?_))
  refine Z.p [0, 1] [2, 3, 4] [(95, Z.P k1 2), (94, Z.P b 0)] ?_
  have y2 := x5.has (y1.ext x4) (by omega) (by decide)
  refine Z.L 2 (.string nm) y2 ?_
  refine Z.R (.cells #[.string nm] 9) 1 1 (fun k4 w6 l4 x6 b4 zw6 tb4 => ?_)
  have zs3 : (putJ s2 [nm]).size ≤ s2.size + (nm.size + 1 + 0) := putJ_bd [nm] s2
  (try simp only [zap, zli, List.length] at zs3)
  refine Z.k (fun R hR => put_c B b s2 [nm] k4 1 _ R (hbd2.ext x6) (by omega) b4 (by omega) (Nat.le_of_ble_eq_true rfl) (by omega) (fun w7 s3 hs3 x7 hbd3 => hR _ _ ?_))
  have zw7 := x7.size
  rw [← hs3] at zs3
  refine Z.e (wp_seq (Z.D (fun w' => Gx.Has w' k1 (.cells #[.int .i64 9, Z.n a, .string nm, .int .i64 1, .slice A 2 c] 24) ∧ Gx.Ext w0 w') (fun w8 x8 zw8 => ?_)))
  have y3 := (x7.has (y2.ext x6) (by omega) (by decide)).ext x8
  refine Z.h ⟨y3, (Gx.Ext.wx hE (((((((((Gx.Wx.refl (e := 5) (wb := b) w hBw).ext x1).ext x2).trans x3).ext x4).trans x5).ext x6).trans x7).ext x8) hw0B)⟩ (fun hS1 => ?_)
  refine Z.t 0 (Z.P b 0) hS1 ?_
  refine Z.t 1 (.slice A 2 c) hS1 ?_
  obtain ⟨a1, ha1, hc1⟩ := hr 0 (by omega)
  refine Z.ti 2 24 5 ha1 2 c 0 hS1 ?_
  refine Z.ta 3 [.int .i64 7, Z.n fa, .string fx, .int .i64 fm, .slice (As 0) 1 (cs 0)] 5 hc1 (fun _ hs => hs.2) hS1 ?_
  refine Z.t 4 (Z.P k1 3) hS1 ?_
  refine Z.tl 5 3 (.int .i64 1) (fun _ hs => hs.1) hS1 ?_
  refine Z.t 6 (.bool true) hS1 ?_
  have zs4 := (J_size s3 ((fx ++ Z.k52) ++ tC)).1
  (try simp only [zap, zli, List.length] at zs4)
  refine Z.o 7 (fun R hR => (fun B b x w K h hB hE hw hz k => bound_t B b x w0 fa fx fm kC (As 0) (cs 0) Bs ds tC w K h hB hE hw hz hr0 h0 hf k) B b s3 _ R (hbd3.ext x8) (by omega) (Gx.Ext.wx hE (((((((((Gx.Wx.refl (e := 5) (wb := b) w hBw).ext x1).ext x2).trans x3).ext x4).trans x5).ext x6).trans x7).ext x8) hw0B) hw0B (by (try simp only [zap, zli, List.length]); omega) (fun w9 s4 hs4 x9 hbd4 => hR _ _ ⟨⟨(x9.has y3 (by omega) (by decide)), (Gx.Ext.wx hE ((((((((((Gx.Wx.refl (e := 5) (wb := b) w hBw).ext x1).ext x2).trans x3).ext x4).trans x5).ext x6).trans x7).ext x8).trans x9) hw0B)⟩, fun hS2 => ?_⟩))
  have zw9 := x9.size
  rw [← hs4] at zs4
  refine Z.q ?_
  refine Z.x (Z.r [0, 1, 2] ?_)
  refine Z.p [0] [1, 2] [(107, Z.P b 0)] ?_
  refine Z.R (.cells #[.string Z.k21] 9) 1 1 (fun k5 w10 l5 x10 b5 zw10 tb5 => ?_)
  have zs5 : (putJ s4 [Z.k21]).size ≤ s4.size + (Z.k21.size + 1 + 0) := putJ_bd [Z.k21] s4
  (try simp only [zap, zli, List.length] at zs5)
  refine Z.k (fun R hR => put_c B b s4 [Z.k21] k5 1 _ R (hbd4.ext x10) (by omega) b5 (by omega) (Nat.le_of_ble_eq_true rfl) (by omega) (fun w11 s5 hs5 x11 hbd5 => hR _ _ ?_))
  have zw11 := x11.size
  rw [← hs5] at zs5
  refine Z.e (Z.g [0, 1, 2, 3, 4] ?_)
  refine Z.p [0, 1] [2, 3, 4] [(111, .slice A 2 c), (110, Z.P b 0)] ?_
  obtain ⟨a2, ha2, hc2⟩ := hr 1 (by omega)
  refine Z.I 24 5 ha2 2 c 1 ?_
  refine Z.La [Z.n kB.k, Z.n kB.a, .string kB.nm, .int .i64 kB.n, .slice (As 1) kB.ks.length (cs 1)] 5 hc2 (Gx.Ext.wx hE ((((((((((((Gx.Wx.refl (e := 5) (wb := b) w hBw).ext x1).ext x2).trans x3).ext x4).trans x5).ext x6).trans x7).ext x8).trans x9).ext x10).trans x11) hw0B) ?_
  have zs6 := (J_size s5 tB).1
  (try simp only [zap, zli, List.length] at zs6)
  refine Z.k (fun R hR => h1 B b s5 _ R hbd5 (by omega) (Gx.Ext.wx hE ((((((((((((Gx.Wx.refl (e := 5) (wb := b) w hBw).ext x1).ext x2).trans x3).ext x4).trans x5).ext x6).trans x7).ext x8).trans x9).ext x10).trans x11) hw0B) hw0B (by omega) (fun w12 s6 hs6 x12 hbd6 => hR _ _ ?_))
  have zw12 := x12.size
  rw [← hs6] at zs6
  refine Gx.ops_nil (Gx.block_normal (Gx.ret_n (Gx.res0 rfl) ?_))
  exact hK _ _ (by rw [hs6, hs5, hs4, hs3, hs2, hs1]; show putJ x [Z.k12, Z.k19, nm, ((fx ++ Z.k52) ++ tC), Z.k21, tB] = _; rw [putJ_join _ (by first | decide | omega | (simp only [zap, zli, List.length]; omega))]; exact congrArg (J x) (bl (by (try simp [joinS, l_app, Z.bd, Z.ed])))) (((((((((((((Gx.Wx.refl (e := 5) (wb := b) w hBw).ext x1).ext x2).trans x3).ext x4).trans x5).ext x6).trans x7).ext x8).trans x9).ext x10).trans x11).trans x12) hbd6
theorem exp_10 (B b : Nat) (x : ByteArray) (w0 : World) (a : Nat) (nm : ByteArray) (n : Int) (kA kB : Nd) (A : Option Addr) (c : Nat) (As : Nat → Option Addr) (cs : Nat → Nat) (tA tB : ByteArray) (w : World) (K : Ending → World → Prop) (h : Bd w B b x) (hBw : B ≤ w.heap.size) (hE : Gx.Ext w0 w) (hw0B : w0.heap.size ≤ B) (hsz : x.size + ((inT 1 kA tA ++ (Z.B [32, 59, 32])) ++ tB).size ≤ 100000000000) (hr : Gx.Rd w0 A 2 5 (fun i => ndC ([kA, kB].getD i nd0) (As i) (cs i))) (h0 : POK w0 kA (As 0) (cs 0) tA) (o0 : Op5 kA) (p0 : 0 < tA.size) (h1 : POK w0 kB (As 1) (cs 1) tB) (o1 : Op5 kB) (p1 : 0 < tB.size) (hK : ∀ w' s', s' = J x ((inT 1 kA tA ++ (Z.B [32, 59, 32])) ++ tB) → Gx.Wx 5 B b w w' → Bd w' B b s' → K (.returned (.tuple #[])) w') :
    Calls Tryd.prog 42 #[Z.P b 0, .agg #[.int .i64 10, Z.n a, .string nm, .int .i64 n, .slice A 2 c]] w K := by
  refine Z.en 146 Tryd.func42 ?_
  have tbb : b < w.heap.size := by obtain ⟨_, _, hq, _⟩ := h; exact hq.lt
  have hB : B ≤ b := by obtain ⟨_, _, _, _, hq, _⟩ := h; exact hq
  have hq := hsz; (try simp only [zap, zli, List.length] at hq)
  have i0 := inT_le 1 kA tA; have i1 := inT0 kB tB; have i2 := congrArg ByteArray.size i1
  refine Z.r [0] ?_
  refine Z.N (.cells #[.int .i64 10, Z.n a, .string nm, .int .i64 n, .slice A 2 c] 24) (fun k1 w1 l1 x1 b1 zw1 tb1 => ?_)
  refine Z.e (Z.r [0, 1, 2] ?_)
  refine Z.p [0] [1, 2] [(5, Z.P k1 4)] ?_
  refine Z.L 4 (.slice A 2 c) b1 ?_
  refine Z.p [2] [] [(4, .slice A 2 c)] ?_
  refine Z.e (Z.r [0, 1] ?_)
  refine Z.p [0] [1] [(7, Z.P k1 0)] ?_
  refine Z.L 0 (.int .i64 10) b1 ?_
  refine Z.e (wp_block (Z.sf [(9, .bool false), (10, .bool false)] ?_))
  refine Z.sf [(27, .bool false), (28, .bool false)] ?_
  refine Z.sf [(36, .bool false), (37, .bool false)] ?_
  refine wp_seq (Z.sf [(41, .bool false), (42, .bool false)] ?_)
  refine Z.u [(41, .bool false), (43, .bool false)] ?_
  refine Z.x (Z.cf ?_)
  refine Z.sf [(49, .bool false), (50, .bool false)] ?_
  refine Z.sf [(61, .bool false), (62, .bool false)] ?_
  refine Z.sf [(83, .bool false), (84, .bool false)] ?_
  refine Z.st [(115, .bool true), (116, .bool true)] ?_
  refine Z.g [0, 1, 2] ?_
  refine Z.p [0] [1, 2] [(117, Z.P b 0)] ?_
  refine Z.L 0 (.agg #[.int .i64 10, Z.n a, .string nm, .int .i64 n, .slice A 2 c]) b1 ?_
  have qI := inT_le 1 kA tA; have qJ := inT_le 0 kB tB
  have zs1 := (J_size x ((((inT 1 kA tA ++ Z.k3) ++ Z.k48) ++ Z.k3) ++ inT 0 kB tB)).1
  (try simp only [zap, zli, List.length] at zs1)
  refine Z.k (fun R hR => infix_c B b x w0 10 a nm n kA kB A c As cs tA tB Z.k48 1 0 _ R (h.ext x1) (by omega) (Gx.Ext.wx hE ((Gx.Wx.refl (e := 5) (wb := b) w hBw).ext x1) hw0B) hw0B (by (try simp only [zap, zli, List.length]); omega) hr h0 h1 o0 o1 p0 p1 (by first | decide | omega) (fun w2 s1 hs1 x2 hbd1 => hR _ _ ?_))
  have zw2 := x2.size
  rw [← hs1] at zs1
  refine Gx.ops_nil (Gx.block_normal (Gx.ret_n (Gx.res0 rfl) ?_))
  exact hK _ _ (by rw [hs1]; (first | done | exact congrArg (J x) (bl (by simp only [inT0]; (try simp [l_app, Z.bd, Z.ed]))))) (((Gx.Wx.refl (e := 5) (wb := b) w hBw).ext x1).trans x2) hbd1
theorem exp_11 (B b : Nat) (x : ByteArray) (w0 : World) (a : Nat) (nm : ByteArray) (n : Int) (kA kB kC : Nd) (A : Option Addr) (c : Nat) (As : Nat → Option Addr) (cs : Nat → Nat) (tA tB tC : ByteArray) (w : World) (K : Ending → World → Prop) (h : Bd w B b x) (hBw : B ≤ w.heap.size) (hE : Gx.Ext w0 w) (hw0B : w0.heap.size ≤ B) (hsz : x.size + ((((((Z.B [105, 102, 32]) ++ tA) ++ Z.k63) ++ tB) ++ Z.k64) ++ tC).size ≤ 100000000000) (hr : Gx.Rd w0 A 3 5 (fun i => ndC ([kA, kB, kC].getD i nd0) (As i) (cs i))) (h0 : POK w0 kA (As 0) (cs 0) tA) (o0 : Op5 kA) (p0 : 0 < tA.size) (h1 : POK w0 kB (As 1) (cs 1) tB) (o1 : Op5 kB) (p1 : 0 < tB.size) (h2 : POK w0 kC (As 2) (cs 2) tC) (o2 : Op5 kC) (p2 : 0 < tC.size) (hK : ∀ w' s', s' = J x ((((((Z.B [105, 102, 32]) ++ tA) ++ Z.k63) ++ tB) ++ Z.k64) ++ tC) → Gx.Wx 5 B b w w' → Bd w' B b s' → K (.returned (.tuple #[])) w') :
    Calls Tryd.prog 42 #[Z.P b 0, .agg #[.int .i64 11, Z.n a, .string nm, .int .i64 n, .slice A 3 c]] w K := by
  refine Z.en 146 Tryd.func42 ?_
  have tbb : b < w.heap.size := by obtain ⟨_, _, hq, _⟩ := h; exact hq.lt
  have hB : B ≤ b := by obtain ⟨_, _, _, _, hq, _⟩ := h; exact hq
  have hq := hsz; (try simp only [zap, zli, List.length] at hq)
  refine Z.r [0] ?_
  refine Z.N (.cells #[.int .i64 11, Z.n a, .string nm, .int .i64 n, .slice A 3 c] 24) (fun k1 w1 l1 x1 b1 zw1 tb1 => ?_)
  refine Z.e (Z.r [0, 1, 2] ?_)
  refine Z.p [0] [1, 2] [(5, Z.P k1 4)] ?_
  refine Z.L 4 (.slice A 3 c) b1 ?_
  refine Z.p [2] [] [(4, .slice A 3 c)] ?_
  refine Z.e (Z.r [0, 1] ?_)
  refine Z.p [0] [1] [(7, Z.P k1 0)] ?_
  refine Z.L 0 (.int .i64 11) b1 ?_
  refine Z.e (wp_block (Z.sf [(9, .bool false), (10, .bool false)] ?_))
  refine Z.sf [(27, .bool false), (28, .bool false)] ?_
  refine Z.sf [(36, .bool false), (37, .bool false)] ?_
  refine wp_seq (Z.sf [(41, .bool false), (42, .bool false)] ?_)
  refine Z.u [(41, .bool false), (43, .bool false)] ?_
  refine Z.x (Z.cf ?_)
  refine Z.sf [(49, .bool false), (50, .bool false)] ?_
  refine Z.sf [(61, .bool false), (62, .bool false)] ?_
  refine Z.sf [(83, .bool false), (84, .bool false)] ?_
  refine Z.sf [(115, .bool false), (116, .bool false)] ?_
  refine Z.st [(120, .bool true), (121, .bool true)] ?_
  refine Z.r [0, 1, 2] ?_
  refine Z.p [0] [1, 2] [(122, Z.P b 0)] ?_
  refine Z.R (.cells #[.string Z.k28] 9) 1 1 (fun k2 w2 l2 x2 b2 zw2 tb2 => ?_)
  have zs1 : (putJ x [Z.k28]).size ≤ x.size + (Z.k28.size + 1 + 0) := putJ_bd [Z.k28] x
  (try simp only [zap, zli, List.length] at zs1)
  refine Z.k (fun R hR => put_c B b x [Z.k28] k2 1 _ R ((h.ext x1).ext x2) (by omega) b2 (by omega) (Nat.le_of_ble_eq_true rfl) (by omega) (fun w3 s1 hs1 x3 hbd1 => hR _ _ ?_))
  have zw3 := x3.size
  rw [← hs1] at zs1
  refine Z.e (Z.r [0, 1, 2, 3, 4] ?_)
  refine Z.p [0, 1] [2, 3, 4] [(126, .slice A 3 c), (125, Z.P b 0)] ?_
  obtain ⟨a1, ha1, hc1⟩ := hr 0 (by omega)
  refine Z.I 24 5 ha1 3 c 0 ?_
  refine Z.La [Z.n kA.k, Z.n kA.a, .string kA.nm, .int .i64 kA.n, .slice (As 0) kA.ks.length (cs 0)] 5 hc1 (Gx.Ext.wx hE ((((Gx.Wx.refl (e := 5) (wb := b) w hBw).ext x1).ext x2).trans x3) hw0B) ?_
  have zs2 := (J_size s1 tA).1
  (try simp only [zap, zli, List.length] at zs2)
  refine Z.k (fun R hR => h0 B b s1 _ R hbd1 (by omega) (Gx.Ext.wx hE ((((Gx.Wx.refl (e := 5) (wb := b) w hBw).ext x1).ext x2).trans x3) hw0B) hw0B (by omega) (fun w4 s2 hs2 x4 hbd2 => hR _ _ ?_))
  have zw4 := x4.size
  rw [← hs2] at zs2
  refine Z.e (Z.r [0, 1, 2] ?_)
  refine Z.p [0] [1, 2] [(130, Z.P b 0)] ?_
  refine Z.R (.cells #[.string Z.k45] 9) 1 1 (fun k3 w5 l3 x5 b3 zw5 tb3 => ?_)
  have zs3 : (putJ s2 [Z.k45]).size ≤ s2.size + (Z.k45.size + 1 + 0) := putJ_bd [Z.k45] s2
  (try simp only [zap, zli, List.length] at zs3)
  refine Z.k (fun R hR => put_c B b s2 [Z.k45] k3 1 _ R (hbd2.ext x5) (by omega) b3 (by omega) (Nat.le_of_ble_eq_true rfl) (by omega) (fun w6 s3 hs3 x6 hbd3 => hR _ _ ?_))
  have zw6 := x6.size
  rw [← hs3] at zs3
  refine Z.e (Z.r [0, 1, 2, 3, 4] ?_)
  refine Z.p [0, 1] [2, 3, 4] [(134, .slice A 3 c), (133, Z.P b 0)] ?_
  obtain ⟨a2, ha2, hc2⟩ := hr 1 (by omega)
  refine Z.I 24 5 ha2 3 c 1 ?_
  refine Z.La [Z.n kB.k, Z.n kB.a, .string kB.nm, .int .i64 kB.n, .slice (As 1) kB.ks.length (cs 1)] 5 hc2 (Gx.Ext.wx hE (((((((Gx.Wx.refl (e := 5) (wb := b) w hBw).ext x1).ext x2).trans x3).trans x4).ext x5).trans x6) hw0B) ?_
  have zs4 := (J_size s3 tB).1
  (try simp only [zap, zli, List.length] at zs4)
  refine Z.k (fun R hR => h1 B b s3 _ R hbd3 (by omega) (Gx.Ext.wx hE (((((((Gx.Wx.refl (e := 5) (wb := b) w hBw).ext x1).ext x2).trans x3).trans x4).ext x5).trans x6) hw0B) hw0B (by omega) (fun w7 s4 hs4 x7 hbd4 => hR _ _ ?_))
  have zw7 := x7.size
  rw [← hs4] at zs4
  refine Z.e (Z.r [0, 1, 2] ?_)
  refine Z.p [0] [1, 2] [(138, Z.P b 0)] ?_
  refine Z.R (.cells #[.string Z.k46] 9) 1 1 (fun k4 w8 l4 x8 b4 zw8 tb4 => ?_)
  have zs5 : (putJ s4 [Z.k46]).size ≤ s4.size + (Z.k46.size + 1 + 0) := putJ_bd [Z.k46] s4
  (try simp only [zap, zli, List.length] at zs5)
  refine Z.k (fun R hR => put_c B b s4 [Z.k46] k4 1 _ R (hbd4.ext x8) (by omega) b4 (by omega) (Nat.le_of_ble_eq_true rfl) (by omega) (fun w9 s5 hs5 x9 hbd5 => hR _ _ ?_))
  have zw9 := x9.size
  rw [← hs5] at zs5
  refine Z.e (Z.g [0, 1, 2, 3, 4] ?_)
  refine Z.p [0, 1] [2, 3, 4] [(142, .slice A 3 c), (141, Z.P b 0)] ?_
  obtain ⟨a3, ha3, hc3⟩ := hr 2 (by omega)
  refine Z.I 24 5 ha3 3 c 2 ?_
  refine Z.La [Z.n kC.k, Z.n kC.a, .string kC.nm, .int .i64 kC.n, .slice (As 2) kC.ks.length (cs 2)] 5 hc3 (Gx.Ext.wx hE ((((((((((Gx.Wx.refl (e := 5) (wb := b) w hBw).ext x1).ext x2).trans x3).trans x4).ext x5).trans x6).trans x7).ext x8).trans x9) hw0B) ?_
  have zs6 := (J_size s5 tC).1
  (try simp only [zap, zli, List.length] at zs6)
  refine Z.k (fun R hR => h2 B b s5 _ R hbd5 (by omega) (Gx.Ext.wx hE ((((((((((Gx.Wx.refl (e := 5) (wb := b) w hBw).ext x1).ext x2).trans x3).trans x4).ext x5).trans x6).trans x7).ext x8).trans x9) hw0B) hw0B (by omega) (fun w10 s6 hs6 x10 hbd6 => hR _ _ ?_))
  have zw10 := x10.size
  rw [← hs6] at zs6
  refine Gx.ops_nil (Gx.block_normal (Gx.ret_n (Gx.res0 rfl) ?_))
  exact hK _ _ (by rw [hs6, hs5, hs4, hs3, hs2, hs1]; show putJ x [Z.k28, tA, Z.k45, tB, Z.k46, tC] = _; rw [putJ_join _ (by first | decide | omega | (simp only [zap, zli, List.length]; omega))]; exact congrArg (J x) (bl (by (try simp [joinS, l_app, Z.bd, Z.ed])))) (((((((((((Gx.Wx.refl (e := 5) (wb := b) w hBw).ext x1).ext x2).trans x3).trans x4).ext x5).trans x6).trans x7).ext x8).trans x9).trans x10) hbd6
end Go.Proofs.YtinilkomfggjiaaDoor
