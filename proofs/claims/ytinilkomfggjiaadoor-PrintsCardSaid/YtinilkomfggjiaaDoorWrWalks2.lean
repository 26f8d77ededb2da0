/- The walks, written by a program of ours (wip/gx/gx.py, writegen.py). -/
import Derived.Test.YtinilkomfggjiaaDoorRows
import Derived.Test.YtinilkomfggjiaaDoorGs
import Derived.Test.YtinilkomfggjiaaDoorSynWr
import Derived.Test.YtinilkomfggjiaaDoorWrWalks1
set_option linter.unusedVariables false
set_option linter.unusedSimpArgs false
namespace Go.Proofs.YtinilkomfggjiaaDoor
open Go.RowKit Go.Lex Go.Syn
open Go.Show (digB e0 dig_small dig_step app_e0 app_assoc)
attribute [local irreducible] Go.wpOps Go.Code.wp Go.wpOp Go.wpAnyH Go.Calls
set_option maxHeartbeats 400000 in
set_option maxRecDepth 10000 in
theorem Write_3 (w0 : World) (a : Nat) (nm : ByteArray) (n : Int) (A : Option Addr) (c : Nat) (As : Nat → Option Addr) (cs : Nat → Nat) (w : World) (K : Ending → World → Prop) (hE : Gx.Ext w0 w) (hn : -9223372036854775807 ≤ n ∧ n ≤ 9223372036854775807) (hsz : (intT n).size ≤ 400000000) (hK : ∀ w', Gx.Ext w w' → K (.returned (.string (intT n))) w') :
    Calls Tryd.prog 7 #[.agg #[.int .i64 3, Z.n a, .string nm, .int .i64 n, .slice A 0 c]] w K := by
  refine Gx.enter 307 Tryd.func7 rfl rfl (Nat.le_of_ble_eq_true rfl) ?_
  have hq := hsz; (try simp only [zap, zli, List.length] at hq)
  have hd1 := Show.dig_size (m := (-n).toNat) (by omega)
  refine Z.r [0, 1] ?_
  refine Z.N (.cells #[.int .i64 3, Z.n a, .string nm, .int .i64 n, .slice A 0 c] 24) (fun k1 w1 l1 x1 b1 zw1 tb1 => ?_)
  refine Z.p [1] [] [(2, .string Z.E)] ?_
  refine Z.e (Z.r [0, 1, 2] ?_)
  refine Z.p [0] [1, 2] [(6, Z.P k1 4)] ?_
  refine Z.L 4 (.slice A 0 c) b1 ?_
  refine Z.p [2] [] [(3, .slice A 0 c)] ?_
  refine Z.e (wp_seq (Z.r [0, 1] ?_))
  refine Z.p [0] [1] [(8, Z.P k1 0)] ?_
  refine Z.L 0 (.int .i64 3) b1 ?_
  refine Z.e (wp_block (Z.sf [(10, .bool false), (11, .bool false)] ?_))
  refine Z.st [(14, .bool true), (15, .bool true)] ?_
  refine wp_seq (Z.r [0, 1, 2] ?_)
  refine Z.p [0] [1, 2] [(16, Z.P k1 3)] ?_
  refine Z.L 3 (.int .i64 n) b1 ?_
  refine Z.p [2] [] [(18, .bool (decide (n < (0 : Int))))] ?_
  refine Z.e (Z.c (decide (n < (0 : Int))) (fun h_c18 => ?_) (fun h_c18 => ?_))
  · skip
    have p_c18 := of_decide_eq_true h_c18
    refine Z.r [0, 1, 2, 3, 4, 5] ?_
    refine Z.p [0] [1, 2, 3, 4, 5] [(19, Z.P k1 3)] ?_
    refine Z.L 3 (.int .i64 n) b1 ?_
    refine Gx.pure_eq [2] [3, 4, 5] [(21, .int .i64 (IntKind.i64.wrap (0 - n)))] [(21, .int .i64 (-n))] rfl (by kernel_rfl) (Gx.eqI (by rw [IntWalk.i64_in _ (by omega)]; omega)) ?_
    refine Z.k (fun R hR => digits_i (-n) _ R (by omega) (by omega) (fun w2 x2  => hR _ _ ?_))
    have zw2 := x2.size
    refine Z.C (Z.B [126, 32]) (digB (-n).toNat) ?_
    refine Z.p [5] [] [(2, .string ((Z.B [126, 32]) ++ (digB (-n).toNat)))] ?_
    refine Z.e (wp_ret (Gx.then_ret (Gx.block_ret (Gx.then_ret (Z.v (.string ((Z.B [126, 32]) ++ (digB (-n).toNat))) ?_)))))
    exact Gx.ret_as (v' := .string (intT n)) (by unfold intT; rw [if_pos (by simpa using h_c18)]) (hK _ (((Gx.Ext.refl w).trans x1).trans x2))
  have p_c18 := of_decide_eq_false h_c18
  refine wp_skip (Z.x (Z.r [0, 1, 2, 3] ?_))
  refine Z.p [0] [1, 2, 3] [(24, Z.P k1 3)] ?_
  refine Z.L 3 (.int .i64 n) b1 ?_
  refine Z.k (fun R hR => digits_i n _ R (by omega) (by omega) (fun w3 x3  => hR _ _ ?_))
  have zw3 := x3.size
  refine Z.p [3] [] [(2, .string (digB n.toNat))] ?_
  refine Z.e (wp_ret (Gx.block_ret (Gx.then_ret (Z.v (.string (digB n.toNat)) ?_))))
  exact Gx.ret_as (v' := .string (intT n)) (by unfold intT; rw [if_neg (by simpa using h_c18)]) (hK _ (((Gx.Ext.refl w).trans x1).trans x3))

set_option maxHeartbeats 400000 in
set_option maxRecDepth 10000 in
theorem Write_4 (w0 : World) (a : Nat) (nm : ByteArray) (n : Int) (A : Option Addr) (c : Nat) (As : Nat → Option Addr) (cs : Nat → Nat) (w : World) (K : Ending → World → Prop) (hE : Gx.Ext w0 w) (hsz : (if n = 1 then (Z.B [116, 114, 117, 101]) else (Z.B [102, 97, 108, 115, 101])).size ≤ 400000000) (hK : ∀ w', Gx.Ext w w' → K (.returned (.string (if n = 1 then (Z.B [116, 114, 117, 101]) else (Z.B [102, 97, 108, 115, 101])))) w') :
    Calls Tryd.prog 7 #[.agg #[.int .i64 4, Z.n a, .string nm, .int .i64 n, .slice A 0 c]] w K := by
  refine Gx.enter 307 Tryd.func7 rfl rfl (Nat.le_of_ble_eq_true rfl) ?_
  have hq := hsz; (try simp only [zap, zli, List.length] at hq)
  refine Z.r [0, 1] ?_
  refine Z.N (.cells #[.int .i64 4, Z.n a, .string nm, .int .i64 n, .slice A 0 c] 24) (fun k1 w1 l1 x1 b1 zw1 tb1 => ?_)
  refine Z.p [1] [] [(2, .string Z.E)] ?_
  refine Z.e (Z.r [0, 1, 2] ?_)
  refine Z.p [0] [1, 2] [(6, Z.P k1 4)] ?_
  refine Z.L 4 (.slice A 0 c) b1 ?_
  refine Z.p [2] [] [(3, .slice A 0 c)] ?_
  refine Z.e (wp_seq (Z.r [0, 1] ?_))
  refine Z.p [0] [1] [(8, Z.P k1 0)] ?_
  refine Z.L 0 (.int .i64 4) b1 ?_
  refine Z.e (wp_block (Z.sf [(10, .bool false), (11, .bool false)] ?_))
  refine Z.sf [(14, .bool false), (15, .bool false)] ?_
  refine Z.st [(27, .bool true), (28, .bool true)] ?_
  refine wp_seq (Z.r [0, 1, 2] ?_)
  refine Z.p [0] [1, 2] [(29, Z.P k1 3)] ?_
  refine Z.L 3 (.int .i64 n) b1 ?_
  refine Z.p [2] [] [(31, .bool (n == (1 : Int)))] ?_
  refine Z.e (Z.c (n == (1 : Int)) (fun h_c31 => ?_) (fun h_c31 => ?_))
  · skip
    have p_c31 := Gx.k1 h_c31
    refine Z.s [(2, .string (Z.B [116, 114, 117, 101]))] ?_
    refine wp_ret (Gx.then_ret (Gx.block_ret (Gx.then_ret (Z.v (.string (Z.B [116, 114, 117, 101])) ?_))))
    exact Gx.ret_as (v' := .string (if n = 1 then (Z.B [116, 114, 117, 101]) else (Z.B [102, 97, 108, 115, 101]))) (by rw [if_pos (by simpa using h_c31)]) (hK _ ((Gx.Ext.refl w).trans x1))
  have p_c31 := Gx.k0 h_c31
  refine wp_skip (Z.x (Z.s [(2, .string (Z.B [102, 97, 108, 115, 101]))] ?_))
  refine wp_ret (Gx.block_ret (Gx.then_ret (Z.v (.string (Z.B [102, 97, 108, 115, 101])) ?_)))
  exact Gx.ret_as (v' := .string (if n = 1 then (Z.B [116, 114, 117, 101]) else (Z.B [102, 97, 108, 115, 101]))) (by rw [if_neg (by simpa using h_c31)]) (hK _ ((Gx.Ext.refl w).trans x1))

set_option maxHeartbeats 400000 in
set_option maxRecDepth 10000 in
theorem Write_5 (w0 : World) (a : Nat) (nm : ByteArray) (n : Int) (A : Option Addr) (c : Nat) (As : Nat → Option Addr) (cs : Nat → Nat) (w : World) (K : Ending → World → Prop) (hE : Gx.Ext w0 w) (hsz : ((Z.B [40, 32, 41])).size ≤ 400000000) (hK : ∀ w', Gx.Ext w w' → K (.returned (.string ((Z.B [40, 32, 41])))) w') :
    Calls Tryd.prog 7 #[.agg #[.int .i64 5, Z.n a, .string nm, .int .i64 n, .slice A 0 c]] w K := by
  refine Gx.enter 307 Tryd.func7 rfl rfl (Nat.le_of_ble_eq_true rfl) ?_
  have hq := hsz; (try simp only [zap, zli, List.length] at hq)
  refine Z.r [0, 1] ?_
  refine Z.N (.cells #[.int .i64 5, Z.n a, .string nm, .int .i64 n, .slice A 0 c] 24) (fun k1 w1 l1 x1 b1 zw1 tb1 => ?_)
  refine Z.p [1] [] [(2, .string Z.E)] ?_
  refine Z.e (Z.r [0, 1, 2] ?_)
  refine Z.p [0] [1, 2] [(6, Z.P k1 4)] ?_
  refine Z.L 4 (.slice A 0 c) b1 ?_
  refine Z.p [2] [] [(3, .slice A 0 c)] ?_
  refine Z.e (wp_seq (Z.r [0, 1] ?_))
  refine Z.p [0] [1] [(8, Z.P k1 0)] ?_
  refine Z.L 0 (.int .i64 5) b1 ?_
  refine Z.e (wp_block (Z.sf [(10, .bool false), (11, .bool false)] ?_))
  refine Z.sf [(14, .bool false), (15, .bool false)] ?_
  refine Z.sf [(27, .bool false), (28, .bool false)] ?_
  refine Z.st [(32, .bool true), (33, .bool true)] ?_
  refine Z.s [(2, .string (Z.B [40, 32, 41]))] ?_
  refine wp_ret (Gx.block_ret (Gx.then_ret (Z.v (.string (Z.B [40, 32, 41])) ?_)))
  exact Gx.ret_as (v' := .string ((Z.B [40, 32, 41]))) (by rfl) (hK _ ((Gx.Ext.refl w).trans x1))

set_option maxHeartbeats 400000 in
set_option maxRecDepth 10000 in
theorem Write_6 (w0 : World) (a : Nat) (nm : ByteArray) (n : Int) (A : Option Addr) (c : Nat) (As : Nat → Option Addr) (cs : Nat → Nat) (w : World) (K : Ending → World → Prop) (hE : Gx.Ext w0 w) (hsz : (nm).size ≤ 400000000) (hK : ∀ w', Gx.Ext w w' → K (.returned (.string (nm))) w') :
    Calls Tryd.prog 7 #[.agg #[.int .i64 6, Z.n a, .string nm, .int .i64 n, .slice A 0 c]] w K := by
  refine Gx.enter 307 Tryd.func7 rfl rfl (Nat.le_of_ble_eq_true rfl) ?_
  have hq := hsz; (try simp only [zap, zli, List.length] at hq)
  refine Z.r [0, 1] ?_
  refine Z.N (.cells #[.int .i64 6, Z.n a, .string nm, .int .i64 n, .slice A 0 c] 24) (fun k1 w1 l1 x1 b1 zw1 tb1 => ?_)
  refine Z.p [1] [] [(2, .string Z.E)] ?_
  refine Z.e (Z.r [0, 1, 2] ?_)
  refine Z.p [0] [1, 2] [(6, Z.P k1 4)] ?_
  refine Z.L 4 (.slice A 0 c) b1 ?_
  refine Z.p [2] [] [(3, .slice A 0 c)] ?_
  refine Z.e (wp_seq (Z.r [0, 1] ?_))
  refine Z.p [0] [1] [(8, Z.P k1 0)] ?_
  refine Z.L 0 (.int .i64 6) b1 ?_
  refine Z.e (wp_block (Z.sf [(10, .bool false), (11, .bool false)] ?_))
  refine Z.sf [(14, .bool false), (15, .bool false)] ?_
  refine Z.sf [(27, .bool false), (28, .bool false)] ?_
  refine Z.sf [(32, .bool false), (33, .bool false)] ?_
  refine wp_seq (Z.st [(34, .bool true), (35, .bool true)] ?_)
  refine wp_skip (Z.x (Z.ct ?_))
  refine Z.r [0, 1, 2] ?_
  refine Z.p [0] [1, 2] [(37, Z.P k1 2)] ?_
  refine Z.L 2 (.string nm) b1 ?_
  refine Z.p [2] [] [(2, .string nm)] ?_
  refine Z.e (wp_ret (Gx.block_ret (Gx.then_ret (Z.v (.string nm) ?_))))
  exact Gx.ret_as (v' := .string (nm)) (by rfl) (hK _ ((Gx.Ext.refl w).trans x1))

set_option maxHeartbeats 400000 in
set_option maxRecDepth 10000 in
theorem Write_7 (w0 : World) (a : Nat) (nm : ByteArray) (n : Int) (x : Nd) (A : Option Addr) (c : Nat) (As : Nat → Option Addr) (cs : Nat → Nat) (sx : ByteArray) (w : World) (K : Ending → World → Prop) (hE : Gx.Ext w0 w) (hr : Gx.Rd w0 A 1 5 (fun i => ndC ([x].getD i nd0) (As i) (cs i))) (h0 : WOK w0 x (As 0) (cs 0) sx) (hsz : ((((Z.B [102, 110, 32]) ++ nm) ++ (Z.B [32, 61, 62, 32])) ++ sx).size ≤ 400000000) (hK : ∀ w', Gx.Ext w w' → K (.returned (.string ((((Z.B [102, 110, 32]) ++ nm) ++ (Z.B [32, 61, 62, 32])) ++ sx))) w') :
    Calls Tryd.prog 7 #[.agg #[.int .i64 7, Z.n a, .string nm, .int .i64 n, .slice A 1 c]] w K := by
  refine Gx.enter 307 Tryd.func7 rfl rfl (Nat.le_of_ble_eq_true rfl) ?_
  have hq := hsz; (try simp only [zap, zli, List.length] at hq)
  refine Z.r [0, 1] ?_
  refine Z.N (.cells #[.int .i64 7, Z.n a, .string nm, .int .i64 n, .slice A 1 c] 24) (fun k1 w1 l1 x1 b1 zw1 tb1 => ?_)
  refine Z.p [1] [] [(2, .string Z.E)] ?_
  refine Z.e (Z.r [0, 1, 2] ?_)
  refine Z.p [0] [1, 2] [(6, Z.P k1 4)] ?_
  refine Z.L 4 (.slice A 1 c) b1 ?_
  refine Z.p [2] [] [(3, .slice A 1 c)] ?_
  refine Z.e (wp_seq (Z.r [0, 1] ?_))
  refine Z.p [0] [1] [(8, Z.P k1 0)] ?_
  refine Z.L 0 (.int .i64 7) b1 ?_
  refine Z.e (wp_block (Z.sf [(10, .bool false), (11, .bool false)] ?_))
  refine Z.sf [(14, .bool false), (15, .bool false)] ?_
  refine Z.sf [(27, .bool false), (28, .bool false)] ?_
  refine Z.sf [(32, .bool false), (33, .bool false)] ?_
  refine wp_seq (Z.sf [(34, .bool false), (35, .bool false)] ?_)
  refine Z.u [(34, .bool false), (36, .bool false)] ?_
  refine Z.x (Z.cf ?_)
  refine Z.st [(39, .bool true), (40, .bool true)] ?_
  refine wp_seq (Z.D (fun w' => Gx.Has w' k1 (.cells #[.int .i64 7, Z.n a, .string nm, .int .i64 n, .slice A 1 c] 24) ∧ Gx.Ext w w') (fun w2 x2 zw2 => ?_))
  refine Z.h ⟨(b1.ext x2), (((Gx.Ext.refl w).trans x1).trans x2)⟩ (fun hS1 => ?_)
  refine Z.t 0 (Z.P k1 2) hS1 ?_
  refine Z.tl 1 2 (.string nm) (fun _ hs => hs.1) hS1 ?_
  refine Z.tc 2 (Z.B [102, 110, 32]) nm hS1 ?_
  refine Z.tc 3 ((Z.B [102, 110, 32]) ++ nm) (Z.B [32, 61, 62, 32]) hS1 ?_
  refine Z.t 4 (.slice A 1 c) hS1 ?_
  obtain ⟨a1, ha1, hc1⟩ := (Gx.Rd.ext hr (by decide) hE) 0 (by omega)
  refine Z.ti 5 24 5 ha1 1 c 0 hS1 ?_
  refine Z.ta 6 [Z.n x.k, Z.n x.a, .string x.nm, .int .i64 x.n, .slice (As 0) x.ks.length (cs 0)] 5 hc1 (fun _ hs => hs.2) hS1 ?_
  refine Z.o 7 (fun R hR => h0 _ R (Gx.Ext.trans hE (((Gx.Ext.refl w).trans x1).trans x2)) (fun w3 x3 => hR _ _ ⟨⟨((b1.ext x2).ext x3), ((((Gx.Ext.refl w).trans x1).trans x2).trans x3)⟩, fun hS2 => ?_⟩))
  have zw3 := x3.size
  refine Z.tc 8 (((Z.B [102, 110, 32]) ++ nm) ++ (Z.B [32, 61, 62, 32])) sx hS2 ?_
  refine Z.t 9 (.string ((((Z.B [102, 110, 32]) ++ nm) ++ (Z.B [32, 61, 62, 32])) ++ sx)) hS2 ?_
  refine Z.q ?_
  refine Z.x (wp_ret (Gx.block_ret (Gx.then_ret (Z.v (.string ((((Z.B [102, 110, 32]) ++ nm) ++ (Z.B [32, 61, 62, 32])) ++ sx)) ?_))))
  exact Gx.ret_as (v' := .string ((((Z.B [102, 110, 32]) ++ nm) ++ (Z.B [32, 61, 62, 32])) ++ sx)) (by rfl) (hK _ ((((Gx.Ext.refl w).trans x1).trans x2).trans x3))

set_option maxHeartbeats 400000 in
set_option maxRecDepth 10000 in
theorem Write_8 (w0 : World) (a : Nat) (nm : ByteArray) (n : Int) (x y : Nd) (A : Option Addr) (c : Nat) (As : Nat → Option Addr) (cs : Nat → Nat) (sx sy : ByteArray) (w : World) (K : Ending → World → Prop) (hE : Gx.Ext w0 w) (hr : Gx.Rd w0 A 2 5 (fun i => ndC ([x, y].getD i nd0) (As i) (cs i))) (h0 : WOK w0 x (As 0) (cs 0) sx) (h1 : WOK w0 y (As 1) (cs 1) sy) (hsz : (((if x.k = 8 then sx else inT 6 x sx) ++ (Z.B [32])) ++ inT 6 y sy).size ≤ 400000000) (hK : ∀ w', Gx.Ext w w' → K (.returned (.string (((if x.k = 8 then sx else inT 6 x sx) ++ (Z.B [32])) ++ inT 6 y sy))) w') :
    Calls Tryd.prog 7 #[.agg #[.int .i64 8, Z.n a, .string nm, .int .i64 n, .slice A 2 c]] w K := by
  refine Gx.enter 307 Tryd.func7 rfl rfl (Nat.le_of_ble_eq_true rfl) ?_
  have hq := hsz; (try simp only [zap, zli, List.length] at hq)
  have i1 := inT_le 6 x sx; have i3 := inT_le 6 y sy; have i2 : (if x.k = 8 then sx else inT 6 x sx).size ≤ sx.size + 4 ∧ sx.size ≤ (if x.k = 8 then sx else inT 6 x sx).size := by split <;> omega
  refine Z.r [0, 1] ?_
  refine Z.N (.cells #[.int .i64 8, Z.n a, .string nm, .int .i64 n, .slice A 2 c] 24) (fun k1 w1 l1 x1 b1 zw1 tb1 => ?_)
  refine Z.p [1] [] [(2, .string Z.E)] ?_
  refine Z.e (Z.r [0, 1, 2] ?_)
  refine Z.p [0] [1, 2] [(6, Z.P k1 4)] ?_
  refine Z.L 4 (.slice A 2 c) b1 ?_
  refine Z.p [2] [] [(3, .slice A 2 c)] ?_
  refine Z.e (wp_seq (Z.r [0, 1] ?_))
  refine Z.p [0] [1] [(8, Z.P k1 0)] ?_
  refine Z.L 0 (.int .i64 8) b1 ?_
  refine Z.e (wp_block (Z.sf [(10, .bool false), (11, .bool false)] ?_))
  refine Z.sf [(14, .bool false), (15, .bool false)] ?_
  refine Z.sf [(27, .bool false), (28, .bool false)] ?_
  refine Z.sf [(32, .bool false), (33, .bool false)] ?_
  refine wp_seq (Z.sf [(34, .bool false), (35, .bool false)] ?_)
  refine Z.u [(34, .bool false), (36, .bool false)] ?_
  refine Z.x (Z.cf ?_)
  refine Z.sf [(39, .bool false), (40, .bool false)] ?_
  refine Z.st [(50, .bool true), (51, .bool true)] ?_
  refine Z.r [0, 1, 2, 3, 4] ?_
  refine Z.p [0] [1, 2, 3, 4] [(52, .slice A 2 c)] ?_
  obtain ⟨a1, ha1, hc1⟩ := (Gx.Rd.ext hr (by decide) hE) 0 (by omega)
  refine Z.I 24 5 ha1 2 c 0 ?_
  refine Z.La [Z.n x.k, Z.n x.a, .string x.nm, .int .i64 x.n, .slice (As 0) x.ks.length (cs 0)] 5 hc1 ((Gx.Ext.refl w).trans x1) ?_
  refine Z.k (fun R hR => h0 _ R (Gx.Ext.trans hE ((Gx.Ext.refl w).trans x1)) (fun w2 x2 => hR _ _ ?_))
  have zw2 := x2.size
  refine Z.p [4] [] [(4, .string sx)] ?_
  refine Z.e (wp_seq (Z.r [0, 1, 2, 3, 4] ?_))
  refine Z.p [0] [1, 2, 3, 4] [(56, .slice A 2 c)] ?_
  obtain ⟨a2, ha2, hc2⟩ := (Gx.Rd.ext hr (by decide) hE) 0 (by omega)
  refine Z.I 24 5 ha2 2 c 0 ?_
  refine Z.F (a2.add (0 * 5)) 0 ?_
  refine Z.Lo [Z.n x.k] (Z.n x.k) 1 (Gx.cells_sub hc2 0 1 rfl) (((Gx.Ext.refl w).trans x1).trans x2) ?_
  refine Z.p [4] [] [(60, .bool (((x.k : Nat) : Int) != (8 : Int)))] ?_
  refine Z.e (Z.c (((x.k : Nat) : Int) != (8 : Int)) (fun h_c60 => ?_) (fun h_c60 => ?_))
  · skip
    have p_c60 := h_c60; try simp [-List.getD_eq_getElem?_getD] at p_c60
    refine Z.g [0, 1, 2, 3, 4] ?_
    refine Z.p [0] [1, 2, 3, 4] [(61, .slice A 2 c)] ?_
    obtain ⟨a3, ha3, hc3⟩ := (Gx.Rd.ext hr (by decide) hE) 0 (by omega)
    refine Z.I 24 5 ha3 2 c 0 ?_
    refine Z.La [Z.n x.k, Z.n x.a, .string x.nm, .int .i64 x.n, .slice (As 0) x.ks.length (cs 0)] 5 hc3 (((Gx.Ext.refl w).trans x1).trans x2) ?_
    refine Z.k (fun R hR => in_c w0 x (As 0) (cs 0) sx 6 _ R (Gx.Ext.trans hE (((Gx.Ext.refl w).trans x1).trans x2)) (h0) (by omega) (fun w3 x3 => hR _ _ ?_))
    have zw3 := x3.size
    refine Z.p [4] [] [(4, .string (inT 6 x sx))] ?_
    refine Gx.ops_nil (Z.x (Z.r [0, 1, 2, 3, 4, 5, 6, 7] ?_))
    refine Z.p [0] [1, 2, 3, 4, 5, 6, 7] [(65, .string (inT 6 x sx))] ?_
    refine Z.C (inT 6 x sx) (Z.B [32]) ?_
    refine Z.p [2] [3, 4, 5, 6, 7] [(67, .slice A 2 c)] ?_
    obtain ⟨a4, ha4, hc4⟩ := (Gx.Rd.ext hr (by decide) hE) 1 (by omega)
    refine Z.I 24 5 ha4 2 c 1 ?_
    refine Z.La [Z.n y.k, Z.n y.a, .string y.nm, .int .i64 y.n, .slice (As 1) y.ks.length (cs 1)] 5 hc4 ((((Gx.Ext.refl w).trans x1).trans x2).trans x3) ?_
    refine Z.k (fun R hR => in_c w0 y (As 1) (cs 1) sy 6 _ R (Gx.Ext.trans hE ((((Gx.Ext.refl w).trans x1).trans x2).trans x3)) (h1) (by omega) (fun w4 x4 => hR _ _ ?_))
    have zw4 := x4.size
    refine Z.C ((inT 6 x sx) ++ (Z.B [32])) (inT 6 y sy) ?_
    refine Z.p [7] [] [(2, .string (((inT 6 x sx) ++ (Z.B [32])) ++ (inT 6 y sy)))] ?_
    refine Z.e (wp_ret (Gx.block_ret (Gx.then_ret (Z.v (.string (((inT 6 x sx) ++ (Z.B [32])) ++ (inT 6 y sy))) ?_))))
    exact Gx.ret_as (v' := .string (((if x.k = 8 then sx else inT 6 x sx) ++ (Z.B [32])) ++ inT 6 y sy)) (by rw [if_neg (by omega)]) (hK _ (((((Gx.Ext.refl w).trans x1).trans x2).trans x3).trans x4))
  have p_c60 := h_c60; try simp [-List.getD_eq_getElem?_getD] at p_c60
  refine wp_skip (Z.x (Z.r [0, 1, 2, 3, 4, 5, 6, 7] ?_))
  refine Z.p [0] [1, 2, 3, 4, 5, 6, 7] [(65, .string sx)] ?_
  refine Z.C sx (Z.B [32]) ?_
  refine Z.p [2] [3, 4, 5, 6, 7] [(67, .slice A 2 c)] ?_
  obtain ⟨a5, ha5, hc5⟩ := (Gx.Rd.ext hr (by decide) hE) 1 (by omega)
  refine Z.I 24 5 ha5 2 c 1 ?_
  refine Z.La [Z.n y.k, Z.n y.a, .string y.nm, .int .i64 y.n, .slice (As 1) y.ks.length (cs 1)] 5 hc5 (((Gx.Ext.refl w).trans x1).trans x2) ?_
  refine Z.k (fun R hR => in_c w0 y (As 1) (cs 1) sy 6 _ R (Gx.Ext.trans hE (((Gx.Ext.refl w).trans x1).trans x2)) (h1) (by omega) (fun w5 x5 => hR _ _ ?_))
  have zw5 := x5.size
  refine Z.C (sx ++ (Z.B [32])) (inT 6 y sy) ?_
  refine Z.p [7] [] [(2, .string ((sx ++ (Z.B [32])) ++ (inT 6 y sy)))] ?_
  refine Z.e (wp_ret (Gx.block_ret (Gx.then_ret (Z.v (.string ((sx ++ (Z.B [32])) ++ (inT 6 y sy))) ?_))))
  exact Gx.ret_as (v' := .string (((if x.k = 8 then sx else inT 6 x sx) ++ (Z.B [32])) ++ inT 6 y sy)) (by rw [if_pos (by omega)]) (hK _ ((((Gx.Ext.refl w).trans x1).trans x2).trans x5))

set_option maxHeartbeats 400000 in
set_option maxRecDepth 10000 in
theorem Write_9 (w0 : World) (a : Nat) (nm : ByteArray) (x y : Nd) (A : Option Addr) (c : Nat) (As : Nat → Option Addr) (cs : Nat → Nat) (sx sy : ByteArray) (w : World) (K : Ending → World → Prop) (hE : Gx.Ext w0 w) (hr : Gx.Rd w0 A 2 5 (fun i => ndC ([x, y].getD i nd0) (As i) (cs i))) (h0 : WOK w0 x (As 0) (cs 0) sx) (h1 : WOK w0 y (As 1) (cs 1) sy) (hsz : (((((((Z.B [108, 101, 116, 32]) ++ nm) ++ (Z.B [32, 61, 32])) ++ sx) ++ (Z.B [32, 105, 110, 32])) ++ sy)).size ≤ 400000000) (hK : ∀ w', Gx.Ext w w' → K (.returned (.string (((((((Z.B [108, 101, 116, 32]) ++ nm) ++ (Z.B [32, 61, 32])) ++ sx) ++ (Z.B [32, 105, 110, 32])) ++ sy)))) w') :
    Calls Tryd.prog 7 #[.agg #[.int .i64 9, Z.n a, .string nm, .int .i64 0, .slice A 2 c]] w K := by
  refine Gx.enter 307 Tryd.func7 rfl rfl (Nat.le_of_ble_eq_true rfl) ?_
  have hq := hsz; (try simp only [zap, zli, List.length] at hq)
  refine Z.r [0, 1] ?_
  refine Z.N (.cells #[.int .i64 9, Z.n a, .string nm, .int .i64 0, .slice A 2 c] 24) (fun k1 w1 l1 x1 b1 zw1 tb1 => ?_)
  refine Z.p [1] [] [(2, .string Z.E)] ?_
  refine Z.e (Z.r [0, 1, 2] ?_)
  refine Z.p [0] [1, 2] [(6, Z.P k1 4)] ?_
  refine Z.L 4 (.slice A 2 c) b1 ?_
  refine Z.p [2] [] [(3, .slice A 2 c)] ?_
  refine Z.e (wp_seq (Z.r [0, 1] ?_))
  refine Z.p [0] [1] [(8, Z.P k1 0)] ?_
  refine Z.L 0 (.int .i64 9) b1 ?_
  refine Z.e (wp_block (Z.sf [(10, .bool false), (11, .bool false)] ?_))
  refine Z.sf [(14, .bool false), (15, .bool false)] ?_
  refine Z.sf [(27, .bool false), (28, .bool false)] ?_
  refine Z.sf [(32, .bool false), (33, .bool false)] ?_
  refine wp_seq (Z.sf [(34, .bool false), (35, .bool false)] ?_)
  refine Z.u [(34, .bool false), (36, .bool false)] ?_
  refine Z.x (Z.cf ?_)
  refine Z.sf [(39, .bool false), (40, .bool false)] ?_
  refine Z.sf [(50, .bool false), (51, .bool false)] ?_
  refine Z.st [(72, .bool true), (73, .bool true)] ?_
  refine wp_seq (Z.r [0, 1, 2] ?_)
  refine Z.p [0] [1, 2] [(74, Z.P k1 3)] ?_
  refine Z.L 3 (.int .i64 0) b1 ?_
  refine Z.p [2] [] [(76, .bool false)] ?_
  refine Z.e (Z.cf ?_)
  refine wp_skip (Z.x (wp_seq (Z.D (fun w' => Gx.Has w' k1 (.cells #[.int .i64 9, Z.n a, .string nm, .int .i64 0, .slice A 2 c] 24) ∧ Gx.Ext w w') (fun w2 x2 zw2 => ?_))))
  refine Z.h ⟨(b1.ext x2), (((Gx.Ext.refl w).trans x1).trans x2)⟩ (fun hS1 => ?_)
  refine Z.t 0 (Z.P k1 2) hS1 ?_
  refine Z.tl 1 2 (.string nm) (fun _ hs => hs.1) hS1 ?_
  refine Z.tc 2 (Z.B [108, 101, 116, 32]) nm hS1 ?_
  refine Z.tc 3 ((Z.B [108, 101, 116, 32]) ++ nm) (Z.B [32, 61, 32]) hS1 ?_
  refine Z.t 4 (.slice A 2 c) hS1 ?_
  obtain ⟨a1, ha1, hc1⟩ := (Gx.Rd.ext hr (by decide) hE) 0 (by omega)
  refine Z.ti 5 24 5 ha1 2 c 0 hS1 ?_
  refine Z.ta 6 [Z.n x.k, Z.n x.a, .string x.nm, .int .i64 x.n, .slice (As 0) x.ks.length (cs 0)] 5 hc1 (fun _ hs => hs.2) hS1 ?_
  refine Z.t 10 (.slice A 2 c) hS1 ?_
  obtain ⟨a2, ha2, hc2⟩ := (Gx.Rd.ext hr (by decide) hE) 1 (by omega)
  refine Z.ti 11 24 5 ha2 2 c 1 hS1 ?_
  refine Z.ta 12 [Z.n y.k, Z.n y.a, .string y.nm, .int .i64 y.n, .slice (As 1) y.ks.length (cs 1)] 5 hc2 (fun _ hs => hs.2) hS1 ?_
  refine Z.o 7 (fun R hR => h0 _ R (Gx.Ext.trans hE (((Gx.Ext.refl w).trans x1).trans x2)) (fun w3 x3 => hR _ _ ⟨⟨((b1.ext x2).ext x3), ((((Gx.Ext.refl w).trans x1).trans x2).trans x3)⟩, fun hS2 => ?_⟩))
  have zw3 := x3.size
  refine Z.tc 8 (((Z.B [108, 101, 116, 32]) ++ nm) ++ (Z.B [32, 61, 32])) sx hS2 ?_
  refine Z.tc 9 ((((Z.B [108, 101, 116, 32]) ++ nm) ++ (Z.B [32, 61, 32])) ++ sx) (Z.B [32, 105, 110, 32]) hS2 ?_
  refine Z.o 13 (fun R hR => h1 _ R (Gx.Ext.trans hE ((((Gx.Ext.refl w).trans x1).trans x2).trans x3)) (fun w4 x4 => hR _ _ ⟨⟨(((b1.ext x2).ext x3).ext x4), (((((Gx.Ext.refl w).trans x1).trans x2).trans x3).trans x4)⟩, fun hS3 => ?_⟩))
  have zw4 := x4.size
  refine Z.tc 14 (((((Z.B [108, 101, 116, 32]) ++ nm) ++ (Z.B [32, 61, 32])) ++ sx) ++ (Z.B [32, 105, 110, 32])) sy hS3 ?_
  refine Z.t 15 (.string ((((((Z.B [108, 101, 116, 32]) ++ nm) ++ (Z.B [32, 61, 32])) ++ sx) ++ (Z.B [32, 105, 110, 32])) ++ sy)) hS3 ?_
  refine Z.q ?_
  refine Z.x (wp_ret (Gx.block_ret (Gx.then_ret (Z.v (.string ((((((Z.B [108, 101, 116, 32]) ++ nm) ++ (Z.B [32, 61, 32])) ++ sx) ++ (Z.B [32, 105, 110, 32])) ++ sy)) ?_))))
  exact Gx.ret_as (v' := .string (((((((Z.B [108, 101, 116, 32]) ++ nm) ++ (Z.B [32, 61, 32])) ++ sx) ++ (Z.B [32, 105, 110, 32])) ++ sy))) (by rfl) (hK _ (((((Gx.Ext.refl w).trans x1).trans x2).trans x3).trans x4))

set_option maxHeartbeats 400000 in
set_option maxRecDepth 10000 in
theorem Write_9r (w0 : World) (a : Nat) (nm : ByteArray) (A : Option Addr) (c : Nat) (As : Nat → Option Addr) (cs : Nat → Nat) (fa : Nat) (fx : ByteArray) (fm : Int) (z y : Nd) (sz sy : ByteArray) (Bs : Nat → Option Addr) (ds : Nat → Nat) (w : World) (K : Ending → World → Prop) (hE : Gx.Ext w0 w) (hr : Gx.Rd w0 A 2 5 (fun i => ndC ([Nd.mk 7 fa fx fm [z], y].getD i nd0) (As i) (cs i))) (hr0 : Gx.Rd w0 (As 0) 1 5 (fun i => ndC ([z].getD i nd0) (Bs i) (ds i))) (h0 : WOK w0 z (Bs 0) (ds 0) sz) (h1 : WOK w0 y (As 1) (cs 1) sy) (hsz : ((((((Z.B [108, 101, 116, 32, 114, 101, 99, 32]) ++ nm) ++ (Z.B [32])) ++ ((fx ++ (Z.B [32, 61, 32])) ++ sz)) ++ (Z.B [32, 105, 110, 32])) ++ sy).size ≤ 400000000) (hK : ∀ w', Gx.Ext w w' → K (.returned (.string ((((((Z.B [108, 101, 116, 32, 114, 101, 99, 32]) ++ nm) ++ (Z.B [32])) ++ ((fx ++ (Z.B [32, 61, 32])) ++ sz)) ++ (Z.B [32, 105, 110, 32])) ++ sy))) w') :
    Calls Tryd.prog 7 #[.agg #[.int .i64 9, Z.n a, .string nm, .int .i64 1, .slice A 2 c]] w K := by
  refine Gx.enter 307 Tryd.func7 rfl rfl (Nat.le_of_ble_eq_true rfl) ?_
  have hq := hsz; (try simp only [zap, zli, List.length] at hq)
  refine Z.r [0, 1] ?_
  refine Z.N (.cells #[.int .i64 9, Z.n a, .string nm, .int .i64 1, .slice A 2 c] 24) (fun k1 w1 l1 x1 b1 zw1 tb1 => ?_)
  refine Z.p [1] [] [(2, .string Z.E)] ?_
  refine Z.e (Z.r [0, 1, 2] ?_)
  refine Z.p [0] [1, 2] [(6, Z.P k1 4)] ?_
  refine Z.L 4 (.slice A 2 c) b1 ?_
  refine Z.p [2] [] [(3, .slice A 2 c)] ?_
  refine Z.e (wp_seq (Z.r [0, 1] ?_))
  refine Z.p [0] [1] [(8, Z.P k1 0)] ?_
  refine Z.L 0 (.int .i64 9) b1 ?_
  refine Z.e (wp_block (Z.sf [(10, .bool false), (11, .bool false)] ?_))
  refine Z.sf [(14, .bool false), (15, .bool false)] ?_
  refine Z.sf [(27, .bool false), (28, .bool false)] ?_
  refine Z.sf [(32, .bool false), (33, .bool false)] ?_
  refine wp_seq (Z.sf [(34, .bool false), (35, .bool false)] ?_)
  refine Z.u [(34, .bool false), (36, .bool false)] ?_
  refine Z.x (Z.cf ?_)
  refine Z.sf [(39, .bool false), (40, .bool false)] ?_
  refine Z.sf [(50, .bool false), (51, .bool false)] ?_
  refine Z.st [(72, .bool true), (73, .bool true)] ?_
  refine wp_seq (Z.r [0, 1, 2] ?_)
  refine Z.p [0] [1, 2] [(74, Z.P k1 3)] ?_
  refine Z.L 3 (.int .i64 1) b1 ?_
  refine Z.p [2] [] [(76, .bool true)] ?_
  refine Z.e (Z.ct ?_)
  refine wp_seq (Z.D (fun w' => Gx.Has w' k1 (.cells #[.int .i64 9, Z.n a, .string nm, .int .i64 1, .slice A 2 c] 24) ∧ Gx.Ext w w') (fun w2 x2 zw2 => ?_))
  refine Z.h ⟨(b1.ext x2), (((Gx.Ext.refl w).trans x1).trans x2)⟩ (fun hS1 => ?_)
  refine Z.t 0 (Z.P k1 2) hS1 ?_
  refine Z.tl 1 2 (.string nm) (fun _ hs => hs.1) hS1 ?_
  refine Z.tc 2 (Z.B [108, 101, 116, 32, 114, 101, 99, 32]) nm hS1 ?_
  refine Z.tc 3 ((Z.B [108, 101, 116, 32, 114, 101, 99, 32]) ++ nm) (Z.B [32]) hS1 ?_
  refine Z.t 4 (.slice A 2 c) hS1 ?_
  obtain ⟨a1, ha1, hc1⟩ := (Gx.Rd.ext hr (by decide) hE) 0 (by omega)
  refine Z.ti 5 24 5 ha1 2 c 0 hS1 ?_
  refine Z.ta 6 [.int .i64 7, Z.n fa, .string fx, .int .i64 fm, .slice (As 0) 1 (cs 0)] 5 hc1 (fun _ hs => hs.2) hS1 ?_
  refine Z.t 10 (.slice A 2 c) hS1 ?_
  obtain ⟨a2, ha2, hc2⟩ := (Gx.Rd.ext hr (by decide) hE) 1 (by omega)
  refine Z.ti 11 24 5 ha2 2 c 1 hS1 ?_
  refine Z.ta 12 [Z.n y.k, Z.n y.a, .string y.nm, .int .i64 y.n, .slice (As 1) y.ks.length (cs 1)] 5 hc2 (fun _ hs => hs.2) hS1 ?_
  refine Z.o 7 (fun R hR => (fun w K x k => def_c w0 fa fx fm z sz (As 0) (cs 0) Bs ds w K x hr0 h0 (by simp only [zap, zli, List.length]; omega) k) _ R (Gx.Ext.trans hE (((Gx.Ext.refl w).trans x1).trans x2)) (fun w3 x3 => hR _ _ ⟨⟨((b1.ext x2).ext x3), ((((Gx.Ext.refl w).trans x1).trans x2).trans x3)⟩, fun hS2 => ?_⟩))
  have zw3 := x3.size
  refine Z.tc 8 (((Z.B [108, 101, 116, 32, 114, 101, 99, 32]) ++ nm) ++ (Z.B [32])) ((fx ++ (Z.B [32, 61, 32])) ++ sz) hS2 ?_
  refine Z.tc 9 ((((Z.B [108, 101, 116, 32, 114, 101, 99, 32]) ++ nm) ++ (Z.B [32])) ++ ((fx ++ (Z.B [32, 61, 32])) ++ sz)) (Z.B [32, 105, 110, 32]) hS2 ?_
  refine Z.o 13 (fun R hR => h1 _ R (Gx.Ext.trans hE ((((Gx.Ext.refl w).trans x1).trans x2).trans x3)) (fun w4 x4 => hR _ _ ⟨⟨(((b1.ext x2).ext x3).ext x4), (((((Gx.Ext.refl w).trans x1).trans x2).trans x3).trans x4)⟩, fun hS3 => ?_⟩))
  have zw4 := x4.size
  refine Z.tc 14 (((((Z.B [108, 101, 116, 32, 114, 101, 99, 32]) ++ nm) ++ (Z.B [32])) ++ ((fx ++ (Z.B [32, 61, 32])) ++ sz)) ++ (Z.B [32, 105, 110, 32])) sy hS3 ?_
  refine Z.t 15 (.string ((((((Z.B [108, 101, 116, 32, 114, 101, 99, 32]) ++ nm) ++ (Z.B [32])) ++ ((fx ++ (Z.B [32, 61, 32])) ++ sz)) ++ (Z.B [32, 105, 110, 32])) ++ sy)) hS3 ?_
  refine Z.q ?_
  refine Z.x (wp_ret (Gx.then_ret (Gx.block_ret (Gx.then_ret (Z.v (.string ((((((Z.B [108, 101, 116, 32, 114, 101, 99, 32]) ++ nm) ++ (Z.B [32])) ++ ((fx ++ (Z.B [32, 61, 32])) ++ sz)) ++ (Z.B [32, 105, 110, 32])) ++ sy)) ?_)))))
  exact Gx.ret_as (v' := .string ((((((Z.B [108, 101, 116, 32, 114, 101, 99, 32]) ++ nm) ++ (Z.B [32])) ++ ((fx ++ (Z.B [32, 61, 32])) ++ sz)) ++ (Z.B [32, 105, 110, 32])) ++ sy)) (by rfl) (hK _ (((((Gx.Ext.refl w).trans x1).trans x2).trans x3).trans x4))

set_option maxHeartbeats 400000 in
set_option maxRecDepth 10000 in
theorem Write_10 (w0 : World) (a : Nat) (nm : ByteArray) (n : Int) (x y : Nd) (A : Option Addr) (c : Nat) (As : Nat → Option Addr) (cs : Nat → Nat) (sx sy : ByteArray) (w : World) (K : Ending → World → Prop) (hE : Gx.Ext w0 w) (hr : Gx.Rd w0 A 2 5 (fun i => ndC ([x, y].getD i nd0) (As i) (cs i))) (h0 : WOK w0 x (As 0) (cs 0) sx) (h1 : WOK w0 y (As 1) (cs 1) sy) (hsz : ((inT 1 x sx ++ (Z.B [32, 59, 32])) ++ sy).size ≤ 400000000) (hK : ∀ w', Gx.Ext w w' → K (.returned (.string ((inT 1 x sx ++ (Z.B [32, 59, 32])) ++ sy))) w') :
    Calls Tryd.prog 7 #[.agg #[.int .i64 10, Z.n a, .string nm, .int .i64 n, .slice A 2 c]] w K := by
  refine Gx.enter 307 Tryd.func7 rfl rfl (Nat.le_of_ble_eq_true rfl) ?_
  have hq := hsz; (try simp only [zap, zli, List.length] at hq)
  have i1 := inT_le 1 x sx
  refine Z.r [0, 1] ?_
  refine Z.N (.cells #[.int .i64 10, Z.n a, .string nm, .int .i64 n, .slice A 2 c] 24) (fun k1 w1 l1 x1 b1 zw1 tb1 => ?_)
  refine Z.p [1] [] [(2, .string Z.E)] ?_
  refine Z.e (Z.r [0, 1, 2] ?_)
  refine Z.p [0] [1, 2] [(6, Z.P k1 4)] ?_
  refine Z.L 4 (.slice A 2 c) b1 ?_
  refine Z.p [2] [] [(3, .slice A 2 c)] ?_
  refine Z.e (wp_seq (Z.r [0, 1] ?_))
  refine Z.p [0] [1] [(8, Z.P k1 0)] ?_
  refine Z.L 0 (.int .i64 10) b1 ?_
  refine Z.e (wp_block (Z.sf [(10, .bool false), (11, .bool false)] ?_))
  refine Z.sf [(14, .bool false), (15, .bool false)] ?_
  refine Z.sf [(27, .bool false), (28, .bool false)] ?_
  refine Z.sf [(32, .bool false), (33, .bool false)] ?_
  refine wp_seq (Z.sf [(34, .bool false), (35, .bool false)] ?_)
  refine Z.u [(34, .bool false), (36, .bool false)] ?_
  refine Z.x (Z.cf ?_)
  refine Z.sf [(39, .bool false), (40, .bool false)] ?_
  refine Z.sf [(50, .bool false), (51, .bool false)] ?_
  refine Z.sf [(72, .bool false), (73, .bool false)] ?_
  refine Z.st [(107, .bool true), (108, .bool true)] ?_
  refine wp_seq (Z.D (fun w' => Gx.Ext w w') (fun w2 x2 zw2 => ?_))
  refine Z.h (((Gx.Ext.refl w).trans x1).trans x2) (fun hS1 => ?_)
  refine Z.t 0 (.slice A 2 c) hS1 ?_
  obtain ⟨a1, ha1, hc1⟩ := (Gx.Rd.ext hr (by decide) hE) 0 (by omega)
  refine Z.ti 1 24 5 ha1 2 c 0 hS1 ?_
  refine Z.ta 2 [Z.n x.k, Z.n x.a, .string x.nm, .int .i64 x.n, .slice (As 0) x.ks.length (cs 0)] 5 hc1 (fun _ hs => hs) hS1 ?_
  refine Z.t 5 (.slice A 2 c) hS1 ?_
  obtain ⟨a2, ha2, hc2⟩ := (Gx.Rd.ext hr (by decide) hE) 1 (by omega)
  refine Z.ti 6 24 5 ha2 2 c 1 hS1 ?_
  refine Z.ta 7 [Z.n y.k, Z.n y.a, .string y.nm, .int .i64 y.n, .slice (As 1) y.ks.length (cs 1)] 5 hc2 (fun _ hs => hs) hS1 ?_
  refine Z.o 3 (fun R hR => in_c w0 x (As 0) (cs 0) sx 1 _ R (Gx.Ext.trans hE (((Gx.Ext.refl w).trans x1).trans x2)) (h0) (by omega) (fun w3 x3 => hR _ _ ⟨((((Gx.Ext.refl w).trans x1).trans x2).trans x3), fun hS2 => ?_⟩))
  have zw3 := x3.size
  refine Z.tc 4 (inT 1 x sx) (Z.B [32, 59, 32]) hS2 ?_
  refine Z.o 8 (fun R hR => h1 _ R (Gx.Ext.trans hE ((((Gx.Ext.refl w).trans x1).trans x2).trans x3)) (fun w4 x4 => hR _ _ ⟨(((((Gx.Ext.refl w).trans x1).trans x2).trans x3).trans x4), fun hS3 => ?_⟩))
  have zw4 := x4.size
  refine Z.tc 9 ((inT 1 x sx) ++ (Z.B [32, 59, 32])) sy hS3 ?_
  refine Z.t 10 (.string (((inT 1 x sx) ++ (Z.B [32, 59, 32])) ++ sy)) hS3 ?_
  refine Z.q ?_
  refine Z.x (wp_ret (Gx.block_ret (Gx.then_ret (Z.v (.string (((inT 1 x sx) ++ (Z.B [32, 59, 32])) ++ sy)) ?_))))
  exact Gx.ret_as (v' := .string ((inT 1 x sx ++ (Z.B [32, 59, 32])) ++ sy)) (by rfl) (hK _ (((((Gx.Ext.refl w).trans x1).trans x2).trans x3).trans x4))

set_option maxHeartbeats 400000 in
set_option maxRecDepth 10000 in
theorem Write_11 (w0 : World) (a : Nat) (nm : ByteArray) (n : Int) (x y z : Nd) (A : Option Addr) (c : Nat) (As : Nat → Option Addr) (cs : Nat → Nat) (sx sy sz : ByteArray) (w : World) (K : Ending → World → Prop) (hE : Gx.Ext w0 w) (hr : Gx.Rd w0 A 3 5 (fun i => ndC ([x, y, z].getD i nd0) (As i) (cs i))) (h0 : WOK w0 x (As 0) (cs 0) sx) (h1 : WOK w0 y (As 1) (cs 1) sy) (h2 : WOK w0 z (As 2) (cs 2) sz) (hsz : ((((((Z.B [105, 102, 32]) ++ sx) ++ (Z.B [32, 116, 104, 101, 110, 32])) ++ sy) ++ (Z.B [32, 101, 108, 115, 101, 32])) ++ sz).size ≤ 400000000) (hK : ∀ w', Gx.Ext w w' → K (.returned (.string ((((((Z.B [105, 102, 32]) ++ sx) ++ (Z.B [32, 116, 104, 101, 110, 32])) ++ sy) ++ (Z.B [32, 101, 108, 115, 101, 32])) ++ sz))) w') :
    Calls Tryd.prog 7 #[.agg #[.int .i64 11, Z.n a, .string nm, .int .i64 n, .slice A 3 c]] w K := by
  refine Gx.enter 307 Tryd.func7 rfl rfl (Nat.le_of_ble_eq_true rfl) ?_
  have hq := hsz; (try simp only [zap, zli, List.length] at hq)
  refine Z.r [0, 1] ?_
  refine Z.N (.cells #[.int .i64 11, Z.n a, .string nm, .int .i64 n, .slice A 3 c] 24) (fun k1 w1 l1 x1 b1 zw1 tb1 => ?_)
  refine Z.p [1] [] [(2, .string Z.E)] ?_
  refine Z.e (Z.r [0, 1, 2] ?_)
  refine Z.p [0] [1, 2] [(6, Z.P k1 4)] ?_
  refine Z.L 4 (.slice A 3 c) b1 ?_
  refine Z.p [2] [] [(3, .slice A 3 c)] ?_
  refine Z.e (wp_seq (Z.r [0, 1] ?_))
  refine Z.p [0] [1] [(8, Z.P k1 0)] ?_
  refine Z.L 0 (.int .i64 11) b1 ?_
  refine Z.e (wp_block (Z.sf [(10, .bool false), (11, .bool false)] ?_))
  refine Z.sf [(14, .bool false), (15, .bool false)] ?_
  refine Z.sf [(27, .bool false), (28, .bool false)] ?_
  refine Z.sf [(32, .bool false), (33, .bool false)] ?_
  refine wp_seq (Z.sf [(34, .bool false), (35, .bool false)] ?_)
  refine Z.u [(34, .bool false), (36, .bool false)] ?_
  refine Z.x (Z.cf ?_)
  refine Z.sf [(39, .bool false), (40, .bool false)] ?_
  refine Z.sf [(50, .bool false), (51, .bool false)] ?_
  refine Z.sf [(72, .bool false), (73, .bool false)] ?_
  refine Z.sf [(107, .bool false), (108, .bool false)] ?_
  refine Z.st [(119, .bool true), (120, .bool true)] ?_
  refine wp_seq (Z.D (fun w' => Gx.Ext w w') (fun w2 x2 zw2 => ?_))
  refine Z.h (((Gx.Ext.refl w).trans x1).trans x2) (fun hS1 => ?_)
  refine Z.t 0 (.slice A 3 c) hS1 ?_
  obtain ⟨a1, ha1, hc1⟩ := (Gx.Rd.ext hr (by decide) hE) 0 (by omega)
  refine Z.ti 1 24 5 ha1 3 c 0 hS1 ?_
  refine Z.ta 2 [Z.n x.k, Z.n x.a, .string x.nm, .int .i64 x.n, .slice (As 0) x.ks.length (cs 0)] 5 hc1 (fun _ hs => hs) hS1 ?_
  refine Z.t 6 (.slice A 3 c) hS1 ?_
  obtain ⟨a2, ha2, hc2⟩ := (Gx.Rd.ext hr (by decide) hE) 1 (by omega)
  refine Z.ti 7 24 5 ha2 3 c 1 hS1 ?_
  refine Z.ta 8 [Z.n y.k, Z.n y.a, .string y.nm, .int .i64 y.n, .slice (As 1) y.ks.length (cs 1)] 5 hc2 (fun _ hs => hs) hS1 ?_
  refine Z.t 12 (.slice A 3 c) hS1 ?_
  obtain ⟨a3, ha3, hc3⟩ := (Gx.Rd.ext hr (by decide) hE) 2 (by omega)
  refine Z.ti 13 24 5 ha3 3 c 2 hS1 ?_
  refine Z.ta 14 [Z.n z.k, Z.n z.a, .string z.nm, .int .i64 z.n, .slice (As 2) z.ks.length (cs 2)] 5 hc3 (fun _ hs => hs) hS1 ?_
  refine Z.o 3 (fun R hR => h0 _ R (Gx.Ext.trans hE (((Gx.Ext.refl w).trans x1).trans x2)) (fun w3 x3 => hR _ _ ⟨((((Gx.Ext.refl w).trans x1).trans x2).trans x3), fun hS2 => ?_⟩))
  have zw3 := x3.size
  refine Z.tc 4 (Z.B [105, 102, 32]) sx hS2 ?_
  refine Z.tc 5 ((Z.B [105, 102, 32]) ++ sx) (Z.B [32, 116, 104, 101, 110, 32]) hS2 ?_
  refine Z.o 9 (fun R hR => h1 _ R (Gx.Ext.trans hE ((((Gx.Ext.refl w).trans x1).trans x2).trans x3)) (fun w4 x4 => hR _ _ ⟨(((((Gx.Ext.refl w).trans x1).trans x2).trans x3).trans x4), fun hS3 => ?_⟩))
  have zw4 := x4.size
  refine Z.tc 10 (((Z.B [105, 102, 32]) ++ sx) ++ (Z.B [32, 116, 104, 101, 110, 32])) sy hS3 ?_
  refine Z.tc 11 ((((Z.B [105, 102, 32]) ++ sx) ++ (Z.B [32, 116, 104, 101, 110, 32])) ++ sy) (Z.B [32, 101, 108, 115, 101, 32]) hS3 ?_
  refine Z.o 15 (fun R hR => h2 _ R (Gx.Ext.trans hE (((((Gx.Ext.refl w).trans x1).trans x2).trans x3).trans x4)) (fun w5 x5 => hR _ _ ⟨((((((Gx.Ext.refl w).trans x1).trans x2).trans x3).trans x4).trans x5), fun hS4 => ?_⟩))
  have zw5 := x5.size
  refine Z.tc 16 (((((Z.B [105, 102, 32]) ++ sx) ++ (Z.B [32, 116, 104, 101, 110, 32])) ++ sy) ++ (Z.B [32, 101, 108, 115, 101, 32])) sz hS4 ?_
  refine Z.t 17 (.string ((((((Z.B [105, 102, 32]) ++ sx) ++ (Z.B [32, 116, 104, 101, 110, 32])) ++ sy) ++ (Z.B [32, 101, 108, 115, 101, 32])) ++ sz)) hS4 ?_
  refine Z.q ?_
  refine Z.x (wp_ret (Gx.block_ret (Gx.then_ret (Z.v (.string ((((((Z.B [105, 102, 32]) ++ sx) ++ (Z.B [32, 116, 104, 101, 110, 32])) ++ sy) ++ (Z.B [32, 101, 108, 115, 101, 32])) ++ sz)) ?_))))
  exact Gx.ret_as (v' := .string ((((((Z.B [105, 102, 32]) ++ sx) ++ (Z.B [32, 116, 104, 101, 110, 32])) ++ sy) ++ (Z.B [32, 101, 108, 115, 101, 32])) ++ sz)) (by rfl) (hK _ ((((((Gx.Ext.refl w).trans x1).trans x2).trans x3).trans x4).trans x5))

set_option maxHeartbeats 400000 in
set_option maxRecDepth 10000 in
theorem Write_12 (w0 : World) (a : Nat) (nm : ByteArray) (n : Int) (x y : Nd) (A : Option Addr) (c : Nat) (As : Nat → Option Addr) (cs : Nat → Nat) (sx sy : ByteArray) (w : World) (K : Ending → World → Prop) (hE : Gx.Ext w0 w) (hr : Gx.Rd w0 A 2 5 (fun i => ndC ([x, y].getD i nd0) (As i) (cs i))) (h0 : WOK w0 x (As 0) (cs 0) sx) (h1 : WOK w0 y (As 1) (cs 1) sy) (hsz : (((((Z.B [40, 32]) ++ sx) ++ (Z.B [32, 44, 32])) ++ sy) ++ (Z.B [32, 41])).size ≤ 400000000) (hK : ∀ w', Gx.Ext w w' → K (.returned (.string (((((Z.B [40, 32]) ++ sx) ++ (Z.B [32, 44, 32])) ++ sy) ++ (Z.B [32, 41])))) w') :
    Calls Tryd.prog 7 #[.agg #[.int .i64 12, Z.n a, .string nm, .int .i64 n, .slice A 2 c]] w K := by
  refine Gx.enter 307 Tryd.func7 rfl rfl (Nat.le_of_ble_eq_true rfl) ?_
  have hq := hsz; (try simp only [zap, zli, List.length] at hq)
  refine Z.r [0, 1] ?_
  refine Z.N (.cells #[.int .i64 12, Z.n a, .string nm, .int .i64 n, .slice A 2 c] 24) (fun k1 w1 l1 x1 b1 zw1 tb1 => ?_)
  refine Z.p [1] [] [(2, .string Z.E)] ?_
  refine Z.e (Z.r [0, 1, 2] ?_)
  refine Z.p [0] [1, 2] [(6, Z.P k1 4)] ?_
  refine Z.L 4 (.slice A 2 c) b1 ?_
  refine Z.p [2] [] [(3, .slice A 2 c)] ?_
  refine Z.e (wp_seq (Z.r [0, 1] ?_))
  refine Z.p [0] [1] [(8, Z.P k1 0)] ?_
  refine Z.L 0 (.int .i64 12) b1 ?_
  refine Z.e (wp_block (Z.sf [(10, .bool false), (11, .bool false)] ?_))
  refine Z.sf [(14, .bool false), (15, .bool false)] ?_
  refine Z.sf [(27, .bool false), (28, .bool false)] ?_
  refine Z.sf [(32, .bool false), (33, .bool false)] ?_
  refine wp_seq (Z.sf [(34, .bool false), (35, .bool false)] ?_)
  refine Z.u [(34, .bool false), (36, .bool false)] ?_
  refine Z.x (Z.cf ?_)
  refine Z.sf [(39, .bool false), (40, .bool false)] ?_
  refine Z.sf [(50, .bool false), (51, .bool false)] ?_
  refine Z.sf [(72, .bool false), (73, .bool false)] ?_
  refine Z.sf [(107, .bool false), (108, .bool false)] ?_
  refine Z.sf [(119, .bool false), (120, .bool false)] ?_
  refine Z.st [(138, .bool true), (139, .bool true)] ?_
  refine wp_seq (Z.D (fun w' => Gx.Ext w w') (fun w2 x2 zw2 => ?_))
  refine Z.h (((Gx.Ext.refl w).trans x1).trans x2) (fun hS1 => ?_)
  refine Z.t 0 (.slice A 2 c) hS1 ?_
  obtain ⟨a1, ha1, hc1⟩ := (Gx.Rd.ext hr (by decide) hE) 0 (by omega)
  refine Z.ti 1 24 5 ha1 2 c 0 hS1 ?_
  refine Z.ta 2 [Z.n x.k, Z.n x.a, .string x.nm, .int .i64 x.n, .slice (As 0) x.ks.length (cs 0)] 5 hc1 (fun _ hs => hs) hS1 ?_
  refine Z.t 6 (.slice A 2 c) hS1 ?_
  obtain ⟨a2, ha2, hc2⟩ := (Gx.Rd.ext hr (by decide) hE) 1 (by omega)
  refine Z.ti 7 24 5 ha2 2 c 1 hS1 ?_
  refine Z.ta 8 [Z.n y.k, Z.n y.a, .string y.nm, .int .i64 y.n, .slice (As 1) y.ks.length (cs 1)] 5 hc2 (fun _ hs => hs) hS1 ?_
  refine Z.o 3 (fun R hR => h0 _ R (Gx.Ext.trans hE (((Gx.Ext.refl w).trans x1).trans x2)) (fun w3 x3 => hR _ _ ⟨((((Gx.Ext.refl w).trans x1).trans x2).trans x3), fun hS2 => ?_⟩))
  have zw3 := x3.size
  refine Z.tc 4 (Z.B [40, 32]) sx hS2 ?_
  refine Z.tc 5 ((Z.B [40, 32]) ++ sx) (Z.B [32, 44, 32]) hS2 ?_
  refine Z.o 9 (fun R hR => h1 _ R (Gx.Ext.trans hE ((((Gx.Ext.refl w).trans x1).trans x2).trans x3)) (fun w4 x4 => hR _ _ ⟨(((((Gx.Ext.refl w).trans x1).trans x2).trans x3).trans x4), fun hS3 => ?_⟩))
  have zw4 := x4.size
  refine Z.tc 10 (((Z.B [40, 32]) ++ sx) ++ (Z.B [32, 44, 32])) sy hS3 ?_
  refine Z.tc 11 ((((Z.B [40, 32]) ++ sx) ++ (Z.B [32, 44, 32])) ++ sy) (Z.B [32, 41]) hS3 ?_
  refine Z.t 12 (.string (((((Z.B [40, 32]) ++ sx) ++ (Z.B [32, 44, 32])) ++ sy) ++ (Z.B [32, 41]))) hS3 ?_
  refine Z.q ?_
  refine Z.x (wp_ret (Gx.block_ret (Gx.then_ret (Z.v (.string (((((Z.B [40, 32]) ++ sx) ++ (Z.B [32, 44, 32])) ++ sy) ++ (Z.B [32, 41]))) ?_))))
  exact Gx.ret_as (v' := .string (((((Z.B [40, 32]) ++ sx) ++ (Z.B [32, 44, 32])) ++ sy) ++ (Z.B [32, 41]))) (by rfl) (hK _ (((((Gx.Ext.refl w).trans x1).trans x2).trans x3).trans x4))

set_option maxHeartbeats 400000 in
set_option maxRecDepth 10000 in
theorem Write_13 (w0 : World) (a : Nat) (nm : ByteArray) (n : Int) (x : Nd) (A : Option Addr) (c : Nat) (As : Nat → Option Addr) (cs : Nat → Nat) (sx : ByteArray) (w : World) (K : Ending → World → Prop) (hE : Gx.Ext w0 w) (hr : Gx.Rd w0 A 1 5 (fun i => ndC ([x].getD i nd0) (As i) (cs i))) (h0 : WOK w0 x (As 0) (cs 0) sx) (hsz : ((Z.B [102, 115, 116, 32]) ++ inT 6 x sx).size ≤ 400000000) (hK : ∀ w', Gx.Ext w w' → K (.returned (.string ((Z.B [102, 115, 116, 32]) ++ inT 6 x sx))) w') :
    Calls Tryd.prog 7 #[.agg #[.int .i64 13, Z.n a, .string nm, .int .i64 n, .slice A 1 c]] w K := by
  refine Gx.enter 307 Tryd.func7 rfl rfl (Nat.le_of_ble_eq_true rfl) ?_
  have hq := hsz; (try simp only [zap, zli, List.length] at hq)
  have i1 := inT_le 6 x sx
  refine Z.r [0, 1] ?_
  refine Z.N (.cells #[.int .i64 13, Z.n a, .string nm, .int .i64 n, .slice A 1 c] 24) (fun k1 w1 l1 x1 b1 zw1 tb1 => ?_)
  refine Z.p [1] [] [(2, .string Z.E)] ?_
  refine Z.e (Z.r [0, 1, 2] ?_)
  refine Z.p [0] [1, 2] [(6, Z.P k1 4)] ?_
  refine Z.L 4 (.slice A 1 c) b1 ?_
  refine Z.p [2] [] [(3, .slice A 1 c)] ?_
  refine Z.e (wp_seq (Z.r [0, 1] ?_))
  refine Z.p [0] [1] [(8, Z.P k1 0)] ?_
  refine Z.L 0 (.int .i64 13) b1 ?_
  refine Z.e (wp_block (Z.sf [(10, .bool false), (11, .bool false)] ?_))
  refine Z.sf [(14, .bool false), (15, .bool false)] ?_
  refine Z.sf [(27, .bool false), (28, .bool false)] ?_
  refine Z.sf [(32, .bool false), (33, .bool false)] ?_
  refine wp_seq (Z.sf [(34, .bool false), (35, .bool false)] ?_)
  refine Z.u [(34, .bool false), (36, .bool false)] ?_
  refine Z.x (Z.cf ?_)
  refine Z.sf [(39, .bool false), (40, .bool false)] ?_
  refine Z.sf [(50, .bool false), (51, .bool false)] ?_
  refine Z.sf [(72, .bool false), (73, .bool false)] ?_
  refine Z.sf [(107, .bool false), (108, .bool false)] ?_
  refine Z.sf [(119, .bool false), (120, .bool false)] ?_
  refine Z.sf [(138, .bool false), (139, .bool false)] ?_
  refine Z.st [(152, .bool true), (153, .bool true)] ?_
  refine Z.r [0, 1, 2, 3, 4, 5] ?_
  refine Z.p [0] [1, 2, 3, 4, 5] [(154, .slice A 1 c)] ?_
  obtain ⟨a1, ha1, hc1⟩ := (Gx.Rd.ext hr (by decide) hE) 0 (by omega)
  refine Z.I 24 5 ha1 1 c 0 ?_
  refine Z.La [Z.n x.k, Z.n x.a, .string x.nm, .int .i64 x.n, .slice (As 0) x.ks.length (cs 0)] 5 hc1 ((Gx.Ext.refl w).trans x1) ?_
  refine Z.k (fun R hR => in_c w0 x (As 0) (cs 0) sx 6 _ R (Gx.Ext.trans hE ((Gx.Ext.refl w).trans x1)) (h0) (by omega) (fun w2 x2 => hR _ _ ?_))
  have zw2 := x2.size
  refine Z.C (Z.B [102, 115, 116, 32]) (inT 6 x sx) ?_
  refine Z.p [5] [] [(2, .string ((Z.B [102, 115, 116, 32]) ++ (inT 6 x sx)))] ?_
  refine Z.e (wp_ret (Gx.block_ret (Gx.then_ret (Z.v (.string ((Z.B [102, 115, 116, 32]) ++ (inT 6 x sx))) ?_))))
  exact Gx.ret_as (v' := .string ((Z.B [102, 115, 116, 32]) ++ inT 6 x sx)) (by rfl) (hK _ (((Gx.Ext.refl w).trans x1).trans x2))

set_option maxHeartbeats 400000 in
set_option maxRecDepth 10000 in
theorem Write_14 (w0 : World) (a : Nat) (nm : ByteArray) (n : Int) (x : Nd) (A : Option Addr) (c : Nat) (As : Nat → Option Addr) (cs : Nat → Nat) (sx : ByteArray) (w : World) (K : Ending → World → Prop) (hE : Gx.Ext w0 w) (hr : Gx.Rd w0 A 1 5 (fun i => ndC ([x].getD i nd0) (As i) (cs i))) (h0 : WOK w0 x (As 0) (cs 0) sx) (hsz : ((Z.B [115, 110, 100, 32]) ++ inT 6 x sx).size ≤ 400000000) (hK : ∀ w', Gx.Ext w w' → K (.returned (.string ((Z.B [115, 110, 100, 32]) ++ inT 6 x sx))) w') :
    Calls Tryd.prog 7 #[.agg #[.int .i64 14, Z.n a, .string nm, .int .i64 n, .slice A 1 c]] w K := by
  refine Gx.enter 307 Tryd.func7 rfl rfl (Nat.le_of_ble_eq_true rfl) ?_
  have hq := hsz; (try simp only [zap, zli, List.length] at hq)
  have i1 := inT_le 6 x sx
  refine Z.r [0, 1] ?_
  refine Z.N (.cells #[.int .i64 14, Z.n a, .string nm, .int .i64 n, .slice A 1 c] 24) (fun k1 w1 l1 x1 b1 zw1 tb1 => ?_)
  refine Z.p [1] [] [(2, .string Z.E)] ?_
  refine Z.e (Z.r [0, 1, 2] ?_)
  refine Z.p [0] [1, 2] [(6, Z.P k1 4)] ?_
  refine Z.L 4 (.slice A 1 c) b1 ?_
  refine Z.p [2] [] [(3, .slice A 1 c)] ?_
  refine Z.e (wp_seq (Z.r [0, 1] ?_))
  refine Z.p [0] [1] [(8, Z.P k1 0)] ?_
  refine Z.L 0 (.int .i64 14) b1 ?_
  refine Z.e (wp_block (Z.sf [(10, .bool false), (11, .bool false)] ?_))
  refine Z.sf [(14, .bool false), (15, .bool false)] ?_
  refine Z.sf [(27, .bool false), (28, .bool false)] ?_
  refine Z.sf [(32, .bool false), (33, .bool false)] ?_
  refine wp_seq (Z.sf [(34, .bool false), (35, .bool false)] ?_)
  refine Z.u [(34, .bool false), (36, .bool false)] ?_
  refine Z.x (Z.cf ?_)
  refine Z.sf [(39, .bool false), (40, .bool false)] ?_
  refine Z.sf [(50, .bool false), (51, .bool false)] ?_
  refine Z.sf [(72, .bool false), (73, .bool false)] ?_
  refine Z.sf [(107, .bool false), (108, .bool false)] ?_
  refine Z.sf [(119, .bool false), (120, .bool false)] ?_
  refine Z.sf [(138, .bool false), (139, .bool false)] ?_
  refine Z.sf [(152, .bool false), (153, .bool false)] ?_
  refine Z.st [(159, .bool true), (160, .bool true)] ?_
  refine Z.r [0, 1, 2, 3, 4, 5] ?_
  refine Z.p [0] [1, 2, 3, 4, 5] [(161, .slice A 1 c)] ?_
  obtain ⟨a1, ha1, hc1⟩ := (Gx.Rd.ext hr (by decide) hE) 0 (by omega)
  refine Z.I 24 5 ha1 1 c 0 ?_
  refine Z.La [Z.n x.k, Z.n x.a, .string x.nm, .int .i64 x.n, .slice (As 0) x.ks.length (cs 0)] 5 hc1 ((Gx.Ext.refl w).trans x1) ?_
  refine Z.k (fun R hR => in_c w0 x (As 0) (cs 0) sx 6 _ R (Gx.Ext.trans hE ((Gx.Ext.refl w).trans x1)) (h0) (by omega) (fun w2 x2 => hR _ _ ?_))
  have zw2 := x2.size
  refine Z.C (Z.B [115, 110, 100, 32]) (inT 6 x sx) ?_
  refine Z.p [5] [] [(2, .string ((Z.B [115, 110, 100, 32]) ++ (inT 6 x sx)))] ?_
  refine Z.e (wp_ret (Gx.block_ret (Gx.then_ret (Z.v (.string ((Z.B [115, 110, 100, 32]) ++ (inT 6 x sx))) ?_))))
  exact Gx.ret_as (v' := .string ((Z.B [115, 110, 100, 32]) ++ inT 6 x sx)) (by rfl) (hK _ (((Gx.Ext.refl w).trans x1).trans x2))

set_option maxHeartbeats 400000 in
set_option maxRecDepth 10000 in
theorem Write_15 (w0 : World) (a : Nat) (nm : ByteArray) (n : Int) (A : Option Addr) (c : Nat) (As : Nat → Option Addr) (cs : Nat → Nat) (w : World) (K : Ending → World → Prop) (hE : Gx.Ext w0 w) (hsz : ((Z.B [91, 32, 93])).size ≤ 400000000) (hK : ∀ w', Gx.Ext w w' → K (.returned (.string ((Z.B [91, 32, 93])))) w') :
    Calls Tryd.prog 7 #[.agg #[.int .i64 15, Z.n a, .string nm, .int .i64 n, .slice A 0 c]] w K := by
  refine Gx.enter 307 Tryd.func7 rfl rfl (Nat.le_of_ble_eq_true rfl) ?_
  have hq := hsz; (try simp only [zap, zli, List.length] at hq)
  refine Z.r [0, 1] ?_
  refine Z.N (.cells #[.int .i64 15, Z.n a, .string nm, .int .i64 n, .slice A 0 c] 24) (fun k1 w1 l1 x1 b1 zw1 tb1 => ?_)
  refine Z.p [1] [] [(2, .string Z.E)] ?_
  refine Z.e (Z.r [0, 1, 2] ?_)
  refine Z.p [0] [1, 2] [(6, Z.P k1 4)] ?_
  refine Z.L 4 (.slice A 0 c) b1 ?_
  refine Z.p [2] [] [(3, .slice A 0 c)] ?_
  refine Z.e (wp_seq (Z.r [0, 1] ?_))
  refine Z.p [0] [1] [(8, Z.P k1 0)] ?_
  refine Z.L 0 (.int .i64 15) b1 ?_
  refine Z.e (wp_block (Z.sf [(10, .bool false), (11, .bool false)] ?_))
  refine Z.sf [(14, .bool false), (15, .bool false)] ?_
  refine Z.sf [(27, .bool false), (28, .bool false)] ?_
  refine Z.sf [(32, .bool false), (33, .bool false)] ?_
  refine wp_seq (Z.sf [(34, .bool false), (35, .bool false)] ?_)
  refine Z.u [(34, .bool false), (36, .bool false)] ?_
  refine Z.x (Z.cf ?_)
  refine Z.sf [(39, .bool false), (40, .bool false)] ?_
  refine Z.sf [(50, .bool false), (51, .bool false)] ?_
  refine Z.sf [(72, .bool false), (73, .bool false)] ?_
  refine Z.sf [(107, .bool false), (108, .bool false)] ?_
  refine Z.sf [(119, .bool false), (120, .bool false)] ?_
  refine Z.sf [(138, .bool false), (139, .bool false)] ?_
  refine Z.sf [(152, .bool false), (153, .bool false)] ?_
  refine Z.sf [(159, .bool false), (160, .bool false)] ?_
  refine Z.st [(166, .bool true), (167, .bool true)] ?_
  refine Z.s [(2, .string (Z.B [91, 32, 93]))] ?_
  refine wp_ret (Gx.block_ret (Gx.then_ret (Z.v (.string (Z.B [91, 32, 93])) ?_)))
  exact Gx.ret_as (v' := .string ((Z.B [91, 32, 93]))) (by rfl) (hK _ ((Gx.Ext.refl w).trans x1))

set_option maxHeartbeats 400000 in
set_option maxRecDepth 10000 in
theorem Write_16 (w0 : World) (a : Nat) (nm : ByteArray) (n : Int) (x y : Nd) (A : Option Addr) (c : Nat) (As : Nat → Option Addr) (cs : Nat → Nat) (sx sy : ByteArray) (w : World) (K : Ending → World → Prop) (hE : Gx.Ext w0 w) (hr : Gx.Rd w0 A 2 5 (fun i => ndC ([x, y].getD i nd0) (As i) (cs i))) (h0 : WOK w0 x (As 0) (cs 0) sx) (h1 : WOK w0 y (As 1) (cs 1) sy) (hsz : ((inT 3 x sx ++ (Z.B [32, 58, 58, 32])) ++ inT 2 y sy).size ≤ 400000000) (hK : ∀ w', Gx.Ext w w' → K (.returned (.string ((inT 3 x sx ++ (Z.B [32, 58, 58, 32])) ++ inT 2 y sy))) w') :
    Calls Tryd.prog 7 #[.agg #[.int .i64 16, Z.n a, .string nm, .int .i64 n, .slice A 2 c]] w K := by
  refine Gx.enter 307 Tryd.func7 rfl rfl (Nat.le_of_ble_eq_true rfl) ?_
  have hq := hsz; (try simp only [zap, zli, List.length] at hq)
  have i1 := inT_le 3 x sx; have i2 := inT_le 2 y sy
  refine Z.r [0, 1] ?_
  refine Z.N (.cells #[.int .i64 16, Z.n a, .string nm, .int .i64 n, .slice A 2 c] 24) (fun k1 w1 l1 x1 b1 zw1 tb1 => ?_)
  refine Z.p [1] [] [(2, .string Z.E)] ?_
  refine Z.e (Z.r [0, 1, 2] ?_)
  refine Z.p [0] [1, 2] [(6, Z.P k1 4)] ?_
  refine Z.L 4 (.slice A 2 c) b1 ?_
  refine Z.p [2] [] [(3, .slice A 2 c)] ?_
  refine Z.e (wp_seq (Z.r [0, 1] ?_))
  refine Z.p [0] [1] [(8, Z.P k1 0)] ?_
  refine Z.L 0 (.int .i64 16) b1 ?_
  refine Z.e (wp_block (Z.sf [(10, .bool false), (11, .bool false)] ?_))
  refine Z.sf [(14, .bool false), (15, .bool false)] ?_
  refine Z.sf [(27, .bool false), (28, .bool false)] ?_
  refine Z.sf [(32, .bool false), (33, .bool false)] ?_
  refine wp_seq (Z.sf [(34, .bool false), (35, .bool false)] ?_)
  refine Z.u [(34, .bool false), (36, .bool false)] ?_
  refine Z.x (Z.cf ?_)
  refine Z.sf [(39, .bool false), (40, .bool false)] ?_
  refine Z.sf [(50, .bool false), (51, .bool false)] ?_
  refine Z.sf [(72, .bool false), (73, .bool false)] ?_
  refine Z.sf [(107, .bool false), (108, .bool false)] ?_
  refine Z.sf [(119, .bool false), (120, .bool false)] ?_
  refine Z.sf [(138, .bool false), (139, .bool false)] ?_
  refine Z.sf [(152, .bool false), (153, .bool false)] ?_
  refine Z.sf [(159, .bool false), (160, .bool false)] ?_
  refine Z.sf [(166, .bool false), (167, .bool false)] ?_
  refine Z.st [(168, .bool true), (169, .bool true)] ?_
  refine wp_seq (Z.D (fun w' => Gx.Ext w w') (fun w2 x2 zw2 => ?_))
  refine Z.h (((Gx.Ext.refl w).trans x1).trans x2) (fun hS1 => ?_)
  refine Z.t 0 (.slice A 2 c) hS1 ?_
  obtain ⟨a1, ha1, hc1⟩ := (Gx.Rd.ext hr (by decide) hE) 0 (by omega)
  refine Z.ti 1 24 5 ha1 2 c 0 hS1 ?_
  refine Z.ta 2 [Z.n x.k, Z.n x.a, .string x.nm, .int .i64 x.n, .slice (As 0) x.ks.length (cs 0)] 5 hc1 (fun _ hs => hs) hS1 ?_
  refine Z.t 5 (.slice A 2 c) hS1 ?_
  obtain ⟨a2, ha2, hc2⟩ := (Gx.Rd.ext hr (by decide) hE) 1 (by omega)
  refine Z.ti 6 24 5 ha2 2 c 1 hS1 ?_
  refine Z.ta 7 [Z.n y.k, Z.n y.a, .string y.nm, .int .i64 y.n, .slice (As 1) y.ks.length (cs 1)] 5 hc2 (fun _ hs => hs) hS1 ?_
  refine Z.o 3 (fun R hR => in_c w0 x (As 0) (cs 0) sx 3 _ R (Gx.Ext.trans hE (((Gx.Ext.refl w).trans x1).trans x2)) (h0) (by omega) (fun w3 x3 => hR _ _ ⟨((((Gx.Ext.refl w).trans x1).trans x2).trans x3), fun hS2 => ?_⟩))
  have zw3 := x3.size
  refine Z.tc 4 (inT 3 x sx) (Z.B [32, 58, 58, 32]) hS2 ?_
  refine Z.o 8 (fun R hR => in_c w0 y (As 1) (cs 1) sy 2 _ R (Gx.Ext.trans hE ((((Gx.Ext.refl w).trans x1).trans x2).trans x3)) (h1) (by omega) (fun w4 x4 => hR _ _ ⟨(((((Gx.Ext.refl w).trans x1).trans x2).trans x3).trans x4), fun hS3 => ?_⟩))
  have zw4 := x4.size
  refine Z.tc 9 ((inT 3 x sx) ++ (Z.B [32, 58, 58, 32])) (inT 2 y sy) hS3 ?_
  refine Z.t 10 (.string (((inT 3 x sx) ++ (Z.B [32, 58, 58, 32])) ++ (inT 2 y sy))) hS3 ?_
  refine Z.q ?_
  refine Z.x (wp_ret (Gx.block_ret (Gx.then_ret (Z.v (.string (((inT 3 x sx) ++ (Z.B [32, 58, 58, 32])) ++ (inT 2 y sy))) ?_))))
  exact Gx.ret_as (v' := .string ((inT 3 x sx ++ (Z.B [32, 58, 58, 32])) ++ inT 2 y sy)) (by rfl) (hK _ (((((Gx.Ext.refl w).trans x1).trans x2).trans x3).trans x4))

end Go.Proofs.YtinilkomfggjiaaDoor
