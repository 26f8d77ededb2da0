/- The walks, written by a program of ours (wip/gx/gx.py, writegen.py). -/
import Derived.Test.YtinilkomfggjiaaDoorRows
import Derived.Test.YtinilkomfggjiaaDoorGs
import Derived.Test.YtinilkomfggjiaaDoorSynWr
import Derived.Test.YtinilkomfggjiaaDoorWrWalks2
set_option linter.unusedVariables false
set_option linter.unusedSimpArgs false
namespace Go.Proofs.YtinilkomfggjiaaDoor
open Go.RowKit Go.Lex Go.Syn
open Go.Show (digB e0 dig_small dig_step app_e0 app_assoc)
attribute [local irreducible] Go.wpOps Go.Code.wp Go.wpOp Go.wpAnyH Go.Calls
set_option maxHeartbeats 400000 in
set_option maxRecDepth 10000 in
theorem Write_17 (w0 : World) (a : Nat) (nm : ByteArray) (n : Int) (A : Option Addr) (c : Nat) (As : Nat → Option Addr) (cs : Nat → Nat) (x y u v z : Nd) (sx sy sz : ByteArray) (w : World) (K : Ending → World → Prop) (hE : Gx.Ext w0 w) (hr : Gx.Rd w0 A 5 5 (fun i => ndC ([x, y, u, v, z].getD i nd0) (As i) (cs i))) (h0 : WOK w0 x (As 0) (cs 0) sx) (h1 : WOK w0 y (As 1) (cs 1) sy) (h4 : WOK w0 z (As 4) (cs 4) sz) (hsz : (((((((((((Z.B [99, 97, 115, 101, 32]) ++ sx) ++ (Z.B [32, 111, 102, 32, 91, 32, 93, 32, 61, 62, 32])) ++ sy) ++ (Z.B [32, 124, 32])) ++ u.nm) ++ (Z.B [32, 58, 58, 32])) ++ v.nm) ++ (Z.B [32, 61, 62, 32])) ++ sz) ++ (Z.B [32, 101, 110, 100])).size ≤ 400000000) (hK : ∀ w', Gx.Ext w w' → K (.returned (.string (((((((((((Z.B [99, 97, 115, 101, 32]) ++ sx) ++ (Z.B [32, 111, 102, 32, 91, 32, 93, 32, 61, 62, 32])) ++ sy) ++ (Z.B [32, 124, 32])) ++ u.nm) ++ (Z.B [32, 58, 58, 32])) ++ v.nm) ++ (Z.B [32, 61, 62, 32])) ++ sz) ++ (Z.B [32, 101, 110, 100])))) w') :
    Calls Tryd.prog 7 #[.agg #[.int .i64 17, Z.n a, .string nm, .int .i64 n, .slice A 5 c]] w K := by
  refine Gx.enter 307 Tryd.func7 rfl rfl (Nat.le_of_ble_eq_true rfl) ?_
  have hq := hsz; (try simp only [zap, zli, List.length] at hq)
  refine Z.r [0, 1] ?_
  refine Z.N (.cells #[.int .i64 17, Z.n a, .string nm, .int .i64 n, .slice A 5 c] 24) (fun k1 w1 l1 x1 b1 zw1 tb1 => ?_)
  refine Z.p [1] [] [(2, .string Z.E)] ?_
  refine Z.e (Z.r [0, 1, 2] ?_)
  refine Z.p [0] [1, 2] [(6, Z.P k1 4)] ?_
  refine Z.L 4 (.slice A 5 c) b1 ?_
  refine Z.p [2] [] [(3, .slice A 5 c)] ?_
  refine Z.e (wp_seq (Z.r [0, 1] ?_))
  refine Z.p [0] [1] [(8, Z.P k1 0)] ?_
  refine Z.L 0 (.int .i64 17) b1 ?_
  refine Z.e (wp_block (Z.sf [(10, .bool false), (11, .bool false)] ?_))
  refine Z.sf [(14, .bool false), (15, .bool false)] ?_
  refine Z.sf [(27, .bool false), (28, .bool false)] ?_
  refine Z.sf [(32, .bool false), (33, .bool false)] ?_
  refine wp_seq (Z.sf [(34, .bool false), (35, .bool false)] ?_)
  refine Z.u [(34, .bool false), (36, .bool false)] ?_
  refine Z.x (Z.cf ?_)
  refine Z.sf [(39, .bool false), (40, .bool false)] ?_
  refine Z.sf [(50, .bool false), (51, .bool false)] ?_
  refine Z.sf [(72, .bool false), (73, .bool false)] ?_
  refine Z.sf [(107, .bool false), (108, .bool false)] ?_
  refine Z.sf [(119, .bool false), (120, .bool false)] ?_
  refine Z.sf [(138, .bool false), (139, .bool false)] ?_
  refine Z.sf [(152, .bool false), (153, .bool false)] ?_
  refine Z.sf [(159, .bool false), (160, .bool false)] ?_
  refine Z.sf [(166, .bool false), (167, .bool false)] ?_
  refine Z.sf [(168, .bool false), (169, .bool false)] ?_
  refine Z.st [(180, .bool true), (181, .bool true)] ?_
  refine wp_seq (Z.D (fun w' => Gx.Ext w w') (fun w2 x2 zw2 => ?_))
  refine Z.h (((Gx.Ext.refl w).trans x1).trans x2) (fun hS1 => ?_)
  refine Z.t 0 (.slice A 5 c) hS1 ?_
  obtain ⟨a1, ha1, hc1⟩ := (Gx.Rd.ext hr (by decide) hE) 0 (by omega)
  refine Z.ti 1 24 5 ha1 5 c 0 hS1 ?_
  refine Z.ta 2 [Z.n x.k, Z.n x.a, .string x.nm, .int .i64 x.n, .slice (As 0) x.ks.length (cs 0)] 5 hc1 (fun _ hs => hs) hS1 ?_
  refine Z.t 6 (.slice A 5 c) hS1 ?_
  obtain ⟨a2, ha2, hc2⟩ := (Gx.Rd.ext hr (by decide) hE) 1 (by omega)
  refine Z.ti 7 24 5 ha2 5 c 1 hS1 ?_
  refine Z.ta 8 [Z.n y.k, Z.n y.a, .string y.nm, .int .i64 y.n, .slice (As 1) y.ks.length (cs 1)] 5 hc2 (fun _ hs => hs) hS1 ?_
  refine Z.t 12 (.slice A 5 c) hS1 ?_
  obtain ⟨a3, ha3, hc3⟩ := (Gx.Rd.ext hr (by decide) hE) 2 (by omega)
  refine Z.ti 13 24 5 ha3 5 c 2 hS1 ?_
  refine Z.tf 14 (a3.add (2 * 5)) 2 hS1 ?_
  refine Z.to 15 [.string u.nm] (.string u.nm) 1 (Gx.cells_sub hc3 2 1 rfl) (fun _ hs => hs) hS1 ?_
  refine Z.t 18 (.slice A 5 c) hS1 ?_
  obtain ⟨a4, ha4, hc4⟩ := (Gx.Rd.ext hr (by decide) hE) 3 (by omega)
  refine Z.ti 19 24 5 ha4 5 c 3 hS1 ?_
  refine Z.tf 20 (a4.add (3 * 5)) 2 hS1 ?_
  refine Z.to 21 [.string v.nm] (.string v.nm) 1 (Gx.cells_sub hc4 2 1 rfl) (fun _ hs => hs) hS1 ?_
  refine Z.t 24 (.slice A 5 c) hS1 ?_
  obtain ⟨a5, ha5, hc5⟩ := (Gx.Rd.ext hr (by decide) hE) 4 (by omega)
  refine Z.ti 25 24 5 ha5 5 c 4 hS1 ?_
  refine Z.ta 26 [Z.n z.k, Z.n z.a, .string z.nm, .int .i64 z.n, .slice (As 4) z.ks.length (cs 4)] 5 hc5 (fun _ hs => hs) hS1 ?_
  refine Z.o 3 (fun R hR => h0 _ R (Gx.Ext.trans hE (((Gx.Ext.refl w).trans x1).trans x2)) (fun w3 x3 => hR _ _ ⟨((((Gx.Ext.refl w).trans x1).trans x2).trans x3), fun hS2 => ?_⟩))
  have zw3 := x3.size
  refine Z.tc 4 (Z.B [99, 97, 115, 101, 32]) sx hS2 ?_
  refine Z.tc 5 ((Z.B [99, 97, 115, 101, 32]) ++ sx) (Z.B [32, 111, 102, 32, 91, 32, 93, 32, 61, 62, 32]) hS2 ?_
  refine Z.o 9 (fun R hR => h1 _ R (Gx.Ext.trans hE ((((Gx.Ext.refl w).trans x1).trans x2).trans x3)) (fun w4 x4 => hR _ _ ⟨(((((Gx.Ext.refl w).trans x1).trans x2).trans x3).trans x4), fun hS3 => ?_⟩))
  have zw4 := x4.size
  refine Z.tc 10 (((Z.B [99, 97, 115, 101, 32]) ++ sx) ++ (Z.B [32, 111, 102, 32, 91, 32, 93, 32, 61, 62, 32])) sy hS3 ?_
  refine Z.tc 11 ((((Z.B [99, 97, 115, 101, 32]) ++ sx) ++ (Z.B [32, 111, 102, 32, 91, 32, 93, 32, 61, 62, 32])) ++ sy) (Z.B [32, 124, 32]) hS3 ?_
  refine Z.tc 16 (((((Z.B [99, 97, 115, 101, 32]) ++ sx) ++ (Z.B [32, 111, 102, 32, 91, 32, 93, 32, 61, 62, 32])) ++ sy) ++ (Z.B [32, 124, 32])) u.nm hS3 ?_
  refine Z.tc 17 ((((((Z.B [99, 97, 115, 101, 32]) ++ sx) ++ (Z.B [32, 111, 102, 32, 91, 32, 93, 32, 61, 62, 32])) ++ sy) ++ (Z.B [32, 124, 32])) ++ u.nm) (Z.B [32, 58, 58, 32]) hS3 ?_
  refine Z.tc 22 (((((((Z.B [99, 97, 115, 101, 32]) ++ sx) ++ (Z.B [32, 111, 102, 32, 91, 32, 93, 32, 61, 62, 32])) ++ sy) ++ (Z.B [32, 124, 32])) ++ u.nm) ++ (Z.B [32, 58, 58, 32])) v.nm hS3 ?_
  refine Z.tc 23 ((((((((Z.B [99, 97, 115, 101, 32]) ++ sx) ++ (Z.B [32, 111, 102, 32, 91, 32, 93, 32, 61, 62, 32])) ++ sy) ++ (Z.B [32, 124, 32])) ++ u.nm) ++ (Z.B [32, 58, 58, 32])) ++ v.nm) (Z.B [32, 61, 62, 32]) hS3 ?_
  refine Z.o 27 (fun R hR => h4 _ R (Gx.Ext.trans hE (((((Gx.Ext.refl w).trans x1).trans x2).trans x3).trans x4)) (fun w5 x5 => hR _ _ ⟨((((((Gx.Ext.refl w).trans x1).trans x2).trans x3).trans x4).trans x5), fun hS4 => ?_⟩))
  have zw5 := x5.size
  refine Z.tc 28 (((((((((Z.B [99, 97, 115, 101, 32]) ++ sx) ++ (Z.B [32, 111, 102, 32, 91, 32, 93, 32, 61, 62, 32])) ++ sy) ++ (Z.B [32, 124, 32])) ++ u.nm) ++ (Z.B [32, 58, 58, 32])) ++ v.nm) ++ (Z.B [32, 61, 62, 32])) sz hS4 ?_
  refine Z.tc 29 ((((((((((Z.B [99, 97, 115, 101, 32]) ++ sx) ++ (Z.B [32, 111, 102, 32, 91, 32, 93, 32, 61, 62, 32])) ++ sy) ++ (Z.B [32, 124, 32])) ++ u.nm) ++ (Z.B [32, 58, 58, 32])) ++ v.nm) ++ (Z.B [32, 61, 62, 32])) ++ sz) (Z.B [32, 101, 110, 100]) hS4 ?_
  refine Z.t 30 (.string (((((((((((Z.B [99, 97, 115, 101, 32]) ++ sx) ++ (Z.B [32, 111, 102, 32, 91, 32, 93, 32, 61, 62, 32])) ++ sy) ++ (Z.B [32, 124, 32])) ++ u.nm) ++ (Z.B [32, 58, 58, 32])) ++ v.nm) ++ (Z.B [32, 61, 62, 32])) ++ sz) ++ (Z.B [32, 101, 110, 100]))) hS4 ?_
  refine Z.q ?_
  refine Z.x (wp_ret (Gx.block_ret (Gx.then_ret (Z.v (.string (((((((((((Z.B [99, 97, 115, 101, 32]) ++ sx) ++ (Z.B [32, 111, 102, 32, 91, 32, 93, 32, 61, 62, 32])) ++ sy) ++ (Z.B [32, 124, 32])) ++ u.nm) ++ (Z.B [32, 58, 58, 32])) ++ v.nm) ++ (Z.B [32, 61, 62, 32])) ++ sz) ++ (Z.B [32, 101, 110, 100]))) ?_))))
  exact Gx.ret_as (v' := .string (((((((((((Z.B [99, 97, 115, 101, 32]) ++ sx) ++ (Z.B [32, 111, 102, 32, 91, 32, 93, 32, 61, 62, 32])) ++ sy) ++ (Z.B [32, 124, 32])) ++ u.nm) ++ (Z.B [32, 58, 58, 32])) ++ v.nm) ++ (Z.B [32, 61, 62, 32])) ++ sz) ++ (Z.B [32, 101, 110, 100]))) (by rfl) (hK _ ((((((Gx.Ext.refl w).trans x1).trans x2).trans x3).trans x4).trans x5))

set_option maxHeartbeats 400000 in
set_option maxRecDepth 10000 in
theorem Write_18_1 (w0 : World) (a : Nat) (nm : ByteArray) (n : Int) (x y : Nd) (A : Option Addr) (c : Nat) (As : Nat → Option Addr) (cs : Nat → Nat) (sx sy : ByteArray) (w : World) (K : Ending → World → Prop) (hE : Gx.Ext w0 w) (hr : Gx.Rd w0 A 2 5 (fun i => ndC ([x, y].getD i nd0) (As i) (cs i))) (h0 : WOK w0 x (As 0) (cs 0) sx) (h1 : WOK w0 y (As 1) (cs 1) sy) (hl : lvl (.mk 18 a nm n [x, y]) = 1) (hsz : ((((inT 2 x sx ++ (Z.B [32])) ++ nm) ++ (Z.B [32])) ++ inT 2 y sy).size ≤ 400000000) (hK : ∀ w', Gx.Ext w w' → K (.returned (.string ((((inT 2 x sx ++ (Z.B [32])) ++ nm) ++ (Z.B [32])) ++ inT 2 y sy))) w') :
    Calls Tryd.prog 7 #[.agg #[.int .i64 18, Z.n a, .string nm, .int .i64 n, .slice A 2 c]] w K := by
  refine Gx.enter 307 Tryd.func7 rfl rfl (Nat.le_of_ble_eq_true rfl) ?_
  have hq := hsz; (try simp only [zap, zli, List.length] at hq)
  have i1 := inT_le 2 x sx; have i2 := inT_le 2 y sy
  refine Z.r [0, 1] ?_
  refine Z.N (.cells #[.int .i64 18, Z.n a, .string nm, .int .i64 n, .slice A 2 c] 24) (fun k1 w1 l1 x1 b1 zw1 tb1 => ?_)
  refine Z.p [1] [] [(2, .string Z.E)] ?_
  refine Z.e (Z.r [0, 1, 2] ?_)
  refine Z.p [0] [1, 2] [(6, Z.P k1 4)] ?_
  refine Z.L 4 (.slice A 2 c) b1 ?_
  refine Z.p [2] [] [(3, .slice A 2 c)] ?_
  refine Z.e (wp_seq (Z.r [0, 1] ?_))
  refine Z.p [0] [1] [(8, Z.P k1 0)] ?_
  refine Z.L 0 (.int .i64 18) b1 ?_
  refine Z.e (wp_block (Z.sf [(10, .bool false), (11, .bool false)] ?_))
  refine Z.sf [(14, .bool false), (15, .bool false)] ?_
  refine Z.sf [(27, .bool false), (28, .bool false)] ?_
  refine Z.sf [(32, .bool false), (33, .bool false)] ?_
  refine wp_seq (Z.sf [(34, .bool false), (35, .bool false)] ?_)
  refine Z.u [(34, .bool false), (36, .bool false)] ?_
  refine Z.x (Z.cf ?_)
  refine Z.sf [(39, .bool false), (40, .bool false)] ?_
  refine Z.sf [(50, .bool false), (51, .bool false)] ?_
  refine Z.sf [(72, .bool false), (73, .bool false)] ?_
  refine Z.sf [(107, .bool false), (108, .bool false)] ?_
  refine Z.sf [(119, .bool false), (120, .bool false)] ?_
  refine Z.sf [(138, .bool false), (139, .bool false)] ?_
  refine Z.sf [(152, .bool false), (153, .bool false)] ?_
  refine Z.sf [(159, .bool false), (160, .bool false)] ?_
  refine Z.sf [(166, .bool false), (167, .bool false)] ?_
  refine Z.sf [(168, .bool false), (169, .bool false)] ?_
  refine Z.sf [(180, .bool false), (181, .bool false)] ?_
  refine Z.st [(212, .bool true), (213, .bool true)] ?_
  refine Z.r [0, 1, 2] ?_
  refine Z.L 0 (.agg #[.int .i64 18, Z.n a, .string nm, .int .i64 n, .slice A 2 c]) b1 ?_
  refine Z.k (fun R hR => level_v (.mk 18 a nm n [x, y]) A c 1 _ R hl (fun w2 x2 => hR _ _ ?_))
  have zw2 := x2.size
  refine Z.p [2] [] [(5, .int .i64 1)] ?_
  refine Z.e (wp_seq (Z.s [(216, .int .i64 1)] ?_))
  refine wp_block (Z.st [(217, .bool true), (218, .bool true)] ?_)
  refine wp_seq (Z.D (fun w' => Gx.Has w' k1 (.cells #[.int .i64 18, Z.n a, .string nm, .int .i64 n, .slice A 2 c] 24) ∧ Gx.Ext w w') (fun w3 x3 zw3 => ?_))
  refine Z.h ⟨((b1.ext x2).ext x3), ((((Gx.Ext.refl w).trans x1).trans x2).trans x3)⟩ (fun hS1 => ?_)
  refine Z.t 0 (.slice A 2 c) hS1 ?_
  obtain ⟨a1, ha1, hc1⟩ := (Gx.Rd.ext hr (by decide) hE) 0 (by omega)
  refine Z.ti 1 24 5 ha1 2 c 0 hS1 ?_
  refine Z.ta 2 [Z.n x.k, Z.n x.a, .string x.nm, .int .i64 x.n, .slice (As 0) x.ks.length (cs 0)] 5 hc1 (fun _ hs => hs.2) hS1 ?_
  refine Z.t 5 (Z.P k1 2) hS1 ?_
  refine Z.tl 6 2 (.string nm) (fun _ hs => hs.1) hS1 ?_
  refine Z.t 9 (.slice A 2 c) hS1 ?_
  obtain ⟨a2, ha2, hc2⟩ := (Gx.Rd.ext hr (by decide) hE) 1 (by omega)
  refine Z.ti 10 24 5 ha2 2 c 1 hS1 ?_
  refine Z.ta 11 [Z.n y.k, Z.n y.a, .string y.nm, .int .i64 y.n, .slice (As 1) y.ks.length (cs 1)] 5 hc2 (fun _ hs => hs.2) hS1 ?_
  refine Z.o 3 (fun R hR => in_c w0 x (As 0) (cs 0) sx 2 _ R (Gx.Ext.trans hE ((((Gx.Ext.refl w).trans x1).trans x2).trans x3)) (h0) (by omega) (fun w4 x4 => hR _ _ ⟨⟨(((b1.ext x2).ext x3).ext x4), (((((Gx.Ext.refl w).trans x1).trans x2).trans x3).trans x4)⟩, fun hS2 => ?_⟩))
  have zw4 := x4.size
  refine Z.tc 4 (inT 2 x sx) (Z.B [32]) hS2 ?_
  refine Z.tc 7 ((inT 2 x sx) ++ (Z.B [32])) nm hS2 ?_
  refine Z.tc 8 (((inT 2 x sx) ++ (Z.B [32])) ++ nm) (Z.B [32]) hS2 ?_
  refine Z.o 12 (fun R hR => in_c w0 y (As 1) (cs 1) sy 2 _ R (Gx.Ext.trans hE (((((Gx.Ext.refl w).trans x1).trans x2).trans x3).trans x4)) (h1) (by omega) (fun w5 x5 => hR _ _ ⟨⟨((((b1.ext x2).ext x3).ext x4).ext x5), ((((((Gx.Ext.refl w).trans x1).trans x2).trans x3).trans x4).trans x5)⟩, fun hS3 => ?_⟩))
  have zw5 := x5.size
  refine Z.tc 13 ((((inT 2 x sx) ++ (Z.B [32])) ++ nm) ++ (Z.B [32])) (inT 2 y sy) hS3 ?_
  refine Z.t 14 (.string (((((inT 2 x sx) ++ (Z.B [32])) ++ nm) ++ (Z.B [32])) ++ (inT 2 y sy))) hS3 ?_
  refine Z.q ?_
  refine Z.x (wp_ret (Gx.block_ret (Gx.then_ret (Gx.block_ret (Gx.then_ret (Z.v (.string (((((inT 2 x sx) ++ (Z.B [32])) ++ nm) ++ (Z.B [32])) ++ (inT 2 y sy))) ?_))))))
  exact Gx.ret_as (v' := .string ((((inT 2 x sx ++ (Z.B [32])) ++ nm) ++ (Z.B [32])) ++ inT 2 y sy)) (by rfl) (hK _ ((((((Gx.Ext.refl w).trans x1).trans x2).trans x3).trans x4).trans x5))

set_option maxHeartbeats 400000 in
set_option maxRecDepth 10000 in
theorem Write_18_3 (w0 : World) (a : Nat) (nm : ByteArray) (n : Int) (x y : Nd) (A : Option Addr) (c : Nat) (As : Nat → Option Addr) (cs : Nat → Nat) (sx sy : ByteArray) (w : World) (K : Ending → World → Prop) (hE : Gx.Ext w0 w) (hr : Gx.Rd w0 A 2 5 (fun i => ndC ([x, y].getD i nd0) (As i) (cs i))) (h0 : WOK w0 x (As 0) (cs 0) sx) (h1 : WOK w0 y (As 1) (cs 1) sy) (hl : lvl (.mk 18 a nm n [x, y]) = 3) (hsz : ((((inT 3 x sx ++ (Z.B [32])) ++ nm) ++ (Z.B [32])) ++ inT 4 y sy).size ≤ 400000000) (hK : ∀ w', Gx.Ext w w' → K (.returned (.string ((((inT 3 x sx ++ (Z.B [32])) ++ nm) ++ (Z.B [32])) ++ inT 4 y sy))) w') :
    Calls Tryd.prog 7 #[.agg #[.int .i64 18, Z.n a, .string nm, .int .i64 n, .slice A 2 c]] w K := by
  refine Gx.enter 307 Tryd.func7 rfl rfl (Nat.le_of_ble_eq_true rfl) ?_
  have hq := hsz; (try simp only [zap, zli, List.length] at hq)
  have i1 := inT_le 3 x sx; have i2 := inT_le 4 y sy
  refine Z.r [0, 1] ?_
  refine Z.N (.cells #[.int .i64 18, Z.n a, .string nm, .int .i64 n, .slice A 2 c] 24) (fun k1 w1 l1 x1 b1 zw1 tb1 => ?_)
  refine Z.p [1] [] [(2, .string Z.E)] ?_
  refine Z.e (Z.r [0, 1, 2] ?_)
  refine Z.p [0] [1, 2] [(6, Z.P k1 4)] ?_
  refine Z.L 4 (.slice A 2 c) b1 ?_
  refine Z.p [2] [] [(3, .slice A 2 c)] ?_
  refine Z.e (wp_seq (Z.r [0, 1] ?_))
  refine Z.p [0] [1] [(8, Z.P k1 0)] ?_
  refine Z.L 0 (.int .i64 18) b1 ?_
  refine Z.e (wp_block (Z.sf [(10, .bool false), (11, .bool false)] ?_))
  refine Z.sf [(14, .bool false), (15, .bool false)] ?_
  refine Z.sf [(27, .bool false), (28, .bool false)] ?_
  refine Z.sf [(32, .bool false), (33, .bool false)] ?_
  refine wp_seq (Z.sf [(34, .bool false), (35, .bool false)] ?_)
  refine Z.u [(34, .bool false), (36, .bool false)] ?_
  refine Z.x (Z.cf ?_)
  refine Z.sf [(39, .bool false), (40, .bool false)] ?_
  refine Z.sf [(50, .bool false), (51, .bool false)] ?_
  refine Z.sf [(72, .bool false), (73, .bool false)] ?_
  refine Z.sf [(107, .bool false), (108, .bool false)] ?_
  refine Z.sf [(119, .bool false), (120, .bool false)] ?_
  refine Z.sf [(138, .bool false), (139, .bool false)] ?_
  refine Z.sf [(152, .bool false), (153, .bool false)] ?_
  refine Z.sf [(159, .bool false), (160, .bool false)] ?_
  refine Z.sf [(166, .bool false), (167, .bool false)] ?_
  refine Z.sf [(168, .bool false), (169, .bool false)] ?_
  refine Z.sf [(180, .bool false), (181, .bool false)] ?_
  refine Z.st [(212, .bool true), (213, .bool true)] ?_
  refine Z.r [0, 1, 2] ?_
  refine Z.L 0 (.agg #[.int .i64 18, Z.n a, .string nm, .int .i64 n, .slice A 2 c]) b1 ?_
  refine Z.k (fun R hR => level_v (.mk 18 a nm n [x, y]) A c 3 _ R hl (fun w2 x2 => hR _ _ ?_))
  have zw2 := x2.size
  refine Z.p [2] [] [(5, .int .i64 3)] ?_
  refine Z.e (wp_seq (Z.s [(216, .int .i64 3)] ?_))
  refine wp_block (Z.sf [(217, .bool false), (218, .bool false)] ?_)
  refine Z.st [(233, .bool true), (234, .bool true)] ?_
  refine wp_seq (Z.D (fun w' => Gx.Has w' k1 (.cells #[.int .i64 18, Z.n a, .string nm, .int .i64 n, .slice A 2 c] 24) ∧ Gx.Ext w w') (fun w3 x3 zw3 => ?_))
  refine Z.h ⟨((b1.ext x2).ext x3), ((((Gx.Ext.refl w).trans x1).trans x2).trans x3)⟩ (fun hS1 => ?_)
  refine Z.t 0 (.slice A 2 c) hS1 ?_
  obtain ⟨a1, ha1, hc1⟩ := (Gx.Rd.ext hr (by decide) hE) 0 (by omega)
  refine Z.ti 1 24 5 ha1 2 c 0 hS1 ?_
  refine Z.ta 2 [Z.n x.k, Z.n x.a, .string x.nm, .int .i64 x.n, .slice (As 0) x.ks.length (cs 0)] 5 hc1 (fun _ hs => hs.2) hS1 ?_
  refine Z.t 5 (Z.P k1 2) hS1 ?_
  refine Z.tl 6 2 (.string nm) (fun _ hs => hs.1) hS1 ?_
  refine Z.t 9 (.slice A 2 c) hS1 ?_
  obtain ⟨a2, ha2, hc2⟩ := (Gx.Rd.ext hr (by decide) hE) 1 (by omega)
  refine Z.ti 10 24 5 ha2 2 c 1 hS1 ?_
  refine Z.ta 11 [Z.n y.k, Z.n y.a, .string y.nm, .int .i64 y.n, .slice (As 1) y.ks.length (cs 1)] 5 hc2 (fun _ hs => hs.2) hS1 ?_
  refine Z.o 3 (fun R hR => in_c w0 x (As 0) (cs 0) sx 3 _ R (Gx.Ext.trans hE ((((Gx.Ext.refl w).trans x1).trans x2).trans x3)) (h0) (by omega) (fun w4 x4 => hR _ _ ⟨⟨(((b1.ext x2).ext x3).ext x4), (((((Gx.Ext.refl w).trans x1).trans x2).trans x3).trans x4)⟩, fun hS2 => ?_⟩))
  have zw4 := x4.size
  refine Z.tc 4 (inT 3 x sx) (Z.B [32]) hS2 ?_
  refine Z.tc 7 ((inT 3 x sx) ++ (Z.B [32])) nm hS2 ?_
  refine Z.tc 8 (((inT 3 x sx) ++ (Z.B [32])) ++ nm) (Z.B [32]) hS2 ?_
  refine Z.o 12 (fun R hR => in_c w0 y (As 1) (cs 1) sy 4 _ R (Gx.Ext.trans hE (((((Gx.Ext.refl w).trans x1).trans x2).trans x3).trans x4)) (h1) (by omega) (fun w5 x5 => hR _ _ ⟨⟨((((b1.ext x2).ext x3).ext x4).ext x5), ((((((Gx.Ext.refl w).trans x1).trans x2).trans x3).trans x4).trans x5)⟩, fun hS3 => ?_⟩))
  have zw5 := x5.size
  refine Z.tc 13 ((((inT 3 x sx) ++ (Z.B [32])) ++ nm) ++ (Z.B [32])) (inT 4 y sy) hS3 ?_
  refine Z.t 14 (.string (((((inT 3 x sx) ++ (Z.B [32])) ++ nm) ++ (Z.B [32])) ++ (inT 4 y sy))) hS3 ?_
  refine Z.q ?_
  refine Z.x (wp_ret (Gx.block_ret (Gx.then_ret (Gx.block_ret (Gx.then_ret (Z.v (.string (((((inT 3 x sx) ++ (Z.B [32])) ++ nm) ++ (Z.B [32])) ++ (inT 4 y sy))) ?_))))))
  exact Gx.ret_as (v' := .string ((((inT 3 x sx ++ (Z.B [32])) ++ nm) ++ (Z.B [32])) ++ inT 4 y sy)) (by rfl) (hK _ ((((((Gx.Ext.refl w).trans x1).trans x2).trans x3).trans x4).trans x5))

set_option maxHeartbeats 400000 in
set_option maxRecDepth 10000 in
theorem Write_18_4 (w0 : World) (a : Nat) (nm : ByteArray) (n : Int) (x y : Nd) (A : Option Addr) (c : Nat) (As : Nat → Option Addr) (cs : Nat → Nat) (sx sy : ByteArray) (w : World) (K : Ending → World → Prop) (hE : Gx.Ext w0 w) (hr : Gx.Rd w0 A 2 5 (fun i => ndC ([x, y].getD i nd0) (As i) (cs i))) (h0 : WOK w0 x (As 0) (cs 0) sx) (h1 : WOK w0 y (As 1) (cs 1) sy) (hl : lvl (.mk 18 a nm n [x, y]) = 4) (hsz : ((((inT 4 x sx ++ (Z.B [32])) ++ nm) ++ (Z.B [32])) ++ inT 5 y sy).size ≤ 400000000) (hK : ∀ w', Gx.Ext w w' → K (.returned (.string ((((inT 4 x sx ++ (Z.B [32])) ++ nm) ++ (Z.B [32])) ++ inT 5 y sy))) w') :
    Calls Tryd.prog 7 #[.agg #[.int .i64 18, Z.n a, .string nm, .int .i64 n, .slice A 2 c]] w K := by
  refine Gx.enter 307 Tryd.func7 rfl rfl (Nat.le_of_ble_eq_true rfl) ?_
  have hq := hsz; (try simp only [zap, zli, List.length] at hq)
  have i1 := inT_le 4 x sx; have i2 := inT_le 5 y sy
  refine Z.r [0, 1] ?_
  refine Z.N (.cells #[.int .i64 18, Z.n a, .string nm, .int .i64 n, .slice A 2 c] 24) (fun k1 w1 l1 x1 b1 zw1 tb1 => ?_)
  refine Z.p [1] [] [(2, .string Z.E)] ?_
  refine Z.e (Z.r [0, 1, 2] ?_)
  refine Z.p [0] [1, 2] [(6, Z.P k1 4)] ?_
  refine Z.L 4 (.slice A 2 c) b1 ?_
  refine Z.p [2] [] [(3, .slice A 2 c)] ?_
  refine Z.e (wp_seq (Z.r [0, 1] ?_))
  refine Z.p [0] [1] [(8, Z.P k1 0)] ?_
  refine Z.L 0 (.int .i64 18) b1 ?_
  refine Z.e (wp_block (Z.sf [(10, .bool false), (11, .bool false)] ?_))
  refine Z.sf [(14, .bool false), (15, .bool false)] ?_
  refine Z.sf [(27, .bool false), (28, .bool false)] ?_
  refine Z.sf [(32, .bool false), (33, .bool false)] ?_
  refine wp_seq (Z.sf [(34, .bool false), (35, .bool false)] ?_)
  refine Z.u [(34, .bool false), (36, .bool false)] ?_
  refine Z.x (Z.cf ?_)
  refine Z.sf [(39, .bool false), (40, .bool false)] ?_
  refine Z.sf [(50, .bool false), (51, .bool false)] ?_
  refine Z.sf [(72, .bool false), (73, .bool false)] ?_
  refine Z.sf [(107, .bool false), (108, .bool false)] ?_
  refine Z.sf [(119, .bool false), (120, .bool false)] ?_
  refine Z.sf [(138, .bool false), (139, .bool false)] ?_
  refine Z.sf [(152, .bool false), (153, .bool false)] ?_
  refine Z.sf [(159, .bool false), (160, .bool false)] ?_
  refine Z.sf [(166, .bool false), (167, .bool false)] ?_
  refine Z.sf [(168, .bool false), (169, .bool false)] ?_
  refine Z.sf [(180, .bool false), (181, .bool false)] ?_
  refine Z.st [(212, .bool true), (213, .bool true)] ?_
  refine Z.r [0, 1, 2] ?_
  refine Z.L 0 (.agg #[.int .i64 18, Z.n a, .string nm, .int .i64 n, .slice A 2 c]) b1 ?_
  refine Z.k (fun R hR => level_v (.mk 18 a nm n [x, y]) A c 4 _ R hl (fun w2 x2 => hR _ _ ?_))
  have zw2 := x2.size
  refine Z.p [2] [] [(5, .int .i64 4)] ?_
  refine Z.e (wp_seq (Z.s [(216, .int .i64 4)] ?_))
  refine wp_block (Z.sf [(217, .bool false), (218, .bool false)] ?_)
  refine Z.sf [(233, .bool false), (234, .bool false)] ?_
  refine wp_skip (Gx.block_normal (Z.x (wp_seq (Z.D (fun w' => Gx.Has w' k1 (.cells #[.int .i64 18, Z.n a, .string nm, .int .i64 n, .slice A 2 c] 24) ∧ Gx.Ext w w') (fun w3 x3 zw3 => ?_)))))
  refine Z.h ⟨((b1.ext x2).ext x3), ((((Gx.Ext.refl w).trans x1).trans x2).trans x3)⟩ (fun hS1 => ?_)
  refine Z.t 0 (.slice A 2 c) hS1 ?_
  obtain ⟨a1, ha1, hc1⟩ := (Gx.Rd.ext hr (by decide) hE) 0 (by omega)
  refine Z.ti 1 24 5 ha1 2 c 0 hS1 ?_
  refine Z.ta 2 [Z.n x.k, Z.n x.a, .string x.nm, .int .i64 x.n, .slice (As 0) x.ks.length (cs 0)] 5 hc1 (fun _ hs => hs.2) hS1 ?_
  refine Z.t 5 (Z.P k1 2) hS1 ?_
  refine Z.tl 6 2 (.string nm) (fun _ hs => hs.1) hS1 ?_
  refine Z.t 9 (.slice A 2 c) hS1 ?_
  obtain ⟨a2, ha2, hc2⟩ := (Gx.Rd.ext hr (by decide) hE) 1 (by omega)
  refine Z.ti 10 24 5 ha2 2 c 1 hS1 ?_
  refine Z.ta 11 [Z.n y.k, Z.n y.a, .string y.nm, .int .i64 y.n, .slice (As 1) y.ks.length (cs 1)] 5 hc2 (fun _ hs => hs.2) hS1 ?_
  refine Z.o 3 (fun R hR => in_c w0 x (As 0) (cs 0) sx 4 _ R (Gx.Ext.trans hE ((((Gx.Ext.refl w).trans x1).trans x2).trans x3)) (h0) (by omega) (fun w4 x4 => hR _ _ ⟨⟨(((b1.ext x2).ext x3).ext x4), (((((Gx.Ext.refl w).trans x1).trans x2).trans x3).trans x4)⟩, fun hS2 => ?_⟩))
  have zw4 := x4.size
  refine Z.tc 4 (inT 4 x sx) (Z.B [32]) hS2 ?_
  refine Z.tc 7 ((inT 4 x sx) ++ (Z.B [32])) nm hS2 ?_
  refine Z.tc 8 (((inT 4 x sx) ++ (Z.B [32])) ++ nm) (Z.B [32]) hS2 ?_
  refine Z.o 12 (fun R hR => in_c w0 y (As 1) (cs 1) sy 5 _ R (Gx.Ext.trans hE (((((Gx.Ext.refl w).trans x1).trans x2).trans x3).trans x4)) (h1) (by omega) (fun w5 x5 => hR _ _ ⟨⟨((((b1.ext x2).ext x3).ext x4).ext x5), ((((((Gx.Ext.refl w).trans x1).trans x2).trans x3).trans x4).trans x5)⟩, fun hS3 => ?_⟩))
  have zw5 := x5.size
  refine Z.tc 13 ((((inT 4 x sx) ++ (Z.B [32])) ++ nm) ++ (Z.B [32])) (inT 5 y sy) hS3 ?_
  refine Z.t 14 (.string (((((inT 4 x sx) ++ (Z.B [32])) ++ nm) ++ (Z.B [32])) ++ (inT 5 y sy))) hS3 ?_
  refine Z.q ?_
  refine Z.x (wp_ret (Gx.block_ret (Gx.then_ret (Z.v (.string (((((inT 4 x sx) ++ (Z.B [32])) ++ nm) ++ (Z.B [32])) ++ (inT 5 y sy))) ?_))))
  exact Gx.ret_as (v' := .string ((((inT 4 x sx ++ (Z.B [32])) ++ nm) ++ (Z.B [32])) ++ inT 5 y sy)) (by rfl) (hK _ ((((((Gx.Ext.refl w).trans x1).trans x2).trans x3).trans x4).trans x5))

set_option maxHeartbeats 400000 in
set_option maxRecDepth 10000 in
theorem Write_19 (w0 : World) (a : Nat) (nm : ByteArray) (n : Int) (x : Nd) (A : Option Addr) (c : Nat) (As : Nat → Option Addr) (cs : Nat → Nat) (sx : ByteArray) (w : World) (K : Ending → World → Prop) (hE : Gx.Ext w0 w) (hr : Gx.Rd w0 A 1 5 (fun i => ndC ([x].getD i nd0) (As i) (cs i))) (h0 : WOK w0 x (As 0) (cs 0) sx) (hsz : ((((Z.B [100, 111, 32]) ++ nm) ++ (Z.B [32])) ++ inT 6 x sx).size ≤ 400000000) (hK : ∀ w', Gx.Ext w w' → K (.returned (.string ((((Z.B [100, 111, 32]) ++ nm) ++ (Z.B [32])) ++ inT 6 x sx))) w') :
    Calls Tryd.prog 7 #[.agg #[.int .i64 19, Z.n a, .string nm, .int .i64 n, .slice A 1 c]] w K := by
  refine Gx.enter 307 Tryd.func7 rfl rfl (Nat.le_of_ble_eq_true rfl) ?_
  have hq := hsz; (try simp only [zap, zli, List.length] at hq)
  have i1 := inT_le 6 x sx
  refine Z.r [0, 1] ?_
  refine Z.N (.cells #[.int .i64 19, Z.n a, .string nm, .int .i64 n, .slice A 1 c] 24) (fun k1 w1 l1 x1 b1 zw1 tb1 => ?_)
  refine Z.p [1] [] [(2, .string Z.E)] ?_
  refine Z.e (Z.r [0, 1, 2] ?_)
  refine Z.p [0] [1, 2] [(6, Z.P k1 4)] ?_
  refine Z.L 4 (.slice A 1 c) b1 ?_
  refine Z.p [2] [] [(3, .slice A 1 c)] ?_
  refine Z.e (wp_seq (Z.r [0, 1] ?_))
  refine Z.p [0] [1] [(8, Z.P k1 0)] ?_
  refine Z.L 0 (.int .i64 19) b1 ?_
  refine Z.e (wp_block (Z.sf [(10, .bool false), (11, .bool false)] ?_))
  refine Z.sf [(14, .bool false), (15, .bool false)] ?_
  refine Z.sf [(27, .bool false), (28, .bool false)] ?_
  refine Z.sf [(32, .bool false), (33, .bool false)] ?_
  refine wp_seq (Z.sf [(34, .bool false), (35, .bool false)] ?_)
  refine Z.u [(34, .bool false), (36, .bool false)] ?_
  refine Z.x (Z.cf ?_)
  refine Z.sf [(39, .bool false), (40, .bool false)] ?_
  refine Z.sf [(50, .bool false), (51, .bool false)] ?_
  refine Z.sf [(72, .bool false), (73, .bool false)] ?_
  refine Z.sf [(107, .bool false), (108, .bool false)] ?_
  refine Z.sf [(119, .bool false), (120, .bool false)] ?_
  refine Z.sf [(138, .bool false), (139, .bool false)] ?_
  refine Z.sf [(152, .bool false), (153, .bool false)] ?_
  refine Z.sf [(159, .bool false), (160, .bool false)] ?_
  refine Z.sf [(166, .bool false), (167, .bool false)] ?_
  refine Z.sf [(168, .bool false), (169, .bool false)] ?_
  refine Z.sf [(180, .bool false), (181, .bool false)] ?_
  refine Z.sf [(212, .bool false), (213, .bool false)] ?_
  refine Z.st [(263, .bool true), (264, .bool true)] ?_
  refine wp_seq (Z.D (fun w' => Gx.Has w' k1 (.cells #[.int .i64 19, Z.n a, .string nm, .int .i64 n, .slice A 1 c] 24) ∧ Gx.Ext w w') (fun w2 x2 zw2 => ?_))
  refine Z.h ⟨(b1.ext x2), (((Gx.Ext.refl w).trans x1).trans x2)⟩ (fun hS1 => ?_)
  refine Z.t 0 (Z.P k1 2) hS1 ?_
  refine Z.tl 1 2 (.string nm) (fun _ hs => hs.1) hS1 ?_
  refine Z.tc 2 (Z.B [100, 111, 32]) nm hS1 ?_
  refine Z.tc 3 ((Z.B [100, 111, 32]) ++ nm) (Z.B [32]) hS1 ?_
  refine Z.t 4 (.slice A 1 c) hS1 ?_
  obtain ⟨a1, ha1, hc1⟩ := (Gx.Rd.ext hr (by decide) hE) 0 (by omega)
  refine Z.ti 5 24 5 ha1 1 c 0 hS1 ?_
  refine Z.ta 6 [Z.n x.k, Z.n x.a, .string x.nm, .int .i64 x.n, .slice (As 0) x.ks.length (cs 0)] 5 hc1 (fun _ hs => hs.2) hS1 ?_
  refine Z.o 7 (fun R hR => in_c w0 x (As 0) (cs 0) sx 6 _ R (Gx.Ext.trans hE (((Gx.Ext.refl w).trans x1).trans x2)) (h0) (by omega) (fun w3 x3 => hR _ _ ⟨⟨((b1.ext x2).ext x3), ((((Gx.Ext.refl w).trans x1).trans x2).trans x3)⟩, fun hS2 => ?_⟩))
  have zw3 := x3.size
  refine Z.tc 8 (((Z.B [100, 111, 32]) ++ nm) ++ (Z.B [32])) (inT 6 x sx) hS2 ?_
  refine Z.t 9 (.string ((((Z.B [100, 111, 32]) ++ nm) ++ (Z.B [32])) ++ (inT 6 x sx))) hS2 ?_
  refine Z.q ?_
  refine Z.x (wp_ret (Gx.block_ret (Gx.then_ret (Z.v (.string ((((Z.B [100, 111, 32]) ++ nm) ++ (Z.B [32])) ++ (inT 6 x sx))) ?_))))
  exact Gx.ret_as (v' := .string ((((Z.B [100, 111, 32]) ++ nm) ++ (Z.B [32])) ++ inT 6 x sx)) (by rfl) (hK _ ((((Gx.Ext.refl w).trans x1).trans x2).trans x3))

set_option maxHeartbeats 400000 in
set_option maxRecDepth 10000 in
theorem Write_24 (w0 : World) (a : Nat) (nm : ByteArray) (n : Int) (A : Option Addr) (c : Nat) (As : Nat → Option Addr) (cs : Nat → Nat) (w : World) (K : Ending → World → Prop) (hE : Gx.Ext w0 w) (hsz : ((Z.B [105, 110, 116])).size ≤ 400000000) (hK : ∀ w', Gx.Ext w w' → K (.returned (.string ((Z.B [105, 110, 116])))) w') :
    Calls Tryd.prog 7 #[.agg #[.int .i64 24, Z.n a, .string nm, .int .i64 n, .slice A 0 c]] w K := by
  refine Gx.enter 307 Tryd.func7 rfl rfl (Nat.le_of_ble_eq_true rfl) ?_
  have hq := hsz; (try simp only [zap, zli, List.length] at hq)
  refine Z.r [0, 1] ?_
  refine Z.N (.cells #[.int .i64 24, Z.n a, .string nm, .int .i64 n, .slice A 0 c] 24) (fun k1 w1 l1 x1 b1 zw1 tb1 => ?_)
  refine Z.p [1] [] [(2, .string Z.E)] ?_
  refine Z.e (Z.r [0, 1, 2] ?_)
  refine Z.p [0] [1, 2] [(6, Z.P k1 4)] ?_
  refine Z.L 4 (.slice A 0 c) b1 ?_
  refine Z.p [2] [] [(3, .slice A 0 c)] ?_
  refine Z.e (wp_seq (Z.r [0, 1] ?_))
  refine Z.p [0] [1] [(8, Z.P k1 0)] ?_
  refine Z.L 0 (.int .i64 24) b1 ?_
  refine Z.e (wp_block (Z.sf [(10, .bool false), (11, .bool false)] ?_))
  refine Z.sf [(14, .bool false), (15, .bool false)] ?_
  refine Z.sf [(27, .bool false), (28, .bool false)] ?_
  refine Z.sf [(32, .bool false), (33, .bool false)] ?_
  refine wp_seq (Z.sf [(34, .bool false), (35, .bool false)] ?_)
  refine Z.u [(34, .bool false), (36, .bool false)] ?_
  refine Z.x (Z.cf ?_)
  refine Z.sf [(39, .bool false), (40, .bool false)] ?_
  refine Z.sf [(50, .bool false), (51, .bool false)] ?_
  refine Z.sf [(72, .bool false), (73, .bool false)] ?_
  refine Z.sf [(107, .bool false), (108, .bool false)] ?_
  refine Z.sf [(119, .bool false), (120, .bool false)] ?_
  refine Z.sf [(138, .bool false), (139, .bool false)] ?_
  refine Z.sf [(152, .bool false), (153, .bool false)] ?_
  refine Z.sf [(159, .bool false), (160, .bool false)] ?_
  refine Z.sf [(166, .bool false), (167, .bool false)] ?_
  refine Z.sf [(168, .bool false), (169, .bool false)] ?_
  refine Z.sf [(180, .bool false), (181, .bool false)] ?_
  refine Z.sf [(212, .bool false), (213, .bool false)] ?_
  refine Z.sf [(263, .bool false), (264, .bool false)] ?_
  refine Z.sf [(274, .bool false), (275, .bool false)] ?_
  refine Z.st [(278, .bool true), (279, .bool true)] ?_
  refine Z.s [(2, .string (Z.B [105, 110, 116]))] ?_
  refine wp_ret (Gx.block_ret (Gx.then_ret (Z.v (.string (Z.B [105, 110, 116])) ?_)))
  exact Gx.ret_as (v' := .string ((Z.B [105, 110, 116]))) (by rfl) (hK _ ((Gx.Ext.refl w).trans x1))

set_option maxHeartbeats 400000 in
set_option maxRecDepth 10000 in
theorem Write_25 (w0 : World) (a : Nat) (nm : ByteArray) (n : Int) (A : Option Addr) (c : Nat) (As : Nat → Option Addr) (cs : Nat → Nat) (w : World) (K : Ending → World → Prop) (hE : Gx.Ext w0 w) (hsz : ((Z.B [98, 111, 111, 108])).size ≤ 400000000) (hK : ∀ w', Gx.Ext w w' → K (.returned (.string ((Z.B [98, 111, 111, 108])))) w') :
    Calls Tryd.prog 7 #[.agg #[.int .i64 25, Z.n a, .string nm, .int .i64 n, .slice A 0 c]] w K := by
  refine Gx.enter 307 Tryd.func7 rfl rfl (Nat.le_of_ble_eq_true rfl) ?_
  have hq := hsz; (try simp only [zap, zli, List.length] at hq)
  refine Z.r [0, 1] ?_
  refine Z.N (.cells #[.int .i64 25, Z.n a, .string nm, .int .i64 n, .slice A 0 c] 24) (fun k1 w1 l1 x1 b1 zw1 tb1 => ?_)
  refine Z.p [1] [] [(2, .string Z.E)] ?_
  refine Z.e (Z.r [0, 1, 2] ?_)
  refine Z.p [0] [1, 2] [(6, Z.P k1 4)] ?_
  refine Z.L 4 (.slice A 0 c) b1 ?_
  refine Z.p [2] [] [(3, .slice A 0 c)] ?_
  refine Z.e (wp_seq (Z.r [0, 1] ?_))
  refine Z.p [0] [1] [(8, Z.P k1 0)] ?_
  refine Z.L 0 (.int .i64 25) b1 ?_
  refine Z.e (wp_block (Z.sf [(10, .bool false), (11, .bool false)] ?_))
  refine Z.sf [(14, .bool false), (15, .bool false)] ?_
  refine Z.sf [(27, .bool false), (28, .bool false)] ?_
  refine Z.sf [(32, .bool false), (33, .bool false)] ?_
  refine wp_seq (Z.sf [(34, .bool false), (35, .bool false)] ?_)
  refine Z.u [(34, .bool false), (36, .bool false)] ?_
  refine Z.x (Z.cf ?_)
  refine Z.sf [(39, .bool false), (40, .bool false)] ?_
  refine Z.sf [(50, .bool false), (51, .bool false)] ?_
  refine Z.sf [(72, .bool false), (73, .bool false)] ?_
  refine Z.sf [(107, .bool false), (108, .bool false)] ?_
  refine Z.sf [(119, .bool false), (120, .bool false)] ?_
  refine Z.sf [(138, .bool false), (139, .bool false)] ?_
  refine Z.sf [(152, .bool false), (153, .bool false)] ?_
  refine Z.sf [(159, .bool false), (160, .bool false)] ?_
  refine Z.sf [(166, .bool false), (167, .bool false)] ?_
  refine Z.sf [(168, .bool false), (169, .bool false)] ?_
  refine Z.sf [(180, .bool false), (181, .bool false)] ?_
  refine Z.sf [(212, .bool false), (213, .bool false)] ?_
  refine Z.sf [(263, .bool false), (264, .bool false)] ?_
  refine Z.sf [(274, .bool false), (275, .bool false)] ?_
  refine Z.sf [(278, .bool false), (279, .bool false)] ?_
  refine Z.st [(280, .bool true), (281, .bool true)] ?_
  refine Z.s [(2, .string (Z.B [98, 111, 111, 108]))] ?_
  refine wp_ret (Gx.block_ret (Gx.then_ret (Z.v (.string (Z.B [98, 111, 111, 108])) ?_)))
  exact Gx.ret_as (v' := .string ((Z.B [98, 111, 111, 108]))) (by rfl) (hK _ ((Gx.Ext.refl w).trans x1))

set_option maxHeartbeats 400000 in
set_option maxRecDepth 10000 in
theorem Write_26 (w0 : World) (a : Nat) (nm : ByteArray) (n : Int) (A : Option Addr) (c : Nat) (As : Nat → Option Addr) (cs : Nat → Nat) (w : World) (K : Ending → World → Prop) (hE : Gx.Ext w0 w) (hsz : ((Z.B [117, 110, 105, 116])).size ≤ 400000000) (hK : ∀ w', Gx.Ext w w' → K (.returned (.string ((Z.B [117, 110, 105, 116])))) w') :
    Calls Tryd.prog 7 #[.agg #[.int .i64 26, Z.n a, .string nm, .int .i64 n, .slice A 0 c]] w K := by
  refine Gx.enter 307 Tryd.func7 rfl rfl (Nat.le_of_ble_eq_true rfl) ?_
  have hq := hsz; (try simp only [zap, zli, List.length] at hq)
  refine Z.r [0, 1] ?_
  refine Z.N (.cells #[.int .i64 26, Z.n a, .string nm, .int .i64 n, .slice A 0 c] 24) (fun k1 w1 l1 x1 b1 zw1 tb1 => ?_)
  refine Z.p [1] [] [(2, .string Z.E)] ?_
  refine Z.e (Z.r [0, 1, 2] ?_)
  refine Z.p [0] [1, 2] [(6, Z.P k1 4)] ?_
  refine Z.L 4 (.slice A 0 c) b1 ?_
  refine Z.p [2] [] [(3, .slice A 0 c)] ?_
  refine Z.e (wp_seq (Z.r [0, 1] ?_))
  refine Z.p [0] [1] [(8, Z.P k1 0)] ?_
  refine Z.L 0 (.int .i64 26) b1 ?_
  refine Z.e (wp_block (Z.sf [(10, .bool false), (11, .bool false)] ?_))
  refine Z.sf [(14, .bool false), (15, .bool false)] ?_
  refine Z.sf [(27, .bool false), (28, .bool false)] ?_
  refine Z.sf [(32, .bool false), (33, .bool false)] ?_
  refine wp_seq (Z.sf [(34, .bool false), (35, .bool false)] ?_)
  refine Z.u [(34, .bool false), (36, .bool false)] ?_
  refine Z.x (Z.cf ?_)
  refine Z.sf [(39, .bool false), (40, .bool false)] ?_
  refine Z.sf [(50, .bool false), (51, .bool false)] ?_
  refine Z.sf [(72, .bool false), (73, .bool false)] ?_
  refine Z.sf [(107, .bool false), (108, .bool false)] ?_
  refine Z.sf [(119, .bool false), (120, .bool false)] ?_
  refine Z.sf [(138, .bool false), (139, .bool false)] ?_
  refine Z.sf [(152, .bool false), (153, .bool false)] ?_
  refine Z.sf [(159, .bool false), (160, .bool false)] ?_
  refine Z.sf [(166, .bool false), (167, .bool false)] ?_
  refine Z.sf [(168, .bool false), (169, .bool false)] ?_
  refine Z.sf [(180, .bool false), (181, .bool false)] ?_
  refine Z.sf [(212, .bool false), (213, .bool false)] ?_
  refine Z.sf [(263, .bool false), (264, .bool false)] ?_
  refine Z.sf [(274, .bool false), (275, .bool false)] ?_
  refine Z.sf [(278, .bool false), (279, .bool false)] ?_
  refine Z.sf [(280, .bool false), (281, .bool false)] ?_
  refine Z.st [(282, .bool true), (283, .bool true)] ?_
  refine Z.s [(2, .string (Z.B [117, 110, 105, 116]))] ?_
  refine wp_ret (Gx.block_ret (Gx.then_ret (Z.v (.string (Z.B [117, 110, 105, 116])) ?_)))
  exact Gx.ret_as (v' := .string ((Z.B [117, 110, 105, 116]))) (by rfl) (hK _ ((Gx.Ext.refl w).trans x1))

set_option maxHeartbeats 400000 in
set_option maxRecDepth 10000 in
theorem Write_27 (w0 : World) (a : Nat) (nm : ByteArray) (n : Int) (x : Nd) (A : Option Addr) (c : Nat) (As : Nat → Option Addr) (cs : Nat → Nat) (sx : ByteArray) (w : World) (K : Ending → World → Prop) (hE : Gx.Ext w0 w) (hr : Gx.Rd w0 A 1 5 (fun i => ndC ([x].getD i nd0) (As i) (cs i))) (h0 : WOK w0 x (As 0) (cs 0) sx) (hsz : (inT 2 x sx ++ (Z.B [32, 108, 105, 115, 116])).size ≤ 400000000) (hK : ∀ w', Gx.Ext w w' → K (.returned (.string (inT 2 x sx ++ (Z.B [32, 108, 105, 115, 116])))) w') :
    Calls Tryd.prog 7 #[.agg #[.int .i64 27, Z.n a, .string nm, .int .i64 n, .slice A 1 c]] w K := by
  refine Gx.enter 307 Tryd.func7 rfl rfl (Nat.le_of_ble_eq_true rfl) ?_
  have hq := hsz; (try simp only [zap, zli, List.length] at hq)
  have i1 := inT_le 2 x sx
  refine Z.r [0, 1] ?_
  refine Z.N (.cells #[.int .i64 27, Z.n a, .string nm, .int .i64 n, .slice A 1 c] 24) (fun k1 w1 l1 x1 b1 zw1 tb1 => ?_)
  refine Z.p [1] [] [(2, .string Z.E)] ?_
  refine Z.e (Z.r [0, 1, 2] ?_)
  refine Z.p [0] [1, 2] [(6, Z.P k1 4)] ?_
  refine Z.L 4 (.slice A 1 c) b1 ?_
  refine Z.p [2] [] [(3, .slice A 1 c)] ?_
  refine Z.e (wp_seq (Z.r [0, 1] ?_))
  refine Z.p [0] [1] [(8, Z.P k1 0)] ?_
  refine Z.L 0 (.int .i64 27) b1 ?_
  refine Z.e (wp_block (Z.sf [(10, .bool false), (11, .bool false)] ?_))
  refine Z.sf [(14, .bool false), (15, .bool false)] ?_
  refine Z.sf [(27, .bool false), (28, .bool false)] ?_
  refine Z.sf [(32, .bool false), (33, .bool false)] ?_
  refine wp_seq (Z.sf [(34, .bool false), (35, .bool false)] ?_)
  refine Z.u [(34, .bool false), (36, .bool false)] ?_
  refine Z.x (Z.cf ?_)
  refine Z.sf [(39, .bool false), (40, .bool false)] ?_
  refine Z.sf [(50, .bool false), (51, .bool false)] ?_
  refine Z.sf [(72, .bool false), (73, .bool false)] ?_
  refine Z.sf [(107, .bool false), (108, .bool false)] ?_
  refine Z.sf [(119, .bool false), (120, .bool false)] ?_
  refine Z.sf [(138, .bool false), (139, .bool false)] ?_
  refine Z.sf [(152, .bool false), (153, .bool false)] ?_
  refine Z.sf [(159, .bool false), (160, .bool false)] ?_
  refine Z.sf [(166, .bool false), (167, .bool false)] ?_
  refine Z.sf [(168, .bool false), (169, .bool false)] ?_
  refine Z.sf [(180, .bool false), (181, .bool false)] ?_
  refine Z.sf [(212, .bool false), (213, .bool false)] ?_
  refine Z.sf [(263, .bool false), (264, .bool false)] ?_
  refine Z.sf [(274, .bool false), (275, .bool false)] ?_
  refine Z.sf [(278, .bool false), (279, .bool false)] ?_
  refine Z.sf [(280, .bool false), (281, .bool false)] ?_
  refine Z.sf [(282, .bool false), (283, .bool false)] ?_
  refine Z.st [(284, .bool true), (285, .bool true)] ?_
  refine Z.r [0, 1, 2, 3, 4, 5] ?_
  refine Z.p [0] [1, 2, 3, 4, 5] [(286, .slice A 1 c)] ?_
  obtain ⟨a1, ha1, hc1⟩ := (Gx.Rd.ext hr (by decide) hE) 0 (by omega)
  refine Z.I 24 5 ha1 1 c 0 ?_
  refine Z.La [Z.n x.k, Z.n x.a, .string x.nm, .int .i64 x.n, .slice (As 0) x.ks.length (cs 0)] 5 hc1 ((Gx.Ext.refl w).trans x1) ?_
  refine Z.k (fun R hR => in_c w0 x (As 0) (cs 0) sx 2 _ R (Gx.Ext.trans hE ((Gx.Ext.refl w).trans x1)) (h0) (by omega) (fun w2 x2 => hR _ _ ?_))
  have zw2 := x2.size
  refine Z.C (inT 2 x sx) (Z.B [32, 108, 105, 115, 116]) ?_
  refine Z.p [5] [] [(2, .string ((inT 2 x sx) ++ (Z.B [32, 108, 105, 115, 116])))] ?_
  refine Z.e (wp_ret (Gx.block_ret (Gx.then_ret (Z.v (.string ((inT 2 x sx) ++ (Z.B [32, 108, 105, 115, 116]))) ?_))))
  exact Gx.ret_as (v' := .string (inT 2 x sx ++ (Z.B [32, 108, 105, 115, 116]))) (by rfl) (hK _ (((Gx.Ext.refl w).trans x1).trans x2))

set_option maxHeartbeats 400000 in
set_option maxRecDepth 10000 in
theorem Write_28 (w0 : World) (a : Nat) (nm : ByteArray) (n : Int) (x y : Nd) (A : Option Addr) (c : Nat) (As : Nat → Option Addr) (cs : Nat → Nat) (sx sy : ByteArray) (w : World) (K : Ending → World → Prop) (hE : Gx.Ext w0 w) (hr : Gx.Rd w0 A 2 5 (fun i => ndC ([x, y].getD i nd0) (As i) (cs i))) (h0 : WOK w0 x (As 0) (cs 0) sx) (h1 : WOK w0 y (As 1) (cs 1) sy) (hsz : ((inT 2 x sx ++ (Z.B [32, 42, 32])) ++ inT 1 y sy).size ≤ 400000000) (hK : ∀ w', Gx.Ext w w' → K (.returned (.string ((inT 2 x sx ++ (Z.B [32, 42, 32])) ++ inT 1 y sy))) w') :
    Calls Tryd.prog 7 #[.agg #[.int .i64 28, Z.n a, .string nm, .int .i64 n, .slice A 2 c]] w K := by
  refine Gx.enter 307 Tryd.func7 rfl rfl (Nat.le_of_ble_eq_true rfl) ?_
  have hq := hsz; (try simp only [zap, zli, List.length] at hq)
  have i1 := inT_le 2 x sx; have i2 := inT_le 1 y sy
  refine Z.r [0, 1] ?_
  refine Z.N (.cells #[.int .i64 28, Z.n a, .string nm, .int .i64 n, .slice A 2 c] 24) (fun k1 w1 l1 x1 b1 zw1 tb1 => ?_)
  refine Z.p [1] [] [(2, .string Z.E)] ?_
  refine Z.e (Z.r [0, 1, 2] ?_)
  refine Z.p [0] [1, 2] [(6, Z.P k1 4)] ?_
  refine Z.L 4 (.slice A 2 c) b1 ?_
  refine Z.p [2] [] [(3, .slice A 2 c)] ?_
  refine Z.e (wp_seq (Z.r [0, 1] ?_))
  refine Z.p [0] [1] [(8, Z.P k1 0)] ?_
  refine Z.L 0 (.int .i64 28) b1 ?_
  refine Z.e (wp_block (Z.sf [(10, .bool false), (11, .bool false)] ?_))
  refine Z.sf [(14, .bool false), (15, .bool false)] ?_
  refine Z.sf [(27, .bool false), (28, .bool false)] ?_
  refine Z.sf [(32, .bool false), (33, .bool false)] ?_
  refine wp_seq (Z.sf [(34, .bool false), (35, .bool false)] ?_)
  refine Z.u [(34, .bool false), (36, .bool false)] ?_
  refine Z.x (Z.cf ?_)
  refine Z.sf [(39, .bool false), (40, .bool false)] ?_
  refine Z.sf [(50, .bool false), (51, .bool false)] ?_
  refine Z.sf [(72, .bool false), (73, .bool false)] ?_
  refine Z.sf [(107, .bool false), (108, .bool false)] ?_
  refine Z.sf [(119, .bool false), (120, .bool false)] ?_
  refine Z.sf [(138, .bool false), (139, .bool false)] ?_
  refine Z.sf [(152, .bool false), (153, .bool false)] ?_
  refine Z.sf [(159, .bool false), (160, .bool false)] ?_
  refine Z.sf [(166, .bool false), (167, .bool false)] ?_
  refine Z.sf [(168, .bool false), (169, .bool false)] ?_
  refine Z.sf [(180, .bool false), (181, .bool false)] ?_
  refine Z.sf [(212, .bool false), (213, .bool false)] ?_
  refine Z.sf [(263, .bool false), (264, .bool false)] ?_
  refine Z.sf [(274, .bool false), (275, .bool false)] ?_
  refine Z.sf [(278, .bool false), (279, .bool false)] ?_
  refine Z.sf [(280, .bool false), (281, .bool false)] ?_
  refine Z.sf [(282, .bool false), (283, .bool false)] ?_
  refine Z.sf [(284, .bool false), (285, .bool false)] ?_
  refine Z.st [(291, .bool true), (292, .bool true)] ?_
  refine wp_seq (Z.D (fun w' => Gx.Ext w w') (fun w2 x2 zw2 => ?_))
  refine Z.h (((Gx.Ext.refl w).trans x1).trans x2) (fun hS1 => ?_)
  refine Z.t 0 (.slice A 2 c) hS1 ?_
  obtain ⟨a1, ha1, hc1⟩ := (Gx.Rd.ext hr (by decide) hE) 0 (by omega)
  refine Z.ti 1 24 5 ha1 2 c 0 hS1 ?_
  refine Z.ta 2 [Z.n x.k, Z.n x.a, .string x.nm, .int .i64 x.n, .slice (As 0) x.ks.length (cs 0)] 5 hc1 (fun _ hs => hs) hS1 ?_
  refine Z.t 5 (.slice A 2 c) hS1 ?_
  obtain ⟨a2, ha2, hc2⟩ := (Gx.Rd.ext hr (by decide) hE) 1 (by omega)
  refine Z.ti 6 24 5 ha2 2 c 1 hS1 ?_
  refine Z.ta 7 [Z.n y.k, Z.n y.a, .string y.nm, .int .i64 y.n, .slice (As 1) y.ks.length (cs 1)] 5 hc2 (fun _ hs => hs) hS1 ?_
  refine Z.o 3 (fun R hR => in_c w0 x (As 0) (cs 0) sx 2 _ R (Gx.Ext.trans hE (((Gx.Ext.refl w).trans x1).trans x2)) (h0) (by omega) (fun w3 x3 => hR _ _ ⟨((((Gx.Ext.refl w).trans x1).trans x2).trans x3), fun hS2 => ?_⟩))
  have zw3 := x3.size
  refine Z.tc 4 (inT 2 x sx) (Z.B [32, 42, 32]) hS2 ?_
  refine Z.o 8 (fun R hR => in_c w0 y (As 1) (cs 1) sy 1 _ R (Gx.Ext.trans hE ((((Gx.Ext.refl w).trans x1).trans x2).trans x3)) (h1) (by omega) (fun w4 x4 => hR _ _ ⟨(((((Gx.Ext.refl w).trans x1).trans x2).trans x3).trans x4), fun hS3 => ?_⟩))
  have zw4 := x4.size
  refine Z.tc 9 ((inT 2 x sx) ++ (Z.B [32, 42, 32])) (inT 1 y sy) hS3 ?_
  refine Z.t 10 (.string (((inT 2 x sx) ++ (Z.B [32, 42, 32])) ++ (inT 1 y sy))) hS3 ?_
  refine Z.q ?_
  refine Z.x (wp_ret (Gx.block_ret (Gx.then_ret (Z.v (.string (((inT 2 x sx) ++ (Z.B [32, 42, 32])) ++ (inT 1 y sy))) ?_))))
  exact Gx.ret_as (v' := .string ((inT 2 x sx ++ (Z.B [32, 42, 32])) ++ inT 1 y sy)) (by rfl) (hK _ (((((Gx.Ext.refl w).trans x1).trans x2).trans x3).trans x4))

end Go.Proofs.YtinilkomfggjiaaDoor
