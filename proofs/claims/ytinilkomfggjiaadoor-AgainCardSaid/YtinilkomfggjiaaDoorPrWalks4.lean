/- The walks, written by a program of ours (wip/gx/gx.py, printgen.py). -/
import Derived.Test.YtinilkomfggjiaaDoorRows
import Derived.Test.YtinilkomfggjiaaDoorGs
import Derived.Test.YtinilkomfggjiaaDoorSynBuild
import Derived.Test.YtinilkomfggjiaaDoorPrWalks3
set_option linter.unusedVariables false
set_option linter.unusedSimpArgs false
set_option maxHeartbeats 4000000
set_option maxRecDepth 20000
namespace Go.Proofs.YtinilkomfggjiaaDoor
open Go.RowKit Go.Lex Go.Syn
open Go.Show (digB e0 dig_small dig_step app_e0 app_assoc)
attribute [local irreducible] Go.wpOps Go.Code.wp Go.wpOp Go.wpAnyH Go.Calls Go.Syn.J
theorem more_12 (B b : Nat) (x : ByteArray) (w0 : World) (a : Nat) (nm : ByteArray) (n : Int) (kA kB : Nd) (A : Option Addr) (c : Nat) (As : Nat → Option Addr) (cs : Nat → Nat) (tA tB : ByteArray) (w : World) (K : Ending → World → Prop) (h : Bd w B b x) (hBw : B ≤ w.heap.size) (hE : Gx.Ext w0 w) (hw0B : w0.heap.size ≤ B) (hsz : x.size + ((((Z.k56 ++ tA) ++ Z.k60) ++ tB) ++ Z.k57).size ≤ 100000000000) (hr : Gx.Rd w0 A 2 5 (fun i => ndC ([kA, kB].getD i nd0) (As i) (cs i))) (h0 : POK w0 kA (As 0) (cs 0) tA) (o0 : Op5 kA) (p0 : 0 < tA.size) (h1 : POK w0 kB (As 1) (cs 1) tB) (o1 : Op5 kB) (p1 : 0 < tB.size) (hK : ∀ w' s', s' = J x ((((Z.k56 ++ tA) ++ Z.k60) ++ tB) ++ Z.k57) → Gx.Wx 5 B b w w' → Bd w' B b s' → K (.returned (.tuple #[])) w') :
    Calls Tryd.prog 41 #[Z.P b 0, .agg #[.int .i64 12, Z.n a, .string nm, .int .i64 n, .slice A 2 c]] w K := by
  refine Z.en 176 Tryd.func41 ?_
  have tbb : b < w.heap.size := by obtain ⟨_, _, hq, _⟩ := h; exact hq.lt
  have hB : B ≤ b := by obtain ⟨_, _, _, _, hq, _⟩ := h; exact hq
  have hq := hsz; (try simp only [zap, zli, List.length] at hq)
  have i0 := congrArg ByteArray.size (inT0 kA tA); have i1 := congrArg ByteArray.size (inT0 kB tB)
  refine Z.r [0] ?_
  refine Z.N (.cells #[.int .i64 12, Z.n a, .string nm, .int .i64 n, .slice A 2 c] 24) (fun k1 w1 l1 x1 b1 zw1 tb1 => ?_)
  refine Z.e (Z.r [0, 1, 2] ?_)
  refine Z.p [0] [1, 2] [(8, Z.P k1 4)] ?_
  refine Z.L 4 (.slice A 2 c) b1 ?_
  refine Z.p [2] [] [(4, .slice A 2 c)] ?_
  refine Z.e (Z.r [0, 1] ?_)
  refine Z.p [0] [1] [(10, Z.P k1 0)] ?_
  refine Z.L 0 (.int .i64 12) b1 ?_
  refine Z.e (wp_block (Z.st [(12, .bool true), (13, .bool true)] ?_))
  refine Z.r [0, 1, 2] ?_
  refine Z.p [0] [1, 2] [(14, Z.P b 0)] ?_
  refine Z.R (.cells #[.string Z.k4] 9) 1 1 (fun k2 w2 l2 x2 b2 zw2 tb2 => ?_)
  have zs1 : (putJ x [Z.k4]).size ≤ x.size + (Z.k4.size + 1 + 0) := putJ_bd [Z.k4] x
  (try simp only [zap, zli, List.length] at zs1)
  refine Z.k (fun R hR => put_c B b x [Z.k4] k2 1 _ R ((h.ext x1).ext x2) (by omega) b2 (by omega) (Nat.le_of_ble_eq_true rfl) (by omega) (fun w3 s1 hs1 x3 hbd1 => hR _ _ ?_))
  have zw3 := x3.size
  rw [← hs1] at zs1
  refine Z.e (Z.r [0, 1, 2] ?_)
  refine Z.p [0] [1, 2] [(17, Z.P b 0)] ?_
  refine Z.L 0 (.agg #[.int .i64 12, Z.n a, .string nm, .int .i64 n, .slice A 2 c]) (x3.has (b1.ext x2) (by omega) (by decide)) ?_
  have qI := inT_le 0 kA tA; have qJ := inT_le 0 kB tB
  have zs2 := (J_size s1 ((((inT 0 kA tA ++ Z.k3) ++ Z.k16) ++ Z.k3) ++ inT 0 kB tB)).1
  (try simp only [zap, zli, List.length] at zs2)
  refine Z.k (fun R hR => infix_c B b s1 w0 12 a nm n kA kB A c As cs tA tB Z.k16 0 0 _ R hbd1 (by omega) (Gx.Ext.wx hE ((((Gx.Wx.refl (e := 5) (wb := b) w hBw).ext x1).ext x2).trans x3) hw0B) hw0B (by (try simp only [zap, zli, List.length]); omega) hr h0 h1 o0 o1 p0 p1 (by first | decide | omega) (fun w4 s2 hs2 x4 hbd2 => hR _ _ ?_))
  have zw4 := x4.size
  rw [← hs2] at zs2
  refine Z.e (Z.g [0, 1, 2] ?_)
  refine Z.p [0] [1, 2] [(20, Z.P b 0)] ?_
  refine Z.R (.cells #[.string Z.k2] 9) 1 1 (fun k3 w5 l3 x5 b3 zw5 tb3 => ?_)
  have zs3 : (putJ s2 [Z.k2]).size ≤ s2.size + (Z.k2.size + 1 + 0) := putJ_bd [Z.k2] s2
  (try simp only [zap, zli, List.length] at zs3)
  refine Z.k (fun R hR => put_c B b s2 [Z.k2] k3 1 _ R (hbd2.ext x5) (by omega) b3 (by omega) (Nat.le_of_ble_eq_true rfl) (by omega) (fun w6 s3 hs3 x6 hbd3 => hR _ _ ?_))
  have zw6 := x6.size
  rw [← hs3] at zs3
  refine Gx.ops_nil (Gx.block_normal (Gx.ret_n (Gx.res0 rfl) ?_))
  exact hK _ _ (by rw [hs3, hs2, hs1]; show putJ x [Z.k4, (((inT 0 kA tA ++ Z.k3) ++ Z.k16) ++ Z.k3) ++ inT 0 kB tB, Z.k2] = _; rw [putJ_join _ (by first | decide | omega | (simp only [zap, zli, List.length]; omega))]; exact congrArg (J x) (bl (by simp only [inT0]; (try simp [joinS, l_app, Z.bd, Z.ed])))) (((((((Gx.Wx.refl (e := 5) (wb := b) w hBw).ext x1).ext x2).trans x3).trans x4).ext x5).trans x6) hbd3
theorem more_13 (B b : Nat) (x : ByteArray) (w0 : World) (a : Nat) (nm : ByteArray) (n : Int) (kA : Nd) (A : Option Addr) (c : Nat) (As : Nat → Option Addr) (cs : Nat → Nat) (tA : ByteArray) (w : World) (K : Ending → World → Prop) (h : Bd w B b x) (hBw : B ≤ w.heap.size) (hE : Gx.Ext w0 w) (hw0B : w0.heap.size ≤ B) (hsz : x.size + ((Z.B [102, 115, 116, 32]) ++ inT 6 kA tA).size ≤ 100000000000) (hr : Gx.Rd w0 A 1 5 (fun i => ndC ([kA].getD i nd0) (As i) (cs i))) (h0 : POK w0 kA (As 0) (cs 0) tA) (o0 : Op5 kA) (p0 : 0 < tA.size) (hK : ∀ w' s', s' = J x ((Z.B [102, 115, 116, 32]) ++ inT 6 kA tA) → Gx.Wx 5 B b w w' → Bd w' B b s' → K (.returned (.tuple #[])) w') :
    Calls Tryd.prog 41 #[Z.P b 0, .agg #[.int .i64 13, Z.n a, .string nm, .int .i64 n, .slice A 1 c]] w K := by
  refine Z.en 176 Tryd.func41 ?_
  have tbb : b < w.heap.size := by obtain ⟨_, _, hq, _⟩ := h; exact hq.lt
  have hB : B ≤ b := by obtain ⟨_, _, _, _, hq, _⟩ := h; exact hq
  have hq := hsz; (try simp only [zap, zli, List.length] at hq)
  have i0 := inT_le 6 kA tA
  refine Z.r [0] ?_
  refine Z.N (.cells #[.int .i64 13, Z.n a, .string nm, .int .i64 n, .slice A 1 c] 24) (fun k1 w1 l1 x1 b1 zw1 tb1 => ?_)
  refine Z.e (Z.r [0, 1, 2] ?_)
  refine Z.p [0] [1, 2] [(8, Z.P k1 4)] ?_
  refine Z.L 4 (.slice A 1 c) b1 ?_
  refine Z.p [2] [] [(4, .slice A 1 c)] ?_
  refine Z.e (Z.r [0, 1] ?_)
  refine Z.p [0] [1] [(10, Z.P k1 0)] ?_
  refine Z.L 0 (.int .i64 13) b1 ?_
  refine Z.e (wp_block (Z.sf [(12, .bool false), (13, .bool false)] ?_))
  refine wp_seq (Z.st [(23, .bool true), (24, .bool true)] ?_)
  refine wp_skip (Z.x (Z.ct ?_))
  refine Z.r [0, 1, 2, 3, 4, 5] ?_
  refine Z.p [0, 1] [2, 3, 4, 5] [(27, Z.P k1 0), (26, Z.P b 0)] ?_
  refine Z.L 0 (.int .i64 13) b1 ?_
  refine Z.k (fun R hR => word_13 _ R (fun w2 x2 => hR _ _ ?_))
  have zw2 := x2.size
  refine Z.R (.cells #[.string Z.k36] 9) 1 1 (fun k2 w3 l2 x3 b2 zw3 tb2 => ?_)
  have zs1 : (putJ x [Z.k36]).size ≤ x.size + (Z.k36.size + 1 + 0) := putJ_bd [Z.k36] x
  (try simp only [zap, zli, List.length] at zs1)
  refine Z.k (fun R hR => put_c B b x [Z.k36] k2 1 _ R (((h.ext x1).ext x2).ext x3) (by omega) b2 (by omega) (Nat.le_of_ble_eq_true rfl) (by omega) (fun w4 s1 hs1 x4 hbd1 => hR _ _ ?_))
  have zw4 := x4.size
  rw [← hs1] at zs1
  refine Z.e (Z.g [0, 1, 2, 3, 4] ?_)
  refine Z.p [0, 1] [2, 3, 4] [(33, .slice A 1 c), (32, Z.P b 0)] ?_
  obtain ⟨a1, ha1, hc1⟩ := hr 0 (by omega)
  refine Z.I 24 5 ha1 1 c 0 ?_
  refine Z.La [Z.n kA.k, Z.n kA.a, .string kA.nm, .int .i64 kA.n, .slice (As 0) kA.ks.length (cs 0)] 5 hc1 (Gx.Ext.wx hE (((((Gx.Wx.refl (e := 5) (wb := b) w hBw).ext x1).ext x2).ext x3).trans x4) hw0B) ?_
  have zs2 := (J_size s1 (inT 6 kA tA)).1
  (try simp only [zap, zli, List.length] at zs2)
  refine Z.k (fun R hR => kid_c B b s1 w0 kA (As 0) (cs 0) tA 6 _ R hbd1 (by omega) (Gx.Ext.wx hE (((((Gx.Wx.refl (e := 5) (wb := b) w hBw).ext x1).ext x2).ext x3).trans x4) hw0B) hw0B (by omega) h0 o0 (fun w5 s2 hs2 x5 hbd2 => hR _ _ ?_))
  have zw5 := x5.size
  rw [← hs2] at zs2
  refine Gx.ops_nil (Gx.block_normal (Gx.ret_n (Gx.res0 rfl) ?_))
  exact hK _ _ (by rw [hs2, hs1]; show putJ x [Z.k36, inT 6 kA tA] = _; rw [putJ_join _ (by first | decide | omega | (simp only [zap, zli, List.length]; omega))]; exact congrArg (J x) (bl (by (try simp [joinS, l_app, Z.bd, Z.ed])))) ((((((Gx.Wx.refl (e := 5) (wb := b) w hBw).ext x1).ext x2).ext x3).trans x4).trans x5) hbd2
theorem more_14 (B b : Nat) (x : ByteArray) (w0 : World) (a : Nat) (nm : ByteArray) (n : Int) (kA : Nd) (A : Option Addr) (c : Nat) (As : Nat → Option Addr) (cs : Nat → Nat) (tA : ByteArray) (w : World) (K : Ending → World → Prop) (h : Bd w B b x) (hBw : B ≤ w.heap.size) (hE : Gx.Ext w0 w) (hw0B : w0.heap.size ≤ B) (hsz : x.size + ((Z.B [115, 110, 100, 32]) ++ inT 6 kA tA).size ≤ 100000000000) (hr : Gx.Rd w0 A 1 5 (fun i => ndC ([kA].getD i nd0) (As i) (cs i))) (h0 : POK w0 kA (As 0) (cs 0) tA) (o0 : Op5 kA) (p0 : 0 < tA.size) (hK : ∀ w' s', s' = J x ((Z.B [115, 110, 100, 32]) ++ inT 6 kA tA) → Gx.Wx 5 B b w w' → Bd w' B b s' → K (.returned (.tuple #[])) w') :
    Calls Tryd.prog 41 #[Z.P b 0, .agg #[.int .i64 14, Z.n a, .string nm, .int .i64 n, .slice A 1 c]] w K := by
  refine Z.en 176 Tryd.func41 ?_
  have tbb : b < w.heap.size := by obtain ⟨_, _, hq, _⟩ := h; exact hq.lt
  have hB : B ≤ b := by obtain ⟨_, _, _, _, hq, _⟩ := h; exact hq
  have hq := hsz; (try simp only [zap, zli, List.length] at hq)
  have i0 := inT_le 6 kA tA
  refine Z.r [0] ?_
  refine Z.N (.cells #[.int .i64 14, Z.n a, .string nm, .int .i64 n, .slice A 1 c] 24) (fun k1 w1 l1 x1 b1 zw1 tb1 => ?_)
  refine Z.e (Z.r [0, 1, 2] ?_)
  refine Z.p [0] [1, 2] [(8, Z.P k1 4)] ?_
  refine Z.L 4 (.slice A 1 c) b1 ?_
  refine Z.p [2] [] [(4, .slice A 1 c)] ?_
  refine Z.e (Z.r [0, 1] ?_)
  refine Z.p [0] [1] [(10, Z.P k1 0)] ?_
  refine Z.L 0 (.int .i64 14) b1 ?_
  refine Z.e (wp_block (Z.sf [(12, .bool false), (13, .bool false)] ?_))
  refine wp_seq (Z.sf [(23, .bool false), (24, .bool false)] ?_)
  refine Z.u [(23, .bool true), (25, .bool true)] ?_
  refine Z.x (Z.ct ?_)
  refine Z.r [0, 1, 2, 3, 4, 5] ?_
  refine Z.p [0, 1] [2, 3, 4, 5] [(27, Z.P k1 0), (26, Z.P b 0)] ?_
  refine Z.L 0 (.int .i64 14) b1 ?_
  refine Z.k (fun R hR => word_14 _ R (fun w2 x2 => hR _ _ ?_))
  have zw2 := x2.size
  refine Z.R (.cells #[.string Z.k37] 9) 1 1 (fun k2 w3 l2 x3 b2 zw3 tb2 => ?_)
  have zs1 : (putJ x [Z.k37]).size ≤ x.size + (Z.k37.size + 1 + 0) := putJ_bd [Z.k37] x
  (try simp only [zap, zli, List.length] at zs1)
  refine Z.k (fun R hR => put_c B b x [Z.k37] k2 1 _ R (((h.ext x1).ext x2).ext x3) (by omega) b2 (by omega) (Nat.le_of_ble_eq_true rfl) (by omega) (fun w4 s1 hs1 x4 hbd1 => hR _ _ ?_))
  have zw4 := x4.size
  rw [← hs1] at zs1
  refine Z.e (Z.g [0, 1, 2, 3, 4] ?_)
  refine Z.p [0, 1] [2, 3, 4] [(33, .slice A 1 c), (32, Z.P b 0)] ?_
  obtain ⟨a1, ha1, hc1⟩ := hr 0 (by omega)
  refine Z.I 24 5 ha1 1 c 0 ?_
  refine Z.La [Z.n kA.k, Z.n kA.a, .string kA.nm, .int .i64 kA.n, .slice (As 0) kA.ks.length (cs 0)] 5 hc1 (Gx.Ext.wx hE (((((Gx.Wx.refl (e := 5) (wb := b) w hBw).ext x1).ext x2).ext x3).trans x4) hw0B) ?_
  have zs2 := (J_size s1 (inT 6 kA tA)).1
  (try simp only [zap, zli, List.length] at zs2)
  refine Z.k (fun R hR => kid_c B b s1 w0 kA (As 0) (cs 0) tA 6 _ R hbd1 (by omega) (Gx.Ext.wx hE (((((Gx.Wx.refl (e := 5) (wb := b) w hBw).ext x1).ext x2).ext x3).trans x4) hw0B) hw0B (by omega) h0 o0 (fun w5 s2 hs2 x5 hbd2 => hR _ _ ?_))
  have zw5 := x5.size
  rw [← hs2] at zs2
  refine Gx.ops_nil (Gx.block_normal (Gx.ret_n (Gx.res0 rfl) ?_))
  exact hK _ _ (by rw [hs2, hs1]; show putJ x [Z.k37, inT 6 kA tA] = _; rw [putJ_join _ (by first | decide | omega | (simp only [zap, zli, List.length]; omega))]; exact congrArg (J x) (bl (by (try simp [joinS, l_app, Z.bd, Z.ed])))) ((((((Gx.Wx.refl (e := 5) (wb := b) w hBw).ext x1).ext x2).ext x3).trans x4).trans x5) hbd2
theorem more_15 (B b : Nat) (x : ByteArray) (w0 : World) (a : Nat) (nm : ByteArray) (n : Int) (A : Option Addr) (c : Nat) (As : Nat → Option Addr) (cs : Nat → Nat) (w : World) (K : Ending → World → Prop) (h : Bd w B b x) (hBw : B ≤ w.heap.size) (hE : Gx.Ext w0 w) (hw0B : w0.heap.size ≤ B) (hsz : x.size + ((Z.B [91, 32, 93])).size ≤ 100000000000) (hK : ∀ w' s', s' = J x ((Z.B [91, 32, 93])) → Gx.Wx 5 B b w w' → Bd w' B b s' → K (.returned (.tuple #[])) w') :
    Calls Tryd.prog 41 #[Z.P b 0, .agg #[.int .i64 15, Z.n a, .string nm, .int .i64 n, .slice A 0 c]] w K := by
  refine Z.en 176 Tryd.func41 ?_
  have tbb : b < w.heap.size := by obtain ⟨_, _, hq, _⟩ := h; exact hq.lt
  have hB : B ≤ b := by obtain ⟨_, _, _, _, hq, _⟩ := h; exact hq
  have hq := hsz; (try simp only [zap, zli, List.length] at hq)
  refine Z.r [0] ?_
  refine Z.N (.cells #[.int .i64 15, Z.n a, .string nm, .int .i64 n, .slice A 0 c] 24) (fun k1 w1 l1 x1 b1 zw1 tb1 => ?_)
  refine Z.e (Z.r [0, 1, 2] ?_)
  refine Z.p [0] [1, 2] [(8, Z.P k1 4)] ?_
  refine Z.L 4 (.slice A 0 c) b1 ?_
  refine Z.p [2] [] [(4, .slice A 0 c)] ?_
  refine Z.e (Z.r [0, 1] ?_)
  refine Z.p [0] [1] [(10, Z.P k1 0)] ?_
  refine Z.L 0 (.int .i64 15) b1 ?_
  refine Z.e (wp_block (Z.sf [(12, .bool false), (13, .bool false)] ?_))
  refine wp_seq (Z.sf [(23, .bool false), (24, .bool false)] ?_)
  refine Z.u [(23, .bool false), (25, .bool false)] ?_
  refine Z.x (Z.cf ?_)
  refine Z.st [(37, .bool true), (38, .bool true)] ?_
  refine Z.g [0, 1, 2] ?_
  refine Z.p [0] [1, 2] [(39, Z.P b 0)] ?_
  refine Z.R (.cells #[.string Z.k18, .string Z.k22] 9) 2 2 (fun k2 w2 l2 x2 b2 zw2 tb2 => ?_)
  have zs1 : (putJ x [Z.k18, Z.k22]).size ≤ x.size + (Z.k18.size + 1 + (Z.k22.size + 1 + 0)) := putJ_bd [Z.k18, Z.k22] x
  (try simp only [zap, zli, List.length] at zs1)
  refine Z.k (fun R hR => put_c B b x [Z.k18, Z.k22] k2 2 _ R ((h.ext x1).ext x2) (by omega) b2 (by omega) (Nat.le_of_ble_eq_true rfl) (by omega) (fun w3 s1 hs1 x3 hbd1 => hR _ _ ?_))
  have zw3 := x3.size
  rw [← hs1] at zs1
  refine Gx.ops_nil (Gx.block_normal (Gx.ret_n (Gx.res0 rfl) ?_))
  exact hK _ _ (by rw [hs1]; show putJ x [Z.k18, Z.k22] = _; rw [putJ_join _ (by first | decide | omega | (simp only [zap, zli, List.length]; omega))]; exact congrArg (J x) (bl (by (try simp [joinS, l_app, Z.bd, Z.ed])))) ((((Gx.Wx.refl (e := 5) (wb := b) w hBw).ext x1).ext x2).trans x3) hbd1
theorem more_16 (B b : Nat) (x : ByteArray) (w0 : World) (a : Nat) (nm : ByteArray) (n : Int) (kA kB : Nd) (A : Option Addr) (c : Nat) (As : Nat → Option Addr) (cs : Nat → Nat) (tA tB : ByteArray) (w : World) (K : Ending → World → Prop) (h : Bd w B b x) (hBw : B ≤ w.heap.size) (hE : Gx.Ext w0 w) (hw0B : w0.heap.size ≤ B) (hsz : x.size + ((inT 3 kA tA ++ Z.k59) ++ inT 2 kB tB).size ≤ 100000000000) (hr : Gx.Rd w0 A 2 5 (fun i => ndC ([kA, kB].getD i nd0) (As i) (cs i))) (h0 : POK w0 kA (As 0) (cs 0) tA) (o0 : Op5 kA) (p0 : 0 < tA.size) (h1 : POK w0 kB (As 1) (cs 1) tB) (o1 : Op5 kB) (p1 : 0 < tB.size) (hK : ∀ w' s', s' = J x ((inT 3 kA tA ++ Z.k59) ++ inT 2 kB tB) → Gx.Wx 5 B b w w' → Bd w' B b s' → K (.returned (.tuple #[])) w') :
    Calls Tryd.prog 41 #[Z.P b 0, .agg #[.int .i64 16, Z.n a, .string nm, .int .i64 n, .slice A 2 c]] w K := by
  refine Z.en 176 Tryd.func41 ?_
  have tbb : b < w.heap.size := by obtain ⟨_, _, hq, _⟩ := h; exact hq.lt
  have hB : B ≤ b := by obtain ⟨_, _, _, _, hq, _⟩ := h; exact hq
  have hq := hsz; (try simp only [zap, zli, List.length] at hq)
  have i0 := inT_le 3 kA tA; have i1 := inT_le 2 kB tB
  refine Z.r [0] ?_
  refine Z.N (.cells #[.int .i64 16, Z.n a, .string nm, .int .i64 n, .slice A 2 c] 24) (fun k1 w1 l1 x1 b1 zw1 tb1 => ?_)
  refine Z.e (Z.r [0, 1, 2] ?_)
  refine Z.p [0] [1, 2] [(8, Z.P k1 4)] ?_
  refine Z.L 4 (.slice A 2 c) b1 ?_
  refine Z.p [2] [] [(4, .slice A 2 c)] ?_
  refine Z.e (Z.r [0, 1] ?_)
  refine Z.p [0] [1] [(10, Z.P k1 0)] ?_
  refine Z.L 0 (.int .i64 16) b1 ?_
  refine Z.e (wp_block (Z.sf [(12, .bool false), (13, .bool false)] ?_))
  refine wp_seq (Z.sf [(23, .bool false), (24, .bool false)] ?_)
  refine Z.u [(23, .bool false), (25, .bool false)] ?_
  refine Z.x (Z.cf ?_)
  refine Z.sf [(37, .bool false), (38, .bool false)] ?_
  refine Z.st [(42, .bool true), (43, .bool true)] ?_
  refine Z.g [0, 1, 2] ?_
  refine Z.p [0] [1, 2] [(44, Z.P b 0)] ?_
  refine Z.L 0 (.agg #[.int .i64 16, Z.n a, .string nm, .int .i64 n, .slice A 2 c]) b1 ?_
  have qI := inT_le 3 kA tA; have qJ := inT_le 2 kB tB
  have zs1 := (J_size x ((((inT 3 kA tA ++ Z.k3) ++ Z.k9) ++ Z.k3) ++ inT 2 kB tB)).1
  (try simp only [zap, zli, List.length] at zs1)
  refine Z.k (fun R hR => infix_c B b x w0 16 a nm n kA kB A c As cs tA tB Z.k9 3 2 _ R (h.ext x1) (by omega) (Gx.Ext.wx hE ((Gx.Wx.refl (e := 5) (wb := b) w hBw).ext x1) hw0B) hw0B (by (try simp only [zap, zli, List.length]); omega) hr h0 h1 o0 o1 p0 p1 (by first | decide | omega) (fun w2 s1 hs1 x2 hbd1 => hR _ _ ?_))
  have zw2 := x2.size
  rw [← hs1] at zs1
  refine Gx.ops_nil (Gx.block_normal (Gx.ret_n (Gx.res0 rfl) ?_))
  exact hK _ _ (by rw [hs1]; (first | done | exact congrArg (J x) (bl (by (try simp [l_app, Z.bd, Z.ed]))))) (((Gx.Wx.refl (e := 5) (wb := b) w hBw).ext x1).trans x2) hbd1
theorem more_17 (B b : Nat) (x : ByteArray) (w0 : World) (a : Nat) (nm : ByteArray) (n : Int) (A : Option Addr) (c : Nat) (As : Nat → Option Addr) (cs : Nat → Nat) (kA kB uA uB kC : Nd) (tA tB tC : ByteArray) (w : World) (K : Ending → World → Prop) (h : Bd w B b x) (hBw : B ≤ w.heap.size) (hE : Gx.Ext w0 w) (hw0B : w0.heap.size ≤ B) (hsz : x.size + (((((((((((Z.B [99, 97, 115, 101, 32]) ++ tA) ++ Z.k65) ++ tB) ++ (Z.B [32, 124, 32])) ++ uA.nm) ++ Z.k59) ++ uB.nm) ++ Z.k30) ++ tC) ++ (Z.B [32, 101, 110, 100])).size ≤ 100000000000) (hr : Gx.Rd w0 A 5 5 (fun i => ndC ([kA, kB, uA, uB, kC].getD i nd0) (As i) (cs i))) (h0 : POK w0 kA (As 0) (cs 0) tA) (h1 : POK w0 kB (As 1) (cs 1) tB) (h4 : POK w0 kC (As 4) (cs 4) tC) (p0 : 0 < tA.size) (p1 : 0 < tB.size) (p4 : 0 < tC.size) (hu : 0 < uA.nm.size) (hv : 0 < uB.nm.size) (hK : ∀ w' s', s' = J x (((((((((((Z.B [99, 97, 115, 101, 32]) ++ tA) ++ Z.k65) ++ tB) ++ (Z.B [32, 124, 32])) ++ uA.nm) ++ Z.k59) ++ uB.nm) ++ Z.k30) ++ tC) ++ (Z.B [32, 101, 110, 100])) → Gx.Wx 5 B b w w' → Bd w' B b s' → K (.returned (.tuple #[])) w') :
    Calls Tryd.prog 41 #[Z.P b 0, .agg #[.int .i64 17, Z.n a, .string nm, .int .i64 n, .slice A 5 c]] w K := by
  refine Z.en 176 Tryd.func41 ?_
  have tbb : b < w.heap.size := by obtain ⟨_, _, hq, _⟩ := h; exact hq.lt
  have hB : B ≤ b := by obtain ⟨_, _, _, _, hq, _⟩ := h; exact hq
  have hq := hsz; (try simp only [zap, zli, List.length] at hq)
  refine Z.r [0] ?_
  refine Z.N (.cells #[.int .i64 17, Z.n a, .string nm, .int .i64 n, .slice A 5 c] 24) (fun k1 w1 l1 x1 b1 zw1 tb1 => ?_)
  refine Z.e (Z.r [0, 1, 2] ?_)
  refine Z.p [0] [1, 2] [(8, Z.P k1 4)] ?_
  refine Z.L 4 (.slice A 5 c) b1 ?_
  refine Z.p [2] [] [(4, .slice A 5 c)] ?_
  refine Z.e (Z.r [0, 1] ?_)
  refine Z.p [0] [1] [(10, Z.P k1 0)] ?_
  refine Z.L 0 (.int .i64 17) b1 ?_
  refine Z.e (wp_block (Z.sf [(12, .bool false), (13, .bool false)] ?_))
  refine wp_seq (Z.sf [(23, .bool false), (24, .bool false)] ?_)
  refine Z.u [(23, .bool false), (25, .bool false)] ?_
  refine Z.x (Z.cf ?_)
  refine Z.sf [(37, .bool false), (38, .bool false)] ?_
  refine Z.sf [(42, .bool false), (43, .bool false)] ?_
  refine Z.st [(47, .bool true), (48, .bool true)] ?_
  refine Z.r [0, 1, 2] ?_
  refine Z.p [0] [1, 2] [(49, Z.P b 0)] ?_
  refine Z.R (.cells #[.string Z.k32] 9) 1 1 (fun k2 w2 l2 x2 b2 zw2 tb2 => ?_)
  have zs1 : (putJ x [Z.k32]).size ≤ x.size + (Z.k32.size + 1 + 0) := putJ_bd [Z.k32] x
  (try simp only [zap, zli, List.length] at zs1)
  refine Z.k (fun R hR => put_c B b x [Z.k32] k2 1 _ R ((h.ext x1).ext x2) (by omega) b2 (by omega) (Nat.le_of_ble_eq_true rfl) (by omega) (fun w3 s1 hs1 x3 hbd1 => hR _ _ ?_))
  have zw3 := x3.size
  rw [← hs1] at zs1
  refine Z.e (Z.r [0, 1, 2, 3, 4] ?_)
  refine Z.p [0, 1] [2, 3, 4] [(53, .slice A 5 c), (52, Z.P b 0)] ?_
  obtain ⟨a1, ha1, hc1⟩ := hr 0 (by omega)
  refine Z.I 24 5 ha1 5 c 0 ?_
  refine Z.La [Z.n kA.k, Z.n kA.a, .string kA.nm, .int .i64 kA.n, .slice (As 0) kA.ks.length (cs 0)] 5 hc1 (Gx.Ext.wx hE ((((Gx.Wx.refl (e := 5) (wb := b) w hBw).ext x1).ext x2).trans x3) hw0B) ?_
  have zs2 := (J_size s1 tA).1
  (try simp only [zap, zli, List.length] at zs2)
  refine Z.k (fun R hR => h0 B b s1 _ R hbd1 (by omega) (Gx.Ext.wx hE ((((Gx.Wx.refl (e := 5) (wb := b) w hBw).ext x1).ext x2).trans x3) hw0B) hw0B (by omega) (fun w4 s2 hs2 x4 hbd2 => hR _ _ ?_))
  have zw4 := x4.size
  rw [← hs2] at zs2
  refine Z.e (Z.r [0, 1, 2] ?_)
  refine Z.p [0] [1, 2] [(57, Z.P b 0)] ?_
  refine Z.R (.cells #[.string Z.k49, .string Z.k18, .string Z.k22, .string Z.k1] 9) 4 4 (fun k3 w5 l3 x5 b3 zw5 tb3 => ?_)
  have zs3 : (putJ s2 [Z.k49, Z.k18, Z.k22, Z.k1]).size ≤ s2.size + (Z.k49.size + 1 + (Z.k18.size + 1 + (Z.k22.size + 1 + (Z.k1.size + 1 + 0)))) := putJ_bd [Z.k49, Z.k18, Z.k22, Z.k1] s2
  (try simp only [zap, zli, List.length] at zs3)
  refine Z.k (fun R hR => put_c B b s2 [Z.k49, Z.k18, Z.k22, Z.k1] k3 4 _ R (hbd2.ext x5) (by omega) b3 (by omega) (Nat.le_of_ble_eq_true rfl) (by omega) (fun w6 s3 hs3 x6 hbd3 => hR _ _ ?_))
  have zw6 := x6.size
  rw [← hs3] at zs3
  refine Z.e (Z.r [0, 1, 2, 3, 4] ?_)
  refine Z.p [0, 1] [2, 3, 4] [(61, .slice A 5 c), (60, Z.P b 0)] ?_
  obtain ⟨a2, ha2, hc2⟩ := hr 1 (by omega)
  refine Z.I 24 5 ha2 5 c 1 ?_
  refine Z.La [Z.n kB.k, Z.n kB.a, .string kB.nm, .int .i64 kB.n, .slice (As 1) kB.ks.length (cs 1)] 5 hc2 (Gx.Ext.wx hE (((((((Gx.Wx.refl (e := 5) (wb := b) w hBw).ext x1).ext x2).trans x3).trans x4).ext x5).trans x6) hw0B) ?_
  have zs4 := (J_size s3 tB).1
  (try simp only [zap, zli, List.length] at zs4)
  refine Z.k (fun R hR => h1 B b s3 _ R hbd3 (by omega) (Gx.Ext.wx hE (((((((Gx.Wx.refl (e := 5) (wb := b) w hBw).ext x1).ext x2).trans x3).trans x4).ext x5).trans x6) hw0B) hw0B (by omega) (fun w7 s4 hs4 x7 hbd4 => hR _ _ ?_))
  have zw7 := x7.size
  rw [← hs4] at zs4
  refine Z.e (wp_seq (Z.D (fun w' => Gx.Ext w0 w') (fun w8 x8 zw8 => ?_)))
  refine Z.h (Gx.Ext.wx hE (((((((((Gx.Wx.refl (e := 5) (wb := b) w hBw).ext x1).ext x2).trans x3).trans x4).ext x5).trans x6).trans x7).ext x8) hw0B) (fun hS1 => ?_)
  refine Z.t 0 (Z.P b 0) hS1 ?_
  refine Z.t 1 (.slice A 5 c) hS1 ?_
  obtain ⟨a3, ha3, hc3⟩ := hr 2 (by omega)
  refine Z.ti 2 24 5 ha3 5 c 2 hS1 ?_
  refine Z.tf 3 (a3.add (2 * 5)) 2 hS1 ?_
  refine Z.to 4 [.string uA.nm] (.string uA.nm) 1 (Gx.cells_sub hc3 2 1 rfl) (fun _ hs => hs) hS1 ?_
  refine Z.t 5 (.slice A 5 c) hS1 ?_
  obtain ⟨a4, ha4, hc4⟩ := hr 3 (by omega)
  refine Z.ti 6 24 5 ha4 5 c 3 hS1 ?_
  refine Z.tf 7 (a4.add (3 * 5)) 2 hS1 ?_
  refine Z.to 8 [.string uB.nm] (.string uB.nm) 1 (Gx.cells_sub hc4 2 1 rfl) (fun _ hs => hs) hS1 ?_
  refine Z.oR 9 (.cells #[.string Z.k24, .string uA.nm, .string Z.k9, .string uB.nm, .string Z.k1] 9) 5 5 (fun k4 w9 l4 x9 b4 => ⟨(Gx.Ext.wx hE ((((((((((Gx.Wx.refl (e := 5) (wb := b) w hBw).ext x1).ext x2).trans x3).trans x4).ext x5).trans x6).trans x7).ext x8).ext x9) hw0B), ?_⟩)
  have zw9 := x9.size
  have tb4 := b4.lt
  have zs5 : (putJ s4 [Z.k24, uA.nm, Z.k9, uB.nm, Z.k1]).size ≤ s4.size + (Z.k24.size + 1 + (uA.nm.size + 1 + (Z.k9.size + 1 + (uB.nm.size + 1 + (Z.k1.size + 1 + 0))))) := putJ_bd [Z.k24, uA.nm, Z.k9, uB.nm, Z.k1] s4
  (try simp only [zap, zli, List.length] at zs5)
  refine Z.o 10 (fun R hR => put_c B b s4 [Z.k24, uA.nm, Z.k9, uB.nm, Z.k1] k4 5 _ R ((hbd4.ext x8).ext x9) (by omega) b4 (by omega) (Nat.le_of_ble_eq_true rfl) (by omega) (fun w10 s5 hs5 x10 hbd5 => hR _ _ ⟨(Gx.Ext.wx hE (((((((((((Gx.Wx.refl (e := 5) (wb := b) w hBw).ext x1).ext x2).trans x3).trans x4).ext x5).trans x6).trans x7).ext x8).ext x9).trans x10) hw0B), fun hS2 => ?_⟩))
  have zw10 := x10.size
  rw [← hs5] at zs5
  refine Z.q ?_
  refine Z.x (Z.r [0, 1, 2, 3, 4] ?_)
  refine Z.p [0, 1] [2, 3, 4] [(77, .slice A 5 c), (76, Z.P b 0)] ?_
  obtain ⟨a5, ha5, hc5⟩ := hr 4 (by omega)
  refine Z.I 24 5 ha5 5 c 4 ?_
  refine Z.La [Z.n kC.k, Z.n kC.a, .string kC.nm, .int .i64 kC.n, .slice (As 4) kC.ks.length (cs 4)] 5 hc5 (Gx.Ext.wx hE (((((((((((Gx.Wx.refl (e := 5) (wb := b) w hBw).ext x1).ext x2).trans x3).trans x4).ext x5).trans x6).trans x7).ext x8).ext x9).trans x10) hw0B) ?_
  have zs6 := (J_size s5 tC).1
  (try simp only [zap, zli, List.length] at zs6)
  refine Z.k (fun R hR => h4 B b s5 _ R hbd5 (by omega) (Gx.Ext.wx hE (((((((((((Gx.Wx.refl (e := 5) (wb := b) w hBw).ext x1).ext x2).trans x3).trans x4).ext x5).trans x6).trans x7).ext x8).ext x9).trans x10) hw0B) hw0B (by omega) (fun w11 s6 hs6 x11 hbd6 => hR _ _ ?_))
  have zw11 := x11.size
  rw [← hs6] at zs6
  refine Z.e (Z.g [0, 1, 2] ?_)
  refine Z.p [0] [1, 2] [(81, Z.P b 0)] ?_
  refine Z.R (.cells #[.string Z.k50] 9) 1 1 (fun k5 w12 l5 x12 b5 zw12 tb5 => ?_)
  have zs7 : (putJ s6 [Z.k50]).size ≤ s6.size + (Z.k50.size + 1 + 0) := putJ_bd [Z.k50] s6
  (try simp only [zap, zli, List.length] at zs7)
  refine Z.k (fun R hR => put_c B b s6 [Z.k50] k5 1 _ R (hbd6.ext x12) (by omega) b5 (by omega) (Nat.le_of_ble_eq_true rfl) (by omega) (fun w13 s7 hs7 x13 hbd7 => hR _ _ ?_))
  have zw13 := x13.size
  rw [← hs7] at zs7
  refine Gx.ops_nil (Gx.block_normal (Gx.ret_n (Gx.res0 rfl) ?_))
  exact hK _ _ (by rw [hs7, hs6, hs5, hs4, hs3, hs2, hs1]; show putJ x [Z.k32, tA, Z.k49, Z.k18, Z.k22, Z.k1, tB, Z.k24, uA.nm, Z.k9, uB.nm, Z.k1, tC, Z.k50] = _; rw [putJ_join _ (by first | decide | omega | (simp only [zap, zli, List.length]; omega))]; exact congrArg (J x) (bl (by (try simp [joinS, l_app, Z.bd, Z.ed])))) ((((((((((((((Gx.Wx.refl (e := 5) (wb := b) w hBw).ext x1).ext x2).trans x3).trans x4).ext x5).trans x6).trans x7).ext x8).ext x9).trans x10).trans x11).ext x12).trans x13) hbd7
theorem more_18_1 (B b : Nat) (x : ByteArray) (w0 : World) (a : Nat) (nm : ByteArray) (n : Int) (kA kB : Nd) (A : Option Addr) (c : Nat) (As : Nat → Option Addr) (cs : Nat → Nat) (tA tB : ByteArray) (w : World) (K : Ending → World → Prop) (h : Bd w B b x) (hBw : B ≤ w.heap.size) (hE : Gx.Ext w0 w) (hw0B : w0.heap.size ≤ B) (hsz : x.size + ((((inT 2 kA tA ++ Z.k3) ++ nm) ++ Z.k3) ++ inT 2 kB tB).size ≤ 100000000000) (hr : Gx.Rd w0 A 2 5 (fun i => ndC ([kA, kB].getD i nd0) (As i) (cs i))) (h0 : POK w0 kA (As 0) (cs 0) tA) (o0 : Op5 kA) (p0 : 0 < tA.size) (h1 : POK w0 kB (As 1) (cs 1) tB) (o1 : Op5 kB) (p1 : 0 < tB.size) (ho : Op5 (.mk 18 a nm n [kA, kB])) (hl : lvl (.mk 18 a nm n [kA, kB]) = 1) (hm : 0 < nm.size) (hK : ∀ w' s', s' = J x ((((inT 2 kA tA ++ Z.k3) ++ nm) ++ Z.k3) ++ inT 2 kB tB) → Gx.Wx 5 B b w w' → Bd w' B b s' → K (.returned (.tuple #[])) w') :
    Calls Tryd.prog 41 #[Z.P b 0, .agg #[.int .i64 18, Z.n a, .string nm, .int .i64 n, .slice A 2 c]] w K := by
  refine Z.en 176 Tryd.func41 ?_
  have tbb : b < w.heap.size := by obtain ⟨_, _, hq, _⟩ := h; exact hq.lt
  have hB : B ≤ b := by obtain ⟨_, _, _, _, hq, _⟩ := h; exact hq
  have hq := hsz; (try simp only [zap, zli, List.length] at hq)
  have i0 := inT_le 2 kA tA; have i1 := inT_le 2 kB tB
  refine Z.r [0] ?_
  refine Z.N (.cells #[.int .i64 18, Z.n a, .string nm, .int .i64 n, .slice A 2 c] 24) (fun k1 w1 l1 x1 b1 zw1 tb1 => ?_)
  refine Z.e (Z.r [0, 1, 2] ?_)
  refine Z.p [0] [1, 2] [(8, Z.P k1 4)] ?_
  refine Z.L 4 (.slice A 2 c) b1 ?_
  refine Z.p [2] [] [(4, .slice A 2 c)] ?_
  refine Z.e (Z.r [0, 1] ?_)
  refine Z.p [0] [1] [(10, Z.P k1 0)] ?_
  refine Z.L 0 (.int .i64 18) b1 ?_
  refine Z.e (wp_block (Z.sf [(12, .bool false), (13, .bool false)] ?_))
  refine wp_seq (Z.sf [(23, .bool false), (24, .bool false)] ?_)
  refine Z.u [(23, .bool false), (25, .bool false)] ?_
  refine Z.x (Z.cf ?_)
  refine Z.sf [(37, .bool false), (38, .bool false)] ?_
  refine Z.sf [(42, .bool false), (43, .bool false)] ?_
  refine Z.sf [(47, .bool false), (48, .bool false)] ?_
  refine Z.st [(84, .bool true), (85, .bool true)] ?_
  refine Z.r [0, 1, 2] ?_
  refine Z.L 0 (.agg #[.int .i64 18, Z.n a, .string nm, .int .i64 n, .slice A 2 c]) b1 ?_
  refine Z.k (fun R hR => levelP_v (.mk 18 a nm n [kA, kB]) A c 1 _ R ho hl (fun w2 x2 => hR _ _ ?_))
  have zw2 := x2.size
  refine Z.p [2] [] [(5, .int .i64 1)] ?_
  refine Z.e (Z.st [(89, .bool true), (88, .int .i64 1)] ?_)
  refine Z.g [0, 1, 2, 3, 4] ?_
  refine Z.p [0] [1, 2, 3, 4] [(90, Z.P b 0)] ?_
  refine Z.L 0 (.agg #[.int .i64 18, Z.n a, .string nm, .int .i64 n, .slice A 2 c]) (b1.ext x2) ?_
  refine Z.p [2] [3, 4] [(92, Z.P k1 2)] ?_
  refine Z.L 2 (.string nm) (b1.ext x2) ?_
  have qI := inT_le 2 kA tA; have qJ := inT_le 2 kB tB
  have zs1 := (J_size x ((((inT 2 kA tA ++ Z.k3) ++ nm) ++ Z.k3) ++ inT 2 kB tB)).1
  (try simp only [zap, zli, List.length] at zs1)
  refine Z.k (fun R hR => infix_c B b x w0 18 a nm n kA kB A c As cs tA tB nm 2 2 _ R ((h.ext x1).ext x2) (by omega) (Gx.Ext.wx hE (((Gx.Wx.refl (e := 5) (wb := b) w hBw).ext x1).ext x2) hw0B) hw0B (by (try simp only [zap, zli, List.length]); omega) hr h0 h1 o0 o1 p0 p1 (by first | decide | omega) (fun w3 s1 hs1 x3 hbd1 => hR _ _ ?_))
  have zw3 := x3.size
  rw [← hs1] at zs1
  refine Gx.ops_nil (Gx.block_normal (Gx.ret_n (Gx.res0 rfl) ?_))
  exact hK _ _ (by rw [hs1]; (first | done | exact congrArg (J x) (bl (by (try simp [l_app, Z.bd, Z.ed]))))) ((((Gx.Wx.refl (e := 5) (wb := b) w hBw).ext x1).ext x2).trans x3) hbd1
theorem more_18_3 (B b : Nat) (x : ByteArray) (w0 : World) (a : Nat) (nm : ByteArray) (n : Int) (kA kB : Nd) (A : Option Addr) (c : Nat) (As : Nat → Option Addr) (cs : Nat → Nat) (tA tB : ByteArray) (w : World) (K : Ending → World → Prop) (h : Bd w B b x) (hBw : B ≤ w.heap.size) (hE : Gx.Ext w0 w) (hw0B : w0.heap.size ≤ B) (hsz : x.size + ((((inT 3 kA tA ++ Z.k3) ++ nm) ++ Z.k3) ++ inT 4 kB tB).size ≤ 100000000000) (hr : Gx.Rd w0 A 2 5 (fun i => ndC ([kA, kB].getD i nd0) (As i) (cs i))) (h0 : POK w0 kA (As 0) (cs 0) tA) (o0 : Op5 kA) (p0 : 0 < tA.size) (h1 : POK w0 kB (As 1) (cs 1) tB) (o1 : Op5 kB) (p1 : 0 < tB.size) (ho : Op5 (.mk 18 a nm n [kA, kB])) (hl : lvl (.mk 18 a nm n [kA, kB]) = 3) (hm : 0 < nm.size) (hK : ∀ w' s', s' = J x ((((inT 3 kA tA ++ Z.k3) ++ nm) ++ Z.k3) ++ inT 4 kB tB) → Gx.Wx 5 B b w w' → Bd w' B b s' → K (.returned (.tuple #[])) w') :
    Calls Tryd.prog 41 #[Z.P b 0, .agg #[.int .i64 18, Z.n a, .string nm, .int .i64 n, .slice A 2 c]] w K := by
  refine Z.en 176 Tryd.func41 ?_
  have tbb : b < w.heap.size := by obtain ⟨_, _, hq, _⟩ := h; exact hq.lt
  have hB : B ≤ b := by obtain ⟨_, _, _, _, hq, _⟩ := h; exact hq
  have hq := hsz; (try simp only [zap, zli, List.length] at hq)
  have i0 := inT_le 3 kA tA; have i1 := inT_le 4 kB tB
  refine Z.r [0] ?_
  refine Z.N (.cells #[.int .i64 18, Z.n a, .string nm, .int .i64 n, .slice A 2 c] 24) (fun k1 w1 l1 x1 b1 zw1 tb1 => ?_)
  refine Z.e (Z.r [0, 1, 2] ?_)
  refine Z.p [0] [1, 2] [(8, Z.P k1 4)] ?_
  refine Z.L 4 (.slice A 2 c) b1 ?_
  refine Z.p [2] [] [(4, .slice A 2 c)] ?_
  refine Z.e (Z.r [0, 1] ?_)
  refine Z.p [0] [1] [(10, Z.P k1 0)] ?_
  refine Z.L 0 (.int .i64 18) b1 ?_
  refine Z.e (wp_block (Z.sf [(12, .bool false), (13, .bool false)] ?_))
  refine wp_seq (Z.sf [(23, .bool false), (24, .bool false)] ?_)
  refine Z.u [(23, .bool false), (25, .bool false)] ?_
  refine Z.x (Z.cf ?_)
  refine Z.sf [(37, .bool false), (38, .bool false)] ?_
  refine Z.sf [(42, .bool false), (43, .bool false)] ?_
  refine Z.sf [(47, .bool false), (48, .bool false)] ?_
  refine Z.st [(84, .bool true), (85, .bool true)] ?_
  refine Z.r [0, 1, 2] ?_
  refine Z.L 0 (.agg #[.int .i64 18, Z.n a, .string nm, .int .i64 n, .slice A 2 c]) b1 ?_
  refine Z.k (fun R hR => levelP_v (.mk 18 a nm n [kA, kB]) A c 3 _ R ho hl (fun w2 x2 => hR _ _ ?_))
  have zw2 := x2.size
  refine Z.p [2] [] [(5, .int .i64 3)] ?_
  refine Z.e (Z.sf [(89, .bool false), (88, .int .i64 3)] ?_)
  refine Z.g [0, 1, 2, 3, 4, 5, 6, 7] ?_
  refine Z.p [0] [1, 2, 3, 4, 5, 6, 7] [(95, Z.P b 0)] ?_
  refine Z.L 0 (.agg #[.int .i64 18, Z.n a, .string nm, .int .i64 n, .slice A 2 c]) (b1.ext x2) ?_
  refine Z.p [2] [3, 4, 5, 6, 7] [(97, Z.P k1 2)] ?_
  refine Z.L 2 (.string nm) (b1.ext x2) ?_
  refine Z.p [4, 5, 6] [7] [(101, .int .i64 4), (100, .int .i64 3), (99, .int .i64 3)] ?_
  have qI := inT_le 3 kA tA; have qJ := inT_le 4 kB tB
  have zs1 := (J_size x ((((inT 3 kA tA ++ Z.k3) ++ nm) ++ Z.k3) ++ inT 4 kB tB)).1
  (try simp only [zap, zli, List.length] at zs1)
  refine Z.k (fun R hR => infix_c B b x w0 18 a nm n kA kB A c As cs tA tB nm 3 4 _ R ((h.ext x1).ext x2) (by omega) (Gx.Ext.wx hE (((Gx.Wx.refl (e := 5) (wb := b) w hBw).ext x1).ext x2) hw0B) hw0B (by (try simp only [zap, zli, List.length]); omega) hr h0 h1 o0 o1 p0 p1 (by first | decide | omega) (fun w3 s1 hs1 x3 hbd1 => hR _ _ ?_))
  have zw3 := x3.size
  rw [← hs1] at zs1
  refine Gx.ops_nil (Gx.block_normal (Gx.ret_n (Gx.res0 rfl) ?_))
  exact hK _ _ (by rw [hs1]; (first | done | exact congrArg (J x) (bl (by (try simp [l_app, Z.bd, Z.ed]))))) ((((Gx.Wx.refl (e := 5) (wb := b) w hBw).ext x1).ext x2).trans x3) hbd1
theorem more_18_4 (B b : Nat) (x : ByteArray) (w0 : World) (a : Nat) (nm : ByteArray) (n : Int) (kA kB : Nd) (A : Option Addr) (c : Nat) (As : Nat → Option Addr) (cs : Nat → Nat) (tA tB : ByteArray) (w : World) (K : Ending → World → Prop) (h : Bd w B b x) (hBw : B ≤ w.heap.size) (hE : Gx.Ext w0 w) (hw0B : w0.heap.size ≤ B) (hsz : x.size + ((((inT 4 kA tA ++ Z.k3) ++ nm) ++ Z.k3) ++ inT 5 kB tB).size ≤ 100000000000) (hr : Gx.Rd w0 A 2 5 (fun i => ndC ([kA, kB].getD i nd0) (As i) (cs i))) (h0 : POK w0 kA (As 0) (cs 0) tA) (o0 : Op5 kA) (p0 : 0 < tA.size) (h1 : POK w0 kB (As 1) (cs 1) tB) (o1 : Op5 kB) (p1 : 0 < tB.size) (ho : Op5 (.mk 18 a nm n [kA, kB])) (hl : lvl (.mk 18 a nm n [kA, kB]) = 4) (hm : 0 < nm.size) (hK : ∀ w' s', s' = J x ((((inT 4 kA tA ++ Z.k3) ++ nm) ++ Z.k3) ++ inT 5 kB tB) → Gx.Wx 5 B b w w' → Bd w' B b s' → K (.returned (.tuple #[])) w') :
    Calls Tryd.prog 41 #[Z.P b 0, .agg #[.int .i64 18, Z.n a, .string nm, .int .i64 n, .slice A 2 c]] w K := by
  refine Z.en 176 Tryd.func41 ?_
  have tbb : b < w.heap.size := by obtain ⟨_, _, hq, _⟩ := h; exact hq.lt
  have hB : B ≤ b := by obtain ⟨_, _, _, _, hq, _⟩ := h; exact hq
  have hq := hsz; (try simp only [zap, zli, List.length] at hq)
  have i0 := inT_le 4 kA tA; have i1 := inT_le 5 kB tB
  refine Z.r [0] ?_
  refine Z.N (.cells #[.int .i64 18, Z.n a, .string nm, .int .i64 n, .slice A 2 c] 24) (fun k1 w1 l1 x1 b1 zw1 tb1 => ?_)
  refine Z.e (Z.r [0, 1, 2] ?_)
  refine Z.p [0] [1, 2] [(8, Z.P k1 4)] ?_
  refine Z.L 4 (.slice A 2 c) b1 ?_
  refine Z.p [2] [] [(4, .slice A 2 c)] ?_
  refine Z.e (Z.r [0, 1] ?_)
  refine Z.p [0] [1] [(10, Z.P k1 0)] ?_
  refine Z.L 0 (.int .i64 18) b1 ?_
  refine Z.e (wp_block (Z.sf [(12, .bool false), (13, .bool false)] ?_))
  refine wp_seq (Z.sf [(23, .bool false), (24, .bool false)] ?_)
  refine Z.u [(23, .bool false), (25, .bool false)] ?_
  refine Z.x (Z.cf ?_)
  refine Z.sf [(37, .bool false), (38, .bool false)] ?_
  refine Z.sf [(42, .bool false), (43, .bool false)] ?_
  refine Z.sf [(47, .bool false), (48, .bool false)] ?_
  refine Z.st [(84, .bool true), (85, .bool true)] ?_
  refine Z.r [0, 1, 2] ?_
  refine Z.L 0 (.agg #[.int .i64 18, Z.n a, .string nm, .int .i64 n, .slice A 2 c]) b1 ?_
  refine Z.k (fun R hR => levelP_v (.mk 18 a nm n [kA, kB]) A c 4 _ R ho hl (fun w2 x2 => hR _ _ ?_))
  have zw2 := x2.size
  refine Z.p [2] [] [(5, .int .i64 4)] ?_
  refine Z.e (Z.sf [(89, .bool false), (88, .int .i64 4)] ?_)
  refine Z.g [0, 1, 2, 3, 4, 5, 6, 7] ?_
  refine Z.p [0] [1, 2, 3, 4, 5, 6, 7] [(95, Z.P b 0)] ?_
  refine Z.L 0 (.agg #[.int .i64 18, Z.n a, .string nm, .int .i64 n, .slice A 2 c]) (b1.ext x2) ?_
  refine Z.p [2] [3, 4, 5, 6, 7] [(97, Z.P k1 2)] ?_
  refine Z.L 2 (.string nm) (b1.ext x2) ?_
  refine Z.p [4, 5, 6] [7] [(101, .int .i64 5), (100, .int .i64 4), (99, .int .i64 4)] ?_
  have qI := inT_le 4 kA tA; have qJ := inT_le 5 kB tB
  have zs1 := (J_size x ((((inT 4 kA tA ++ Z.k3) ++ nm) ++ Z.k3) ++ inT 5 kB tB)).1
  (try simp only [zap, zli, List.length] at zs1)
  refine Z.k (fun R hR => infix_c B b x w0 18 a nm n kA kB A c As cs tA tB nm 4 5 _ R ((h.ext x1).ext x2) (by omega) (Gx.Ext.wx hE (((Gx.Wx.refl (e := 5) (wb := b) w hBw).ext x1).ext x2) hw0B) hw0B (by (try simp only [zap, zli, List.length]); omega) hr h0 h1 o0 o1 p0 p1 (by first | decide | omega) (fun w3 s1 hs1 x3 hbd1 => hR _ _ ?_))
  have zw3 := x3.size
  rw [← hs1] at zs1
  refine Gx.ops_nil (Gx.block_normal (Gx.ret_n (Gx.res0 rfl) ?_))
  exact hK _ _ (by rw [hs1]; (first | done | exact congrArg (J x) (bl (by (try simp [l_app, Z.bd, Z.ed]))))) ((((Gx.Wx.refl (e := 5) (wb := b) w hBw).ext x1).ext x2).trans x3) hbd1
theorem more_19 (B b : Nat) (x : ByteArray) (w0 : World) (a : Nat) (nm : ByteArray) (n : Int) (kA : Nd) (A : Option Addr) (c : Nat) (As : Nat → Option Addr) (cs : Nat → Nat) (tA : ByteArray) (w : World) (K : Ending → World → Prop) (h : Bd w B b x) (hBw : B ≤ w.heap.size) (hE : Gx.Ext w0 w) (hw0B : w0.heap.size ≤ B) (hsz : x.size + ((((Z.B [100, 111, 32]) ++ nm) ++ Z.k3) ++ inT 6 kA tA).size ≤ 100000000000) (hr : Gx.Rd w0 A 1 5 (fun i => ndC ([kA].getD i nd0) (As i) (cs i))) (h0 : POK w0 kA (As 0) (cs 0) tA) (o0 : Op5 kA) (p0 : 0 < tA.size) (hm : 0 < nm.size) (hK : ∀ w' s', s' = J x ((((Z.B [100, 111, 32]) ++ nm) ++ Z.k3) ++ inT 6 kA tA) → Gx.Wx 5 B b w w' → Bd w' B b s' → K (.returned (.tuple #[])) w') :
    Calls Tryd.prog 41 #[Z.P b 0, .agg #[.int .i64 19, Z.n a, .string nm, .int .i64 n, .slice A 1 c]] w K := by
  refine Z.en 176 Tryd.func41 ?_
  have tbb : b < w.heap.size := by obtain ⟨_, _, hq, _⟩ := h; exact hq.lt
  have hB : B ≤ b := by obtain ⟨_, _, _, _, hq, _⟩ := h; exact hq
  have hq := hsz; (try simp only [zap, zli, List.length] at hq)
  have i0 := inT_le 6 kA tA
  refine Z.r [0] ?_
  refine Z.N (.cells #[.int .i64 19, Z.n a, .string nm, .int .i64 n, .slice A 1 c] 24) (fun k1 w1 l1 x1 b1 zw1 tb1 => ?_)
  refine Z.e (Z.r [0, 1, 2] ?_)
  refine Z.p [0] [1, 2] [(8, Z.P k1 4)] ?_
  refine Z.L 4 (.slice A 1 c) b1 ?_
  refine Z.p [2] [] [(4, .slice A 1 c)] ?_
  refine Z.e (Z.r [0, 1] ?_)
  refine Z.p [0] [1] [(10, Z.P k1 0)] ?_
  refine Z.L 0 (.int .i64 19) b1 ?_
  refine Z.e (wp_block (Z.sf [(12, .bool false), (13, .bool false)] ?_))
  refine wp_seq (Z.sf [(23, .bool false), (24, .bool false)] ?_)
  refine Z.u [(23, .bool false), (25, .bool false)] ?_
  refine Z.x (Z.cf ?_)
  refine Z.sf [(37, .bool false), (38, .bool false)] ?_
  refine Z.sf [(42, .bool false), (43, .bool false)] ?_
  refine Z.sf [(47, .bool false), (48, .bool false)] ?_
  refine Z.sf [(84, .bool false), (85, .bool false)] ?_
  refine Z.st [(103, .bool true), (104, .bool true)] ?_
  refine Z.r [0, 1, 2, 3, 4] ?_
  refine Z.p [0, 1] [2, 3, 4] [(106, Z.P k1 2), (105, Z.P b 0)] ?_
  refine Z.L 2 (.string nm) b1 ?_
  refine Z.R (.cells #[.string Z.k38, .string nm] 9) 2 2 (fun k2 w2 l2 x2 b2 zw2 tb2 => ?_)
  have zs1 : (putJ x [Z.k38, nm]).size ≤ x.size + (Z.k38.size + 1 + (nm.size + 1 + 0)) := putJ_bd [Z.k38, nm] x
  (try simp only [zap, zli, List.length] at zs1)
  refine Z.k (fun R hR => put_c B b x [Z.k38, nm] k2 2 _ R ((h.ext x1).ext x2) (by omega) b2 (by omega) (Nat.le_of_ble_eq_true rfl) (by omega) (fun w3 s1 hs1 x3 hbd1 => hR _ _ ?_))
  have zw3 := x3.size
  rw [← hs1] at zs1
  refine Z.e (Z.g [0, 1, 2, 3, 4] ?_)
  refine Z.p [0, 1] [2, 3, 4] [(111, .slice A 1 c), (110, Z.P b 0)] ?_
  obtain ⟨a1, ha1, hc1⟩ := hr 0 (by omega)
  refine Z.I 24 5 ha1 1 c 0 ?_
  refine Z.La [Z.n kA.k, Z.n kA.a, .string kA.nm, .int .i64 kA.n, .slice (As 0) kA.ks.length (cs 0)] 5 hc1 (Gx.Ext.wx hE ((((Gx.Wx.refl (e := 5) (wb := b) w hBw).ext x1).ext x2).trans x3) hw0B) ?_
  have zs2 := (J_size s1 (inT 6 kA tA)).1
  (try simp only [zap, zli, List.length] at zs2)
  refine Z.k (fun R hR => kid_c B b s1 w0 kA (As 0) (cs 0) tA 6 _ R hbd1 (by omega) (Gx.Ext.wx hE ((((Gx.Wx.refl (e := 5) (wb := b) w hBw).ext x1).ext x2).trans x3) hw0B) hw0B (by omega) h0 o0 (fun w4 s2 hs2 x4 hbd2 => hR _ _ ?_))
  have zw4 := x4.size
  rw [← hs2] at zs2
  refine Gx.ops_nil (Gx.block_normal (Gx.ret_n (Gx.res0 rfl) ?_))
  exact hK _ _ (by rw [hs2, hs1]; show putJ x [Z.k38, nm, inT 6 kA tA] = _; rw [putJ_join _ (by first | decide | omega | (simp only [zap, zli, List.length]; omega))]; exact congrArg (J x) (bl (by (try simp [joinS, l_app, Z.bd, Z.ed])))) (((((Gx.Wx.refl (e := 5) (wb := b) w hBw).ext x1).ext x2).trans x3).trans x4) hbd2
theorem typ_24 (B b : Nat) (x : ByteArray) (w0 : World) (a : Nat) (nm : ByteArray) (n : Int) (A : Option Addr) (c : Nat) (As : Nat → Option Addr) (cs : Nat → Nat) (w : World) (K : Ending → World → Prop) (h : Bd w B b x) (hBw : B ≤ w.heap.size) (hE : Gx.Ext w0 w) (hw0B : w0.heap.size ≤ B) (hsz : x.size + (Z.k23).size ≤ 100000000000) (hK : ∀ w' s', s' = J x (Z.k23) → Gx.Wx 5 B b w w' → Bd w' B b s' → K (.returned (.tuple #[])) w') :
    Calls Tryd.prog 40 #[Z.P b 0, .agg #[.int .i64 24, Z.n a, .string nm, .int .i64 n, .slice A 0 c]] w K := by
  refine Z.en 79 Tryd.func40 ?_
  have tbb : b < w.heap.size := by obtain ⟨_, _, hq, _⟩ := h; exact hq.lt
  have hB : B ≤ b := by obtain ⟨_, _, _, _, hq, _⟩ := h; exact hq
  have hq := hsz; (try simp only [zap, zli, List.length] at hq)
  refine Z.r [0] ?_
  refine Z.N (.cells #[.int .i64 24, Z.n a, .string nm, .int .i64 n, .slice A 0 c] 24) (fun k1 w1 l1 x1 b1 zw1 tb1 => ?_)
  refine Z.e (Z.r [0, 1, 2] ?_)
  refine Z.p [0] [1, 2] [(7, Z.P k1 4)] ?_
  refine Z.L 4 (.slice A 0 c) b1 ?_
  refine Z.p [2] [] [(4, .slice A 0 c)] ?_
  refine Z.e (Z.r [0, 1] ?_)
  refine Z.p [0] [1] [(9, Z.P k1 0)] ?_
  refine Z.L 0 (.int .i64 24) b1 ?_
  refine Z.e (wp_block (wp_seq (Z.st [(11, .bool true), (12, .bool true)] ?_)))
  refine wp_skip (Z.x (Z.ct ?_))
  refine Z.g [0, 1, 2, 3, 4, 5] ?_
  refine Z.p [0, 1] [2, 3, 4, 5] [(16, Z.P k1 0), (15, Z.P b 0)] ?_
  refine Z.L 0 (.int .i64 24) b1 ?_
  refine Z.k (fun R hR => word_24 _ R (fun w2 x2 => hR _ _ ?_))
  have zw2 := x2.size
  refine Z.R (.cells #[.string Z.k23] 9) 1 1 (fun k2 w3 l2 x3 b2 zw3 tb2 => ?_)
  have zs1 : (putJ x [Z.k23]).size ≤ x.size + (Z.k23.size + 1 + 0) := putJ_bd [Z.k23] x
  (try simp only [zap, zli, List.length] at zs1)
  refine Z.k (fun R hR => put_c B b x [Z.k23] k2 1 _ R (((h.ext x1).ext x2).ext x3) (by omega) b2 (by omega) (Nat.le_of_ble_eq_true rfl) (by omega) (fun w4 s1 hs1 x4 hbd1 => hR _ _ ?_))
  have zw4 := x4.size
  rw [← hs1] at zs1
  refine Gx.ops_nil (Gx.block_normal (Gx.ret_n (Gx.res0 rfl) ?_))
  exact hK _ _ (by rw [hs1]; (first | done | exact congrArg (J x) (bl (by (try simp [l_app, Z.bd, Z.ed]))))) (((((Gx.Wx.refl (e := 5) (wb := b) w hBw).ext x1).ext x2).ext x3).trans x4) hbd1
theorem typ_25 (B b : Nat) (x : ByteArray) (w0 : World) (a : Nat) (nm : ByteArray) (n : Int) (A : Option Addr) (c : Nat) (As : Nat → Option Addr) (cs : Nat → Nat) (w : World) (K : Ending → World → Prop) (h : Bd w B b x) (hBw : B ≤ w.heap.size) (hE : Gx.Ext w0 w) (hw0B : w0.heap.size ≤ B) (hsz : x.size + (Z.k26).size ≤ 100000000000) (hK : ∀ w' s', s' = J x (Z.k26) → Gx.Wx 5 B b w w' → Bd w' B b s' → K (.returned (.tuple #[])) w') :
    Calls Tryd.prog 40 #[Z.P b 0, .agg #[.int .i64 25, Z.n a, .string nm, .int .i64 n, .slice A 0 c]] w K := by
  refine Z.en 79 Tryd.func40 ?_
  have tbb : b < w.heap.size := by obtain ⟨_, _, hq, _⟩ := h; exact hq.lt
  have hB : B ≤ b := by obtain ⟨_, _, _, _, hq, _⟩ := h; exact hq
  have hq := hsz; (try simp only [zap, zli, List.length] at hq)
  refine Z.r [0] ?_
  refine Z.N (.cells #[.int .i64 25, Z.n a, .string nm, .int .i64 n, .slice A 0 c] 24) (fun k1 w1 l1 x1 b1 zw1 tb1 => ?_)
  refine Z.e (Z.r [0, 1, 2] ?_)
  refine Z.p [0] [1, 2] [(7, Z.P k1 4)] ?_
  refine Z.L 4 (.slice A 0 c) b1 ?_
  refine Z.p [2] [] [(4, .slice A 0 c)] ?_
  refine Z.e (Z.r [0, 1] ?_)
  refine Z.p [0] [1] [(9, Z.P k1 0)] ?_
  refine Z.L 0 (.int .i64 25) b1 ?_
  refine Z.e (wp_block (wp_seq (Z.sf [(11, .bool false), (12, .bool false)] ?_)))
  refine Z.st [(11, .bool true), (13, .bool true)] ?_
  refine wp_skip (Z.x (Z.ct ?_))
  refine Z.g [0, 1, 2, 3, 4, 5] ?_
  refine Z.p [0, 1] [2, 3, 4, 5] [(16, Z.P k1 0), (15, Z.P b 0)] ?_
  refine Z.L 0 (.int .i64 25) b1 ?_
  refine Z.k (fun R hR => word_25 _ R (fun w2 x2 => hR _ _ ?_))
  have zw2 := x2.size
  refine Z.R (.cells #[.string Z.k26] 9) 1 1 (fun k2 w3 l2 x3 b2 zw3 tb2 => ?_)
  have zs1 : (putJ x [Z.k26]).size ≤ x.size + (Z.k26.size + 1 + 0) := putJ_bd [Z.k26] x
  (try simp only [zap, zli, List.length] at zs1)
  refine Z.k (fun R hR => put_c B b x [Z.k26] k2 1 _ R (((h.ext x1).ext x2).ext x3) (by omega) b2 (by omega) (Nat.le_of_ble_eq_true rfl) (by omega) (fun w4 s1 hs1 x4 hbd1 => hR _ _ ?_))
  have zw4 := x4.size
  rw [← hs1] at zs1
  refine Gx.ops_nil (Gx.block_normal (Gx.ret_n (Gx.res0 rfl) ?_))
  exact hK _ _ (by rw [hs1]; (first | done | exact congrArg (J x) (bl (by (try simp [l_app, Z.bd, Z.ed]))))) (((((Gx.Wx.refl (e := 5) (wb := b) w hBw).ext x1).ext x2).ext x3).trans x4) hbd1
theorem typ_26 (B b : Nat) (x : ByteArray) (w0 : World) (a : Nat) (nm : ByteArray) (n : Int) (A : Option Addr) (c : Nat) (As : Nat → Option Addr) (cs : Nat → Nat) (w : World) (K : Ending → World → Prop) (h : Bd w B b x) (hBw : B ≤ w.heap.size) (hE : Gx.Ext w0 w) (hw0B : w0.heap.size ≤ B) (hsz : x.size + (Z.k31).size ≤ 100000000000) (hK : ∀ w' s', s' = J x (Z.k31) → Gx.Wx 5 B b w w' → Bd w' B b s' → K (.returned (.tuple #[])) w') :
    Calls Tryd.prog 40 #[Z.P b 0, .agg #[.int .i64 26, Z.n a, .string nm, .int .i64 n, .slice A 0 c]] w K := by
  refine Z.en 79 Tryd.func40 ?_
  have tbb : b < w.heap.size := by obtain ⟨_, _, hq, _⟩ := h; exact hq.lt
  have hB : B ≤ b := by obtain ⟨_, _, _, _, hq, _⟩ := h; exact hq
  have hq := hsz; (try simp only [zap, zli, List.length] at hq)
  refine Z.r [0] ?_
  refine Z.N (.cells #[.int .i64 26, Z.n a, .string nm, .int .i64 n, .slice A 0 c] 24) (fun k1 w1 l1 x1 b1 zw1 tb1 => ?_)
  refine Z.e (Z.r [0, 1, 2] ?_)
  refine Z.p [0] [1, 2] [(7, Z.P k1 4)] ?_
  refine Z.L 4 (.slice A 0 c) b1 ?_
  refine Z.p [2] [] [(4, .slice A 0 c)] ?_
  refine Z.e (Z.r [0, 1] ?_)
  refine Z.p [0] [1] [(9, Z.P k1 0)] ?_
  refine Z.L 0 (.int .i64 26) b1 ?_
  refine Z.e (wp_block (wp_seq (Z.sf [(11, .bool false), (12, .bool false)] ?_)))
  refine Z.sf [(11, .bool false), (13, .bool false)] ?_
  refine Z.u [(11, .bool true), (14, .bool true)] ?_
  refine Z.x (Z.ct ?_)
  refine Z.g [0, 1, 2, 3, 4, 5] ?_
  refine Z.p [0, 1] [2, 3, 4, 5] [(16, Z.P k1 0), (15, Z.P b 0)] ?_
  refine Z.L 0 (.int .i64 26) b1 ?_
  refine Z.k (fun R hR => word_26 _ R (fun w2 x2 => hR _ _ ?_))
  have zw2 := x2.size
  refine Z.R (.cells #[.string Z.k31] 9) 1 1 (fun k2 w3 l2 x3 b2 zw3 tb2 => ?_)
  have zs1 : (putJ x [Z.k31]).size ≤ x.size + (Z.k31.size + 1 + 0) := putJ_bd [Z.k31] x
  (try simp only [zap, zli, List.length] at zs1)
  refine Z.k (fun R hR => put_c B b x [Z.k31] k2 1 _ R (((h.ext x1).ext x2).ext x3) (by omega) b2 (by omega) (Nat.le_of_ble_eq_true rfl) (by omega) (fun w4 s1 hs1 x4 hbd1 => hR _ _ ?_))
  have zw4 := x4.size
  rw [← hs1] at zs1
  refine Gx.ops_nil (Gx.block_normal (Gx.ret_n (Gx.res0 rfl) ?_))
  exact hK _ _ (by rw [hs1]; (first | done | exact congrArg (J x) (bl (by (try simp [l_app, Z.bd, Z.ed]))))) (((((Gx.Wx.refl (e := 5) (wb := b) w hBw).ext x1).ext x2).ext x3).trans x4) hbd1
theorem typ_27 (B b : Nat) (x : ByteArray) (w0 : World) (a : Nat) (nm : ByteArray) (n : Int) (kA : Nd) (A : Option Addr) (c : Nat) (As : Nat → Option Addr) (cs : Nat → Nat) (tA : ByteArray) (w : World) (K : Ending → World → Prop) (h : Bd w B b x) (hBw : B ≤ w.heap.size) (hE : Gx.Ext w0 w) (hw0B : w0.heap.size ≤ B) (hsz : x.size + (inT 2 kA tA ++ Z.k66).size ≤ 100000000000) (hr : Gx.Rd w0 A 1 5 (fun i => ndC ([kA].getD i nd0) (As i) (cs i))) (h0 : POK w0 kA (As 0) (cs 0) tA) (o0 : Op5 kA) (p0 : 0 < tA.size) (hK : ∀ w' s', s' = J x (inT 2 kA tA ++ Z.k66) → Gx.Wx 5 B b w w' → Bd w' B b s' → K (.returned (.tuple #[])) w') :
    Calls Tryd.prog 40 #[Z.P b 0, .agg #[.int .i64 27, Z.n a, .string nm, .int .i64 n, .slice A 1 c]] w K := by
  refine Z.en 79 Tryd.func40 ?_
  have tbb : b < w.heap.size := by obtain ⟨_, _, hq, _⟩ := h; exact hq.lt
  have hB : B ≤ b := by obtain ⟨_, _, _, _, hq, _⟩ := h; exact hq
  have hq := hsz; (try simp only [zap, zli, List.length] at hq)
  have i0 := inT_le 2 kA tA
  refine Z.r [0] ?_
  refine Z.N (.cells #[.int .i64 27, Z.n a, .string nm, .int .i64 n, .slice A 1 c] 24) (fun k1 w1 l1 x1 b1 zw1 tb1 => ?_)
  refine Z.e (Z.r [0, 1, 2] ?_)
  refine Z.p [0] [1, 2] [(7, Z.P k1 4)] ?_
  refine Z.L 4 (.slice A 1 c) b1 ?_
  refine Z.p [2] [] [(4, .slice A 1 c)] ?_
  refine Z.e (Z.r [0, 1] ?_)
  refine Z.p [0] [1] [(9, Z.P k1 0)] ?_
  refine Z.L 0 (.int .i64 27) b1 ?_
  refine Z.e (wp_block (wp_seq (Z.sf [(11, .bool false), (12, .bool false)] ?_)))
  refine Z.sf [(11, .bool false), (13, .bool false)] ?_
  refine Z.u [(11, .bool false), (14, .bool false)] ?_
  refine Z.x (Z.cf ?_)
  refine Z.st [(21, .bool true), (22, .bool true)] ?_
  refine Z.r [0, 1, 2, 3, 4] ?_
  refine Z.p [0, 1] [2, 3, 4] [(24, .slice A 1 c), (23, Z.P b 0)] ?_
  obtain ⟨a1, ha1, hc1⟩ := hr 0 (by omega)
  refine Z.I 24 5 ha1 1 c 0 ?_
  refine Z.La [Z.n kA.k, Z.n kA.a, .string kA.nm, .int .i64 kA.n, .slice (As 0) kA.ks.length (cs 0)] 5 hc1 (Gx.Ext.wx hE ((Gx.Wx.refl (e := 5) (wb := b) w hBw).ext x1) hw0B) ?_
  have zs1 := (J_size x (inT 2 kA tA)).1
  (try simp only [zap, zli, List.length] at zs1)
  refine Z.k (fun R hR => kid_c B b x w0 kA (As 0) (cs 0) tA 2 _ R (h.ext x1) (by omega) (Gx.Ext.wx hE ((Gx.Wx.refl (e := 5) (wb := b) w hBw).ext x1) hw0B) hw0B (by omega) h0 o0 (fun w2 s1 hs1 x2 hbd1 => hR _ _ ?_))
  have zw2 := x2.size
  rw [← hs1] at zs1
  refine Z.e (Z.g [0, 1, 2] ?_)
  refine Z.p [0] [1, 2] [(28, Z.P b 0)] ?_
  refine Z.R (.cells #[.string Z.k41] 9) 1 1 (fun k2 w3 l2 x3 b2 zw3 tb2 => ?_)
  have zs2 : (putJ s1 [Z.k41]).size ≤ s1.size + (Z.k41.size + 1 + 0) := putJ_bd [Z.k41] s1
  (try simp only [zap, zli, List.length] at zs2)
  refine Z.k (fun R hR => put_c B b s1 [Z.k41] k2 1 _ R (hbd1.ext x3) (by omega) b2 (by omega) (Nat.le_of_ble_eq_true rfl) (by omega) (fun w4 s2 hs2 x4 hbd2 => hR _ _ ?_))
  have zw4 := x4.size
  rw [← hs2] at zs2
  refine Gx.ops_nil (Gx.block_normal (Gx.ret_n (Gx.res0 rfl) ?_))
  exact hK _ _ (by rw [hs2, hs1]; show putJ x [inT 2 kA tA, Z.k41] = _; rw [putJ_join _ (by first | decide | omega | (simp only [zap, zli, List.length]; omega))]; exact congrArg (J x) (bl (by (try simp [joinS, l_app, Z.bd, Z.ed])))) (((((Gx.Wx.refl (e := 5) (wb := b) w hBw).ext x1).trans x2).ext x3).trans x4) hbd2
theorem typ_28 (B b : Nat) (x : ByteArray) (w0 : World) (a : Nat) (nm : ByteArray) (n : Int) (kA kB : Nd) (A : Option Addr) (c : Nat) (As : Nat → Option Addr) (cs : Nat → Nat) (tA tB : ByteArray) (w : World) (K : Ending → World → Prop) (h : Bd w B b x) (hBw : B ≤ w.heap.size) (hE : Gx.Ext w0 w) (hw0B : w0.heap.size ≤ B) (hsz : x.size + ((inT 2 kA tA ++ (Z.B [32, 42, 32])) ++ inT 1 kB tB).size ≤ 100000000000) (hr : Gx.Rd w0 A 2 5 (fun i => ndC ([kA, kB].getD i nd0) (As i) (cs i))) (h0 : POK w0 kA (As 0) (cs 0) tA) (o0 : Op5 kA) (p0 : 0 < tA.size) (h1 : POK w0 kB (As 1) (cs 1) tB) (o1 : Op5 kB) (p1 : 0 < tB.size) (hK : ∀ w' s', s' = J x ((inT 2 kA tA ++ (Z.B [32, 42, 32])) ++ inT 1 kB tB) → Gx.Wx 5 B b w w' → Bd w' B b s' → K (.returned (.tuple #[])) w') :
    Calls Tryd.prog 40 #[Z.P b 0, .agg #[.int .i64 28, Z.n a, .string nm, .int .i64 n, .slice A 2 c]] w K := by
  refine Z.en 79 Tryd.func40 ?_
  have tbb : b < w.heap.size := by obtain ⟨_, _, hq, _⟩ := h; exact hq.lt
  have hB : B ≤ b := by obtain ⟨_, _, _, _, hq, _⟩ := h; exact hq
  have hq := hsz; (try simp only [zap, zli, List.length] at hq)
  have i0 := inT_le 2 kA tA; have i1 := inT_le 1 kB tB
  refine Z.r [0] ?_
  refine Z.N (.cells #[.int .i64 28, Z.n a, .string nm, .int .i64 n, .slice A 2 c] 24) (fun k1 w1 l1 x1 b1 zw1 tb1 => ?_)
  refine Z.e (Z.r [0, 1, 2] ?_)
  refine Z.p [0] [1, 2] [(7, Z.P k1 4)] ?_
  refine Z.L 4 (.slice A 2 c) b1 ?_
  refine Z.p [2] [] [(4, .slice A 2 c)] ?_
  refine Z.e (Z.r [0, 1] ?_)
  refine Z.p [0] [1] [(9, Z.P k1 0)] ?_
  refine Z.L 0 (.int .i64 28) b1 ?_
  refine Z.e (wp_block (wp_seq (Z.sf [(11, .bool false), (12, .bool false)] ?_)))
  refine Z.sf [(11, .bool false), (13, .bool false)] ?_
  refine Z.u [(11, .bool false), (14, .bool false)] ?_
  refine Z.x (Z.cf ?_)
  refine Z.sf [(21, .bool false), (22, .bool false)] ?_
  refine Z.st [(31, .bool true), (32, .bool true)] ?_
  refine Z.g [0, 1, 2] ?_
  refine Z.p [0] [1, 2] [(33, Z.P b 0)] ?_
  refine Z.L 0 (.agg #[.int .i64 28, Z.n a, .string nm, .int .i64 n, .slice A 2 c]) b1 ?_
  have qI := inT_le 2 kA tA; have qJ := inT_le 1 kB tB
  have zs1 := (J_size x ((((inT 2 kA tA ++ Z.k3) ++ Z.k6) ++ Z.k3) ++ inT 1 kB tB)).1
  (try simp only [zap, zli, List.length] at zs1)
  refine Z.k (fun R hR => infix_c B b x w0 28 a nm n kA kB A c As cs tA tB Z.k6 2 1 _ R (h.ext x1) (by omega) (Gx.Ext.wx hE ((Gx.Wx.refl (e := 5) (wb := b) w hBw).ext x1) hw0B) hw0B (by (try simp only [zap, zli, List.length]); omega) hr h0 h1 o0 o1 p0 p1 (by first | decide | omega) (fun w2 s1 hs1 x2 hbd1 => hR _ _ ?_))
  have zw2 := x2.size
  rw [← hs1] at zs1
  refine Gx.ops_nil (Gx.block_normal (Gx.ret_n (Gx.res0 rfl) ?_))
  exact hK _ _ (by rw [hs1]; (first | done | exact congrArg (J x) (bl (by (try simp [l_app, Z.bd, Z.ed]))))) (((Gx.Wx.refl (e := 5) (wb := b) w hBw).ext x1).trans x2) hbd1
end Go.Proofs.YtinilkomfggjiaaDoor
