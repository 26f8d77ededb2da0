/- The walks, written by a program of ours (wip/gx/gx.py, writegen.py). -/
import Derived.Test.YtinilkomfggjiaaDoorRows
import Derived.Test.YtinilkomfggjiaaDoorGs
import Derived.Test.YtinilkomfggjiaaDoorSynWr
import Derived.Test.YtinilkomfggjiaaDoorWrWalks3
set_option linter.unusedVariables false
set_option linter.unusedSimpArgs false
namespace Go.Proofs.YtinilkomfggjiaaDoor
open Go.RowKit Go.Lex Go.Syn
open Go.Show (digB e0 dig_small dig_step app_e0 app_assoc)
attribute [local irreducible] Go.wpOps Go.Code.wp Go.wpOp Go.wpAnyH Go.Calls
set_option maxHeartbeats 1000000 in
set_option maxRecDepth 10000 in
theorem arrow_c (w0 : World) (a : Nat) (nm : ByteArray) (n : Int) (x y : Nd) (ps : List Nd) (A : Option Addr) (c : Nat) (As : Nat → Option Addr) (cs : Nat → Nat) (sx sy : ByteArray) (w : World) (K : Ending → World → Prop) (hE : Gx.Ext w0 w) (hr : Gx.Rd w0 A (ps.length + 2) 5 (fun i => ndC ((x :: y :: ps).getD i nd0) (As i) (cs i))) (h0 : WOK w0 x (As 0) (cs 0) sx) (h1 : WOK w0 y (As 1) (cs 1) sy) (hps : ps.length ≤ 400000010) (hsz : ((inT 1 x sx ++ arrT ps) ++ sy).size ≤ 400000000) (hK : ∀ w', Gx.Ext w w' → K (.returned (.string ((inT 1 x sx ++ arrT ps) ++ sy))) w') :
    Calls Tryd.prog 24 #[.agg #[.int .i64 29, Z.n a, .string nm, .int .i64 n, .slice A (ps.length + 2) c]] w K := by
  refine Gx.enter 43 Tryd.func24 rfl rfl (Nat.le_of_ble_eq_true rfl) ?_
  have hq := hsz; simp only [zap, zli, List.length] at hq; have hA := arrT_bd ps; have i1 := inT_le 1 x sx; have hz : ps.length = 0 → (arrT ps).size = 4 := fun h => by unfold arrT; rw [if_pos h]; rfl
  refine Z.r [0, 1] ?_
  refine Z.N (.cells #[.int .i64 29, Z.n a, .string nm, .int .i64 n, .slice A (ps.length + 2) c] 24) (fun k1 w1 l1 x1 b1 zw1 tb1 => ?_)
  refine Z.p [1] [] [(2, .string Z.E)] ?_
  refine Z.e (Z.s [(3, .string (Z.B [32, 45, 62, 32]))] ?_)
  refine wp_seq (Z.r [0, 1, 2, 3] ?_)
  refine Z.p [0] [1, 2, 3] [(5, Z.P k1 4)] ?_
  refine Z.L 4 (.slice A (ps.length + 2) c) b1 ?_
  refine Z.p [2, 3] [] [(8, .bool (decide ((((ps.length + 2) : Nat) : Int) > (2 : Int)))), (7, .int .i64 (((ps.length + 2) : Nat) : Int))] ?_
  refine Z.e (Z.c (decide ((((ps.length + 2) : Nat) : Int) > (2 : Int))) (fun h_c8 => ?_) (fun h_c8 => ?_))
  · skip
    have p_c8 := of_decide_eq_true h_c8
    refine Z.s [(3, .string (Z.B [32, 45, 32, 123, 32]))] ?_
    refine wp_seq (Z.s [(4, .int .i64 2)] ?_)
    refine wp_block (Gx.loop (n' := 43) (d' := []) (fun mz l' w' => ∃ (j : Nat), l' = [(1, Z.P k1 0), (3, .string (arL ps j)), (4, .int .i64 ((j + 2 : Nat) : Int))] ∧ mz = ps.length - j ∧ Gx.Ext w w' ∧ Gx.Has w' k1 (.cells #[.int .i64 29, Z.n a, .string nm, .int .i64 n, .slice A (ps.length + 2) c] 24) ∧ (j ≤ ps.length)) _ _ [(1, Z.P k1 0), (3, .string (arL ps 0)), (4, .int .i64 ((0 + 2 : Nat) : Int))] (Gx.forget [(1, Z.P k1 0), (3, .string (arL ps 0)), (4, .int .i64 ((0 + 2 : Nat) : Int))] (by kernel_rfl)) ⟨0, rfl, rfl, ((Gx.Ext.refl w).trans x1), b1, (Nat.zero_le _)⟩ (fun bb1 m1 ll1 w2 hI1 K1 hK1 => ?_))
    obtain ⟨j, rfl, rfl, x2, b2, hj⟩ := hI1
    have zw2 := x2.size
    have tb2 := b2.lt
    have g1 := arL_le' ps j hj
    refine wp_seq (Z.r [0, 1, 2, 3, 4] ?_)
    refine Z.p [0, 1] [2, 3, 4] [(10, Z.P k1 4), (9, .int .i64 ((j + 2 : Nat) : Int))] ?_
    refine Z.L 4 (.slice A (ps.length + 2) c) b2 ?_
    refine Z.p [3, 4] [] [(13, .bool (decide (((j + 2 : Nat) : Int) < (((ps.length + 2) : Nat) : Int)))), (12, .int .i64 (((ps.length + 2) : Nat) : Int))] ?_
    refine Z.e (Z.c (decide (((j + 2 : Nat) : Int) < (((ps.length + 2) : Nat) : Int))) (fun h_c13 => ?_) (fun h_c13 => ?_))
    · skip
      have p_c13 := of_decide_eq_true h_c13
      refine wp_skip (Z.x (wp_seq (wp_block (wp_seq (Z.s [(17, .bool (decide (((j + 2 : Nat) : Int) > (2 : Int)))), (16, .int .i64 ((j + 2 : Nat) : Int))] ?_)))))
      refine Z.c (decide (((j + 2 : Nat) : Int) > (2 : Int))) (fun h_c17 => ?_) (fun h_c17 => ?_)
      · skip
        have p_c17 := of_decide_eq_true h_c17
        refine Z.g [0, 1, 2] ?_
        refine Z.p [0] [1, 2] [(18, .string (arL ps j))] ?_
        refine Z.C (arL ps j) (Z.B [32, 44, 32]) ?_ (by have q := arL_le' ps (j + 1) (by omega); rw [arL_succ] at q; split at q <;> simp only [zap, zli, List.length] at q ⊢ <;> omega)
        refine Z.p [2] [] [(3, .string ((arL ps j) ++ (Z.B [32, 44, 32])))] ?_
        refine Gx.ops_nil (Z.x (Z.g [0, 1, 2, 3, 4, 5, 6, 7, 8] ?_))
        refine Z.p [0, 1] [2, 3, 4, 5, 6, 7, 8] [(21, Z.P k1 4), (20, .string ((arL ps j) ++ (Z.B [32, 44, 32])))] ?_
        refine Z.L 4 (.slice A (ps.length + 2) c) b2 ?_
        refine Z.p [3] [4, 5, 6, 7, 8] [(23, .int .i64 ((j + 2 : Nat) : Int))] ?_
        obtain ⟨a1, ha1, hc1⟩ := (Gx.Rd.ext hr (by decide) hE) (j + 2) (by omega)
        refine Z.I 24 5 ha1 (ps.length + 2) c (j + 2) ?_
        refine Z.F (a1.add ((j + 2) * 5)) 2 ?_
        refine Z.Lo [.string ((ps.getD j nd0).nm)] (.string ((ps.getD j nd0).nm)) 1 (Gx.cells_sub hc1 2 1 rfl) ((Gx.Ext.refl w).trans x2) ?_
        refine Z.C ((arL ps j) ++ (Z.B [32, 44, 32])) ((ps.getD j nd0).nm) ?_ (by have q := arL_le' ps (j + 1) (by omega); rw [arL_succ] at q; split at q <;> simp only [zap, zli, List.length] at q ⊢ <;> omega)
        refine Z.p [8] [] [(3, .string (((arL ps j) ++ (Z.B [32, 44, 32])) ++ ((ps.getD j nd0).nm)))] ?_
        refine Gx.ops_nil (Gx.block_normal (Z.x (Z.g [0, 1, 2] ?_)))
        refine Z.p [0] [1, 2] [(14, .int .i64 ((j + 2 : Nat) : Int))] ?_
        refine Gx.pure_eq [1] [2] [(15, .int .i64 (IntKind.i64.wrap (((j + 2 : Nat) : Int) + (1 : Int))))] [(15, .int .i64 ((j + 1 + 2 : Nat) : Int))] rfl (by kernel_rfl) (Gx.eqI (Gx.i64n (by omega) (by omega))) ?_
        refine Z.p [2] [] [(4, .int .i64 ((j + 1 + 2 : Nat) : Int))] ?_
        refine Gx.ops_nil (Z.x ?_)
        rw [Gx.forget [(1, Z.P k1 0), (3, .string (arL ps (j + 1))), (4, .int .i64 (((j + 1) + 2 : Nat) : Int))] (by rw [arL_succ, if_pos (by omega)]; kernel_rfl)]
        exact hK1 _ _ _ _ (by omega) ⟨(j + 1), rfl, rfl, ((Gx.Ext.refl w).trans x2), b2, (by omega)⟩
      have p_c17 := of_decide_eq_false h_c17
      refine wp_skip (Z.x (Z.g [0, 1, 2, 3, 4, 5, 6, 7, 8] ?_))
      refine Z.p [0, 1] [2, 3, 4, 5, 6, 7, 8] [(21, Z.P k1 4), (20, .string (arL ps j))] ?_
      refine Z.L 4 (.slice A (ps.length + 2) c) b2 ?_
      refine Z.p [3] [4, 5, 6, 7, 8] [(23, .int .i64 ((j + 2 : Nat) : Int))] ?_
      obtain ⟨a2, ha2, hc2⟩ := (Gx.Rd.ext hr (by decide) hE) (j + 2) (by omega)
      refine Z.I 24 5 ha2 (ps.length + 2) c (j + 2) ?_
      refine Z.F (a2.add ((j + 2) * 5)) 2 ?_
      refine Z.Lo [.string ((ps.getD j nd0).nm)] (.string ((ps.getD j nd0).nm)) 1 (Gx.cells_sub hc2 2 1 rfl) ((Gx.Ext.refl w).trans x2) ?_
      refine Z.C (arL ps j) ((ps.getD j nd0).nm) ?_ (by have q := arL_le' ps (j + 1) (by omega); rw [arL_succ] at q; split at q <;> simp only [zap, zli, List.length] at q ⊢ <;> omega)
      refine Z.p [8] [] [(3, .string ((arL ps j) ++ ((ps.getD j nd0).nm)))] ?_
      refine Gx.ops_nil (Gx.block_normal (Z.x (Z.g [0, 1, 2] ?_)))
      refine Z.p [0] [1, 2] [(14, .int .i64 ((j + 2 : Nat) : Int))] ?_
      refine Gx.pure_eq [1] [2] [(15, .int .i64 (IntKind.i64.wrap (((j + 2 : Nat) : Int) + (1 : Int))))] [(15, .int .i64 ((j + 1 + 2 : Nat) : Int))] rfl (by kernel_rfl) (Gx.eqI (Gx.i64n (by omega) (by omega))) ?_
      refine Z.p [2] [] [(4, .int .i64 ((j + 1 + 2 : Nat) : Int))] ?_
      refine Gx.ops_nil (Z.x ?_)
      rw [Gx.forget [(1, Z.P k1 0), (3, .string (arL ps (j + 1))), (4, .int .i64 (((j + 1) + 2 : Nat) : Int))] (by rw [arL_succ, if_neg (by omega)]; kernel_rfl)]
      exact hK1 _ _ _ _ (by omega) ⟨(j + 1), rfl, rfl, ((Gx.Ext.refl w).trans x2), b2, (by omega)⟩
    have p_c13 := of_decide_eq_false h_c13
    refine wp_exit (Gx.then_exit (Gx.then_exit (Gx.block_exit (Z.x ?_))))
    obtain rfl : j = ps.length := by omega
    refine Z.g [0, 1, 2] ?_
    refine Z.p [0] [1, 2] [(28, .string (arL ps ps.length))] ?_
    refine Z.C (arL ps ps.length) (Z.B [32, 125, 32, 45, 62, 32]) ?_
    refine Z.p [2] [] [(3, .string ((arL ps ps.length) ++ (Z.B [32, 125, 32, 45, 62, 32])))] ?_
    refine Gx.ops_nil (Z.x (wp_seq (Z.D (fun w' => Gx.Has w' k1 (.cells #[.int .i64 29, Z.n a, .string nm, .int .i64 n, .slice A (ps.length + 2) c] 24) ∧ Gx.Ext w w') (fun w3 x3 zw3 => ?_))))
    refine Z.h ⟨(b2.ext x3), (((Gx.Ext.refl w).trans x2).trans x3)⟩ (fun hS1 => ?_)
    refine Z.t 0 (Z.P k1 4) hS1 ?_
    refine Z.tl 1 4 (.slice A (ps.length + 2) c) (fun _ hs => hs.1) hS1 ?_
    obtain ⟨a3, ha3, hc3⟩ := (Gx.Rd.ext hr (by decide) hE) 0 (by omega)
    refine Z.ti 2 24 5 ha3 (ps.length + 2) c 0 hS1 ?_
    refine Z.ta 3 [Z.n x.k, Z.n x.a, .string x.nm, .int .i64 x.n, .slice (As 0) x.ks.length (cs 0)] 5 hc3 (fun _ hs => hs.2) hS1 ?_
    refine Z.t 5 (.string ((arL ps ps.length) ++ (Z.B [32, 125, 32, 45, 62, 32]))) hS1 ?_
    refine Z.t 7 (Z.P k1 4) hS1 ?_
    refine Z.tl 8 4 (.slice A (ps.length + 2) c) (fun _ hs => hs.1) hS1 ?_
    obtain ⟨a4, ha4, hc4⟩ := (Gx.Rd.ext hr (by decide) hE) 1 (by omega)
    refine Z.ti 9 24 5 ha4 (ps.length + 2) c 1 hS1 ?_
    refine Z.ta 10 [Z.n y.k, Z.n y.a, .string y.nm, .int .i64 y.n, .slice (As 1) y.ks.length (cs 1)] 5 hc4 (fun _ hs => hs.2) hS1 ?_
    refine Z.o 4 (fun R hR => in_c w0 x (As 0) (cs 0) sx 1 _ R (Gx.Ext.trans hE (((Gx.Ext.refl w).trans x2).trans x3)) (h0) (by omega) (fun w4 x4 => hR _ _ ⟨⟨((b2.ext x3).ext x4), ((((Gx.Ext.refl w).trans x2).trans x3).trans x4)⟩, fun hS2 => ?_⟩))
    have zw4 := x4.size
    refine Z.tc 6 (inT 1 x sx) ((arL ps ps.length) ++ (Z.B [32, 125, 32, 45, 62, 32])) hS2 ?_
    refine Z.o 11 (fun R hR => h1 _ R (Gx.Ext.trans hE ((((Gx.Ext.refl w).trans x2).trans x3).trans x4)) (fun w5 x5 => hR _ _ ⟨⟨(((b2.ext x3).ext x4).ext x5), (((((Gx.Ext.refl w).trans x2).trans x3).trans x4).trans x5)⟩, fun hS3 => ?_⟩))
    have zw5 := x5.size
    refine Z.tc 12 ((inT 1 x sx) ++ ((arL ps ps.length) ++ (Z.B [32, 125, 32, 45, 62, 32]))) sy hS3 ?_
    refine Z.t 13 (.string (((inT 1 x sx) ++ ((arL ps ps.length) ++ (Z.B [32, 125, 32, 45, 62, 32]))) ++ sy)) hS3 ?_
    refine Z.q ?_
    refine Z.x (wp_ret (Z.v (.string (((inT 1 x sx) ++ ((arL ps ps.length) ++ (Z.B [32, 125, 32, 45, 62, 32]))) ++ sy)) ?_))
    exact Gx.ret_as (v' := .string ((inT 1 x sx ++ arrT ps) ++ sy)) (by rw [arrT, if_neg (by omega)]) (hK _ (((((Gx.Ext.refl w).trans x2).trans x3).trans x4).trans x5))
  have p_c8 := of_decide_eq_false h_c8
  refine wp_skip (Z.x (wp_seq (Z.D (fun w' => Gx.Has w' k1 (.cells #[.int .i64 29, Z.n a, .string nm, .int .i64 n, .slice A (ps.length + 2) c] 24) ∧ Gx.Ext w w') (fun w6 x6 zw6 => ?_))))
  refine Z.h ⟨(b1.ext x6), (((Gx.Ext.refl w).trans x1).trans x6)⟩ (fun hS4 => ?_)
  refine Z.t 0 (Z.P k1 4) hS4 ?_
  refine Z.tl 1 4 (.slice A (ps.length + 2) c) (fun _ hs => hs.1) hS4 ?_
  obtain ⟨a5, ha5, hc5⟩ := (Gx.Rd.ext hr (by decide) hE) 0 (by omega)
  refine Z.ti 2 24 5 ha5 (ps.length + 2) c 0 hS4 ?_
  refine Z.ta 3 [Z.n x.k, Z.n x.a, .string x.nm, .int .i64 x.n, .slice (As 0) x.ks.length (cs 0)] 5 hc5 (fun _ hs => hs.2) hS4 ?_
  refine Z.t 5 (.string (Z.B [32, 45, 62, 32])) hS4 ?_
  refine Z.t 7 (Z.P k1 4) hS4 ?_
  refine Z.tl 8 4 (.slice A (ps.length + 2) c) (fun _ hs => hs.1) hS4 ?_
  obtain ⟨a6, ha6, hc6⟩ := (Gx.Rd.ext hr (by decide) hE) 1 (by omega)
  refine Z.ti 9 24 5 ha6 (ps.length + 2) c 1 hS4 ?_
  refine Z.ta 10 [Z.n y.k, Z.n y.a, .string y.nm, .int .i64 y.n, .slice (As 1) y.ks.length (cs 1)] 5 hc6 (fun _ hs => hs.2) hS4 ?_
  refine Z.o 4 (fun R hR => in_c w0 x (As 0) (cs 0) sx 1 _ R (Gx.Ext.trans hE (((Gx.Ext.refl w).trans x1).trans x6)) (h0) (by omega) (fun w7 x7 => hR _ _ ⟨⟨((b1.ext x6).ext x7), ((((Gx.Ext.refl w).trans x1).trans x6).trans x7)⟩, fun hS5 => ?_⟩))
  have zw7 := x7.size
  refine Z.tc 6 (inT 1 x sx) (Z.B [32, 45, 62, 32]) hS5 ?_
  refine Z.o 11 (fun R hR => h1 _ R (Gx.Ext.trans hE ((((Gx.Ext.refl w).trans x1).trans x6).trans x7)) (fun w8 x8 => hR _ _ ⟨⟨(((b1.ext x6).ext x7).ext x8), (((((Gx.Ext.refl w).trans x1).trans x6).trans x7).trans x8)⟩, fun hS6 => ?_⟩))
  have zw8 := x8.size
  refine Z.tc 12 ((inT 1 x sx) ++ (Z.B [32, 45, 62, 32])) sy hS6 ?_
  refine Z.t 13 (.string (((inT 1 x sx) ++ (Z.B [32, 45, 62, 32])) ++ sy)) hS6 ?_
  refine Z.q ?_
  refine Z.x (wp_ret (Z.v (.string (((inT 1 x sx) ++ (Z.B [32, 45, 62, 32])) ++ sy)) ?_))
  exact Gx.ret_as (v' := .string ((inT 1 x sx ++ arrT ps) ++ sy)) (by rw [arrT, if_pos (by omega)]) (hK _ (((((Gx.Ext.refl w).trans x1).trans x6).trans x7).trans x8))

set_option maxHeartbeats 400000 in
set_option maxRecDepth 10000 in
theorem Write_29 (w0 : World) (a : Nat) (nm : ByteArray) (n : Int) (x y : Nd) (ps : List Nd) (A : Option Addr) (c : Nat) (As : Nat → Option Addr) (cs : Nat → Nat) (sx sy : ByteArray) (w : World) (K : Ending → World → Prop) (hE : Gx.Ext w0 w) (hr : Gx.Rd w0 A (ps.length + 2) 5 (fun i => ndC ((x :: y :: ps).getD i nd0) (As i) (cs i))) (h0 : WOK w0 x (As 0) (cs 0) sx) (h1 : WOK w0 y (As 1) (cs 1) sy) (hps : ps.length ≤ 400000010) (hsz : ((inT 1 x sx ++ arrT ps) ++ sy).size ≤ 400000000) (hK : ∀ w', Gx.Ext w w' → K (.returned (.string ((inT 1 x sx ++ arrT ps) ++ sy))) w') :
    Calls Tryd.prog 7 #[.agg #[.int .i64 29, Z.n a, .string nm, .int .i64 n, .slice A (ps.length + 2) c]] w K := by
  refine Gx.enter 307 Tryd.func7 rfl rfl (Nat.le_of_ble_eq_true rfl) ?_
  refine Z.r [0, 1] ?_
  refine Z.N (.cells #[.int .i64 29, Z.n a, .string nm, .int .i64 n, .slice A (ps.length + 2) c] 24) (fun k1 w1 l1 x1 b1 zw1 tb1 => ?_)
  refine Z.p [1] [] [(2, .string Z.E)] ?_
  refine Z.e (Z.r [0, 1, 2] ?_)
  refine Z.p [0] [1, 2] [(6, Z.P k1 4)] ?_
  refine Z.L 4 (.slice A (ps.length + 2) c) b1 ?_
  refine Z.p [2] [] [(3, .slice A (ps.length + 2) c)] ?_
  refine Z.e (wp_seq (Z.r [0, 1] ?_))
  refine Z.p [0] [1] [(8, Z.P k1 0)] ?_
  refine Z.L 0 (.int .i64 29) b1 ?_
  refine Z.e (wp_block (Z.sf [(10, .bool false), (11, .bool false)] ?_))
  refine Z.sf [(14, .bool false), (15, .bool false)] ?_
  refine Z.sf [(27, .bool false), (28, .bool false)] ?_
  refine Z.sf [(32, .bool false), (33, .bool false)] ?_
  refine wp_seq (Z.sf [(34, .bool false), (35, .bool false)] ?_)
  refine Z.u [(34, .bool false), (36, .bool false)] ?_
  refine Z.x (Z.cf ?_)
  refine Z.sf [(39, .bool false), (40, .bool false)] ?_
  refine Z.sf [(50, .bool false), (51, .bool false)] ?_
  refine Z.sf [(72, .bool false), (73, .bool false)] ?_
  refine Z.sf [(107, .bool false), (108, .bool false)] ?_
  refine Z.sf [(119, .bool false), (120, .bool false)] ?_
  refine Z.sf [(138, .bool false), (139, .bool false)] ?_
  refine Z.sf [(152, .bool false), (153, .bool false)] ?_
  refine Z.sf [(159, .bool false), (160, .bool false)] ?_
  refine Z.sf [(166, .bool false), (167, .bool false)] ?_
  refine Z.sf [(168, .bool false), (169, .bool false)] ?_
  refine Z.sf [(180, .bool false), (181, .bool false)] ?_
  refine Z.sf [(212, .bool false), (213, .bool false)] ?_
  refine Z.sf [(263, .bool false), (264, .bool false)] ?_
  refine Z.sf [(274, .bool false), (275, .bool false)] ?_
  refine Z.sf [(278, .bool false), (279, .bool false)] ?_
  refine Z.sf [(280, .bool false), (281, .bool false)] ?_
  refine Z.sf [(282, .bool false), (283, .bool false)] ?_
  refine Z.sf [(284, .bool false), (285, .bool false)] ?_
  refine Z.sf [(291, .bool false), (292, .bool false)] ?_
  refine Z.st [(303, .bool true), (304, .bool true)] ?_
  refine Z.r [0, 1, 2] ?_
  refine Z.L 0 (.agg #[.int .i64 29, Z.n a, .string nm, .int .i64 n, .slice A (ps.length + 2) c]) b1 ?_
  refine Z.k (fun R hR => arrow_c w0 a nm n x y ps A c As cs sx sy  _ R (Gx.Ext.trans hE ((Gx.Ext.refl w).trans x1)) hr h0 h1 hps hsz (fun w2 x2  => hR _ _ ?_))
  have zw2 := x2.size
  refine Z.p [2] [] [(2, .string ((inT 1 x sx ++ arrT ps) ++ sy))] ?_
  refine Z.e (wp_ret (Gx.block_ret (Gx.then_ret (Z.v (.string ((inT 1 x sx ++ arrT ps) ++ sy)) ?_))))
  exact Gx.ret_as (v' := .string ((inT 1 x sx ++ arrT ps) ++ sy)) (by rfl) (hK _ (((Gx.Ext.refl w).trans x1).trans x2))

set_option maxHeartbeats 1000000 in
set_option maxRecDepth 10000 in
theorem handleW_c (w0 : World) (a : Nat) (nm : ByteArray) (n : Int) (x r : Nd) (ds : List Nd) (ss : List ByteArray) (A : Option Addr) (c : Nat) (As : Nat → Option Addr) (cs : Nat → Nat) (sx sb : ByteArray) (Bs : Nat → Option Addr) (bs : Nat → Nat) (w : World) (K : Ending → World → Prop) (hE : Gx.Ext w0 w) (hr : Gx.Rd w0 A (ds.length + 2) 5 (fun i => ndC ((x :: r :: ds).getD i nd0) (As i) (cs i))) (hrk : r.ks.length = 1) (hr1 : Gx.Rd w0 (As 1) r.ks.length 5 (fun i => ndC (r.ks.getD i nd0) (Bs i) (bs i))) (h0 : WOK w0 x (As 0) (cs 0) sx) (h1 : WOK w0 (r.ks.getD 0 nd0) (Bs 0) (bs 0) sb) (hl : ss.length = ds.length) (hcl : ∀ j, j < ds.length → (ds.getD j nd0).ks.length = 3 ∧ ∃ (Ds : Nat → Option Addr) (es : Nat → Nat), Gx.Rd w0 (As (j + 2)) (ds.getD j nd0).ks.length 5 (fun i => ndC ((ds.getD j nd0).ks.getD i nd0) (Ds i) (es i)) ∧ WOK w0 ((ds.getD j nd0).ks.getD 2 nd0) (Ds 2) (es 2) (ss.getD j (⟨#[]⟩ : ByteArray))) (hsz : (clT ds ss ((((((if n = 1 then (Z.B [115, 104, 97, 108, 108, 111, 119, 32]) else (Z.B [104, 97, 110, 100, 108, 101, 32])) ++ sx) ++ (Z.B [32, 119, 105, 116, 104, 32, 123, 32, 114, 101, 116, 117, 114, 110, 32])) ++ r.nm) ++ (Z.B [32, 61, 62, 32])) ++ sb) ++ (Z.B [32, 125])).size ≤ 400000000) (hK : ∀ w', Gx.Ext w w' → K (.returned (.string (clT ds ss ((((((if n = 1 then (Z.B [115, 104, 97, 108, 108, 111, 119, 32]) else (Z.B [104, 97, 110, 100, 108, 101, 32])) ++ sx) ++ (Z.B [32, 119, 105, 116, 104, 32, 123, 32, 114, 101, 116, 117, 114, 110, 32])) ++ r.nm) ++ (Z.B [32, 61, 62, 32])) ++ sb) ++ (Z.B [32, 125])))) w') :
    Calls Tryd.prog 23 #[.agg #[.int .i64 20, Z.n a, .string nm, .int .i64 n, .slice A (ds.length + 2) c]] w K := by
  refine Gx.enter 73 Tryd.func23 rfl rfl (Nat.le_of_ble_eq_true rfl) ?_
  have hq := hsz; rw [ByteArray.size_append] at hq; have hg := clT_grow ds ss ((((((if n = 1 then (Z.B [115, 104, 97, 108, 108, 111, 119, 32]) else (Z.B [104, 97, 110, 100, 108, 101, 32])) ++ sx) ++ (Z.B [32, 119, 105, 116, 104, 32, 123, 32, 114, 101, 116, 117, 114, 110, 32])) ++ r.nm) ++ (Z.B [32, 61, 62, 32])) ++ sb); have hg2 := hg; simp only [zap, zli, List.length] at hg2; have hlen := clT_len ds ss ((((((if n = 1 then (Z.B [115, 104, 97, 108, 108, 111, 119, 32]) else (Z.B [104, 97, 110, 100, 108, 101, 32])) ++ sx) ++ (Z.B [32, 119, 105, 116, 104, 32, 123, 32, 114, 101, 116, 117, 114, 110, 32])) ++ r.nm) ++ (Z.B [32, 61, 62, 32])) ++ sb) hl ds.length (Nat.le_refl _); rw [clT_all ds ss _ hl] at hlen
  refine Z.r [0, 1] ?_
  refine Z.N (.cells #[.int .i64 20, Z.n a, .string nm, .int .i64 n, .slice A (ds.length + 2) c] 24) (fun k1 w1 l1 x1 b1 zw1 tb1 => ?_)
  refine Z.p [1] [] [(2, .string Z.E)] ?_
  refine Z.e (Z.s [(3, .string (Z.B [104, 97, 110, 100, 108, 101, 32]))] ?_)
  refine wp_seq (Z.r [0, 1, 2] ?_)
  refine Z.p [0] [1, 2] [(6, Z.P k1 3)] ?_
  refine Z.L 3 (.int .i64 n) b1 ?_
  refine Z.p [2] [] [(8, .bool (n == (1 : Int)))] ?_
  refine Z.e (Z.c (n == (1 : Int)) (fun h_c8 => ?_) (fun h_c8 => ?_))
  · skip
    have p_c8 := Gx.k1 h_c8
    refine Z.u [(3, .string (Z.B [115, 104, 97, 108, 108, 111, 119, 32]))] ?_
    refine Z.x ?_
    have hN : (if n = 1 then (Z.B [115, 104, 97, 108, 108, 111, 119, 32]) else (Z.B [104, 97, 110, 100, 108, 101, 32])) = (Z.B [115, 104, 97, 108, 108, 111, 119, 32]) := by rw [if_pos (by simpa using h_c8)]
    rw [hN] at hq hg hg2 hlen hsz hK
    refine wp_seq (Z.D (fun w' => Gx.Has w' k1 (.cells #[.int .i64 20, Z.n a, .string nm, .int .i64 n, .slice A (ds.length + 2) c] 24) ∧ Gx.Ext w w') (fun w2 x2 zw2 => ?_))
    refine Z.h ⟨(b1.ext x2), (((Gx.Ext.refl w).trans x1).trans x2)⟩ (fun hS1 => ?_)
    refine Z.t 0 (.string (Z.B [115, 104, 97, 108, 108, 111, 119, 32])) hS1 ?_
    refine Z.t 1 (Z.P k1 4) hS1 ?_
    refine Z.tl 2 4 (.slice A (ds.length + 2) c) (fun _ hs => hs.1) hS1 ?_
    obtain ⟨a1, ha1, hc1⟩ := (Gx.Rd.ext hr (by decide) hE) 0 (by omega)
    refine Z.ti 3 24 5 ha1 (ds.length + 2) c 0 hS1 ?_
    refine Z.ta 4 [Z.n x.k, Z.n x.a, .string x.nm, .int .i64 x.n, .slice (As 0) x.ks.length (cs 0)] 5 hc1 (fun _ hs => hs.2) hS1 ?_
    refine Z.t 8 (Z.P k1 4) hS1 ?_
    refine Z.tl 9 4 (.slice A (ds.length + 2) c) (fun _ hs => hs.1) hS1 ?_
    obtain ⟨a2, ha2, hc2⟩ := (Gx.Rd.ext hr (by decide) hE) 1 (by omega)
    refine Z.ti 10 24 5 ha2 (ds.length + 2) c 1 hS1 ?_
    refine Z.tf 11 (a2.add (1 * 5)) 2 hS1 ?_
    refine Z.to 12 [.string r.nm] (.string r.nm) 1 (Gx.cells_sub hc2 2 1 rfl) (fun _ hs => hs.2) hS1 ?_
    refine Z.t 15 (Z.P k1 4) hS1 ?_
    refine Z.tl 16 4 (.slice A (ds.length + 2) c) (fun _ hs => hs.1) hS1 ?_
    obtain ⟨a3, ha3, hc3⟩ := (Gx.Rd.ext hr (by decide) hE) 1 (by omega)
    refine Z.ti 17 24 5 ha3 (ds.length + 2) c 1 hS1 ?_
    refine Z.tf 18 (a3.add (1 * 5)) 4 hS1 ?_
    refine Z.to 19 [.slice (As 1) r.ks.length (cs 1)] (.slice (As 1) r.ks.length (cs 1)) 1 (Gx.cells_sub hc3 4 1 rfl) (fun _ hs => hs.2) hS1 ?_
    obtain ⟨a4, ha4, hc4⟩ := (Gx.Rd.ext hr1 (by decide) hE) 0 (by omega)
    refine Z.ti 20 24 5 ha4 r.ks.length (cs 1) 0 hS1 ?_
    refine Z.ta 21 [.int .i64 (((r.ks.getD 0 nd0).k : Nat) : Int), .int .i64 (((r.ks.getD 0 nd0).a : Nat) : Int), .string ((r.ks.getD 0 nd0).nm), .int .i64 ((r.ks.getD 0 nd0).n), .slice (Bs 0) ((r.ks.getD 0 nd0).ks.length) (bs 0)] 5 hc4 (fun _ hs => hs.2) hS1 ?_
    refine Z.o 5 (fun R hR => h0 _ R (Gx.Ext.trans hE (((Gx.Ext.refl w).trans x1).trans x2)) (fun w3 x3 => hR _ _ ⟨⟨((b1.ext x2).ext x3), ((((Gx.Ext.refl w).trans x1).trans x2).trans x3)⟩, fun hS2 => ?_⟩))
    have zw3 := x3.size
    refine Z.tc 6 (Z.B [115, 104, 97, 108, 108, 111, 119, 32]) sx hS2 ?_
    refine Z.tc 7 ((Z.B [115, 104, 97, 108, 108, 111, 119, 32]) ++ sx) (Z.B [32, 119, 105, 116, 104, 32, 123, 32, 114, 101, 116, 117, 114, 110, 32]) hS2 ?_
    refine Z.tc 13 (((Z.B [115, 104, 97, 108, 108, 111, 119, 32]) ++ sx) ++ (Z.B [32, 119, 105, 116, 104, 32, 123, 32, 114, 101, 116, 117, 114, 110, 32])) r.nm hS2 ?_
    refine Z.tc 14 ((((Z.B [115, 104, 97, 108, 108, 111, 119, 32]) ++ sx) ++ (Z.B [32, 119, 105, 116, 104, 32, 123, 32, 114, 101, 116, 117, 114, 110, 32])) ++ r.nm) (Z.B [32, 61, 62, 32]) hS2 ?_
    refine Z.o 22 (fun R hR => h1 _ R (Gx.Ext.trans hE ((((Gx.Ext.refl w).trans x1).trans x2).trans x3)) (fun w4 x4 => hR _ _ ⟨⟨(((b1.ext x2).ext x3).ext x4), (((((Gx.Ext.refl w).trans x1).trans x2).trans x3).trans x4)⟩, fun hS3 => ?_⟩))
    have zw4 := x4.size
    refine Z.tc 23 (((((Z.B [115, 104, 97, 108, 108, 111, 119, 32]) ++ sx) ++ (Z.B [32, 119, 105, 116, 104, 32, 123, 32, 114, 101, 116, 117, 114, 110, 32])) ++ r.nm) ++ (Z.B [32, 61, 62, 32])) sb hS3 ?_
    refine Z.t 24 (.string ((((((Z.B [115, 104, 97, 108, 108, 111, 119, 32]) ++ sx) ++ (Z.B [32, 119, 105, 116, 104, 32, 123, 32, 114, 101, 116, 117, 114, 110, 32])) ++ r.nm) ++ (Z.B [32, 61, 62, 32])) ++ sb)) hS3 ?_
    refine Z.q ?_
    refine Z.x (wp_seq (Z.s [(4, .int .i64 2)] ?_))
    refine wp_block (Gx.loop (n' := 73) (d' := []) (fun mz l' w' => ∃ (j : Nat), l' = [(1, Z.P k1 0), (3, .string (clT (ds.take j) (ss.take j) ((((((Z.B [115, 104, 97, 108, 108, 111, 119, 32]) ++ sx) ++ (Z.B [32, 119, 105, 116, 104, 32, 123, 32, 114, 101, 116, 117, 114, 110, 32])) ++ r.nm) ++ (Z.B [32, 61, 62, 32])) ++ sb))), (4, .int .i64 ((j + 2 : Nat) : Int))] ∧ mz = ds.length - j ∧ Gx.Ext w w' ∧ Gx.Has w' k1 (.cells #[.int .i64 20, Z.n a, .string nm, .int .i64 n, .slice A (ds.length + 2) c] 24) ∧ (j ≤ ds.length)) _ _ [(1, Z.P k1 0), (3, .string (clT (ds.take 0) (ss.take 0) ((((((Z.B [115, 104, 97, 108, 108, 111, 119, 32]) ++ sx) ++ (Z.B [32, 119, 105, 116, 104, 32, 123, 32, 114, 101, 116, 117, 114, 110, 32])) ++ r.nm) ++ (Z.B [32, 61, 62, 32])) ++ sb))), (4, .int .i64 ((0 + 2 : Nat) : Int))] (Gx.forget [(1, Z.P k1 0), (3, .string (clT (ds.take 0) (ss.take 0) ((((((Z.B [115, 104, 97, 108, 108, 111, 119, 32]) ++ sx) ++ (Z.B [32, 119, 105, 116, 104, 32, 123, 32, 114, 101, 116, 117, 114, 110, 32])) ++ r.nm) ++ (Z.B [32, 61, 62, 32])) ++ sb))), (4, .int .i64 ((0 + 2 : Nat) : Int))] (by kernel_rfl)) ⟨0, rfl, rfl, (((((Gx.Ext.refl w).trans x1).trans x2).trans x3).trans x4), (((b1.ext x2).ext x3).ext x4), (Nat.zero_le _)⟩ (fun bb1 m1 ll1 w5 hI1 K1 hK1 => ?_))
    obtain ⟨j, rfl, rfl, x5, b2, hj⟩ := hI1
    have zw5 := x5.size
    have tb2 := b2.lt
    have g1 := clT_le ds ss ((((((Z.B [115, 104, 97, 108, 108, 111, 119, 32]) ++ sx) ++ (Z.B [32, 119, 105, 116, 104, 32, 123, 32, 114, 101, 116, 117, 114, 110, 32])) ++ r.nm) ++ (Z.B [32, 61, 62, 32])) ++ sb) j
    refine wp_seq (Z.r [0, 1, 2, 3, 4] ?_)
    refine Z.p [0, 1] [2, 3, 4] [(34, Z.P k1 4), (33, .int .i64 ((j + 2 : Nat) : Int))] ?_
    refine Z.L 4 (.slice A (ds.length + 2) c) b2 ?_
    refine Z.p [3, 4] [] [(37, .bool (decide (((j + 2 : Nat) : Int) < (((ds.length + 2) : Nat) : Int)))), (36, .int .i64 (((ds.length + 2) : Nat) : Int))] ?_
    refine Z.e (Z.c (decide (((j + 2 : Nat) : Int) < (((ds.length + 2) : Nat) : Int))) (fun h_c37 => ?_) (fun h_c37 => ?_))
    · skip
      have p_c37 := of_decide_eq_true h_c37
      refine wp_skip (Z.x (wp_seq (wp_block ?_)))
      obtain ⟨hk3, Ds, es, hr2, hw2⟩ := hcl j (by omega)
      have q := clT_le' ds ss ((((((Z.B [115, 104, 97, 108, 108, 111, 119, 32]) ++ sx) ++ (Z.B [32, 119, 105, 116, 104, 32, 123, 32, 114, 101, 116, 117, 114, 110, 32])) ++ r.nm) ++ (Z.B [32, 61, 62, 32])) ++ sb) j hl (by omega); unfold cl1 at q; simp only [ByteArray.size_append, lz1, lz3, lz4] at q
      refine Z.r [0, 1, 2, 3, 4, 5, 6] ?_
      refine Z.p [0] [1, 2, 3, 4, 5, 6] [(40, Z.P k1 4)] ?_
      refine Z.L 4 (.slice A (ds.length + 2) c) b2 ?_
      refine Z.p [2] [3, 4, 5, 6] [(42, .int .i64 ((j + 2 : Nat) : Int))] ?_
      obtain ⟨a5, ha5, hc5⟩ := (Gx.Rd.ext hr (by decide) hE) (j + 2) (by omega)
      refine Z.I 24 5 ha5 (ds.length + 2) c (j + 2) ?_
      refine Z.La [.int .i64 (((ds.getD j nd0).k : Nat) : Int), .int .i64 (((ds.getD j nd0).a : Nat) : Int), .string ((ds.getD j nd0).nm), .int .i64 ((ds.getD j nd0).n), .slice (As (j + 2)) ((ds.getD j nd0).ks.length) (cs (j + 2))] 5 hc5 ((Gx.Ext.refl w).trans x5) ?_
      refine Z.N (.cells #[.int .i64 0, .int .i64 0, .string Z.E, .int .i64 0, .slice none 0 0] 24) (fun k2 w6 l2 x6 b3 zw6 tb3 => ?_)
      refine Z.Sa #[.int .i64 (((ds.getD j nd0).k : Nat) : Int), .int .i64 (((ds.getD j nd0).a : Nat) : Int), .string ((ds.getD j nd0).nm), .int .i64 ((ds.getD j nd0).n), .slice (As (j + 2)) ((ds.getD j nd0).ks.length) (cs (j + 2))] b3 (fun w7 u1 b4 zw7 => ?_)
      refine Z.e (Z.D (fun w' => Gx.Has w' k2 (.cells #[.int .i64 (((ds.getD j nd0).k : Nat) : Int), .int .i64 (((ds.getD j nd0).a : Nat) : Int), .string ((ds.getD j nd0).nm), .int .i64 ((ds.getD j nd0).n), .slice (As (j + 2)) ((ds.getD j nd0).ks.length) (cs (j + 2))] 24) ∧ Gx.Ext w w') (fun w8 x7 zw8 => ?_))
      refine Z.h ⟨(b4.ext x7), (((((Gx.Ext.refl w).trans x5).trans x6).upd1 u1).trans x7)⟩ (fun hS4 => ?_)
      refine Z.t 0 (.string (clT (ds.take j) (ss.take j) ((((((Z.B [115, 104, 97, 108, 108, 111, 119, 32]) ++ sx) ++ (Z.B [32, 119, 105, 116, 104, 32, 123, 32, 114, 101, 116, 117, 114, 110, 32])) ++ r.nm) ++ (Z.B [32, 61, 62, 32])) ++ sb))) hS4 ?_
      refine Z.tc 1 (clT (ds.take j) (ss.take j) ((((((Z.B [115, 104, 97, 108, 108, 111, 119, 32]) ++ sx) ++ (Z.B [32, 119, 105, 116, 104, 32, 123, 32, 114, 101, 116, 117, 114, 110, 32])) ++ r.nm) ++ (Z.B [32, 61, 62, 32])) ++ sb)) (Z.B [32, 124, 32]) hS4 ?_
      refine Z.t 2 (Z.P k2 2) hS4 ?_
      refine Z.tl 3 2 (.string ((ds.getD j nd0).nm)) (fun _ hs => hs.1) hS4 ?_
      refine Z.tc 4 ((clT (ds.take j) (ss.take j) ((((((Z.B [115, 104, 97, 108, 108, 111, 119, 32]) ++ sx) ++ (Z.B [32, 119, 105, 116, 104, 32, 123, 32, 114, 101, 116, 117, 114, 110, 32])) ++ r.nm) ++ (Z.B [32, 61, 62, 32])) ++ sb)) ++ (Z.B [32, 124, 32])) ((ds.getD j nd0).nm) hS4 ?_
      refine Z.tc 5 (((clT (ds.take j) (ss.take j) ((((((Z.B [115, 104, 97, 108, 108, 111, 119, 32]) ++ sx) ++ (Z.B [32, 119, 105, 116, 104, 32, 123, 32, 114, 101, 116, 117, 114, 110, 32])) ++ r.nm) ++ (Z.B [32, 61, 62, 32])) ++ sb)) ++ (Z.B [32, 124, 32])) ++ ((ds.getD j nd0).nm)) (Z.B [32]) hS4 ?_
      refine Z.t 6 (Z.P k2 4) hS4 ?_
      refine Z.tl 7 4 (.slice (As (j + 2)) ((ds.getD j nd0).ks.length) (cs (j + 2))) (fun _ hs => hs.1) hS4 ?_
      obtain ⟨a6, ha6, hc6⟩ := (Gx.Rd.ext hr2 (by decide) hE) 0 (by omega)
      refine Z.ti 8 24 5 ha6 ((ds.getD j nd0).ks.length) (cs (j + 2)) 0 hS4 ?_
      refine Z.tf 9 (a6.add (0 * 5)) 2 hS4 ?_
      refine Z.to 10 [.string (((ds.getD j nd0).ks.getD 0 nd0).nm)] (.string (((ds.getD j nd0).ks.getD 0 nd0).nm)) 1 (Gx.cells_sub hc6 2 1 rfl) (fun _ hs => hs.2) hS4 ?_
      refine Z.tc 11 ((((clT (ds.take j) (ss.take j) ((((((Z.B [115, 104, 97, 108, 108, 111, 119, 32]) ++ sx) ++ (Z.B [32, 119, 105, 116, 104, 32, 123, 32, 114, 101, 116, 117, 114, 110, 32])) ++ r.nm) ++ (Z.B [32, 61, 62, 32])) ++ sb)) ++ (Z.B [32, 124, 32])) ++ ((ds.getD j nd0).nm)) ++ (Z.B [32])) (((ds.getD j nd0).ks.getD 0 nd0).nm) hS4 ?_
      refine Z.tc 12 (((((clT (ds.take j) (ss.take j) ((((((Z.B [115, 104, 97, 108, 108, 111, 119, 32]) ++ sx) ++ (Z.B [32, 119, 105, 116, 104, 32, 123, 32, 114, 101, 116, 117, 114, 110, 32])) ++ r.nm) ++ (Z.B [32, 61, 62, 32])) ++ sb)) ++ (Z.B [32, 124, 32])) ++ ((ds.getD j nd0).nm)) ++ (Z.B [32])) ++ (((ds.getD j nd0).ks.getD 0 nd0).nm)) (Z.B [32]) hS4 ?_
      refine Z.t 13 (Z.P k2 4) hS4 ?_
      refine Z.tl 14 4 (.slice (As (j + 2)) ((ds.getD j nd0).ks.length) (cs (j + 2))) (fun _ hs => hs.1) hS4 ?_
      obtain ⟨a7, ha7, hc7⟩ := (Gx.Rd.ext hr2 (by decide) hE) 1 (by omega)
      refine Z.ti 15 24 5 ha7 ((ds.getD j nd0).ks.length) (cs (j + 2)) 1 hS4 ?_
      refine Z.tf 16 (a7.add (1 * 5)) 2 hS4 ?_
      refine Z.to 17 [.string (((ds.getD j nd0).ks.getD 1 nd0).nm)] (.string (((ds.getD j nd0).ks.getD 1 nd0).nm)) 1 (Gx.cells_sub hc7 2 1 rfl) (fun _ hs => hs.2) hS4 ?_
      refine Z.tc 18 ((((((clT (ds.take j) (ss.take j) ((((((Z.B [115, 104, 97, 108, 108, 111, 119, 32]) ++ sx) ++ (Z.B [32, 119, 105, 116, 104, 32, 123, 32, 114, 101, 116, 117, 114, 110, 32])) ++ r.nm) ++ (Z.B [32, 61, 62, 32])) ++ sb)) ++ (Z.B [32, 124, 32])) ++ ((ds.getD j nd0).nm)) ++ (Z.B [32])) ++ (((ds.getD j nd0).ks.getD 0 nd0).nm)) ++ (Z.B [32])) (((ds.getD j nd0).ks.getD 1 nd0).nm) hS4 ?_
      refine Z.tc 19 (((((((clT (ds.take j) (ss.take j) ((((((Z.B [115, 104, 97, 108, 108, 111, 119, 32]) ++ sx) ++ (Z.B [32, 119, 105, 116, 104, 32, 123, 32, 114, 101, 116, 117, 114, 110, 32])) ++ r.nm) ++ (Z.B [32, 61, 62, 32])) ++ sb)) ++ (Z.B [32, 124, 32])) ++ ((ds.getD j nd0).nm)) ++ (Z.B [32])) ++ (((ds.getD j nd0).ks.getD 0 nd0).nm)) ++ (Z.B [32])) ++ (((ds.getD j nd0).ks.getD 1 nd0).nm)) (Z.B [32, 61, 62, 32]) hS4 ?_
      refine Z.t 20 (Z.P k2 4) hS4 ?_
      refine Z.tl 21 4 (.slice (As (j + 2)) ((ds.getD j nd0).ks.length) (cs (j + 2))) (fun _ hs => hs.1) hS4 ?_
      obtain ⟨a8, ha8, hc8⟩ := (Gx.Rd.ext hr2 (by decide) hE) 2 (by omega)
      refine Z.ti 22 24 5 ha8 ((ds.getD j nd0).ks.length) (cs (j + 2)) 2 hS4 ?_
      refine Z.ta 23 [.int .i64 ((((ds.getD j nd0).ks.getD 2 nd0).k : Nat) : Int), .int .i64 ((((ds.getD j nd0).ks.getD 2 nd0).a : Nat) : Int), .string (((ds.getD j nd0).ks.getD 2 nd0).nm), .int .i64 (((ds.getD j nd0).ks.getD 2 nd0).n), .slice (Ds 2) (((ds.getD j nd0).ks.getD 2 nd0).ks.length) (es 2)] 5 hc8 (fun _ hs => hs.2) hS4 ?_
      refine Z.o 24 (fun R hR => hw2 _ R (Gx.Ext.trans hE (((((Gx.Ext.refl w).trans x5).trans x6).upd1 u1).trans x7)) (fun w9 x8 => hR _ _ ⟨⟨((b4.ext x7).ext x8), ((((((Gx.Ext.refl w).trans x5).trans x6).upd1 u1).trans x7).trans x8)⟩, fun hS5 => ?_⟩))
      have zw9 := x8.size
      refine Z.tc 25 ((((((((clT (ds.take j) (ss.take j) ((((((Z.B [115, 104, 97, 108, 108, 111, 119, 32]) ++ sx) ++ (Z.B [32, 119, 105, 116, 104, 32, 123, 32, 114, 101, 116, 117, 114, 110, 32])) ++ r.nm) ++ (Z.B [32, 61, 62, 32])) ++ sb)) ++ (Z.B [32, 124, 32])) ++ ((ds.getD j nd0).nm)) ++ (Z.B [32])) ++ (((ds.getD j nd0).ks.getD 0 nd0).nm)) ++ (Z.B [32])) ++ (((ds.getD j nd0).ks.getD 1 nd0).nm)) ++ (Z.B [32, 61, 62, 32])) (ss.getD j (⟨#[]⟩ : ByteArray)) hS5 ?_
      refine Z.t 26 (.string (((((((((clT (ds.take j) (ss.take j) ((((((Z.B [115, 104, 97, 108, 108, 111, 119, 32]) ++ sx) ++ (Z.B [32, 119, 105, 116, 104, 32, 123, 32, 114, 101, 116, 117, 114, 110, 32])) ++ r.nm) ++ (Z.B [32, 61, 62, 32])) ++ sb)) ++ (Z.B [32, 124, 32])) ++ ((ds.getD j nd0).nm)) ++ (Z.B [32])) ++ (((ds.getD j nd0).ks.getD 0 nd0).nm)) ++ (Z.B [32])) ++ (((ds.getD j nd0).ks.getD 1 nd0).nm)) ++ (Z.B [32, 61, 62, 32])) ++ (ss.getD j (⟨#[]⟩ : ByteArray)))) hS5 ?_
      refine Z.q ?_
      refine Gx.block_normal (Z.x (Z.g [0, 1, 2] ?_))
      refine Z.p [0] [1, 2] [(38, .int .i64 ((j + 2 : Nat) : Int))] ?_
      refine Gx.pure_eq [1] [2] [(39, .int .i64 (IntKind.i64.wrap (((j + 2 : Nat) : Int) + (1 : Int))))] [(39, .int .i64 ((j + 1 + 2 : Nat) : Int))] rfl (by kernel_rfl) (Gx.eqI (Gx.i64n (by omega) (by omega))) ?_
      refine Z.p [2] [] [(4, .int .i64 ((j + 1 + 2 : Nat) : Int))] ?_
      refine Gx.ops_nil (Z.x ?_)
      rw [Gx.forget [(1, Z.P k1 0), (3, .string (clT (ds.take (j + 1)) (ss.take (j + 1)) ((((((Z.B [115, 104, 97, 108, 108, 111, 119, 32]) ++ sx) ++ (Z.B [32, 119, 105, 116, 104, 32, 123, 32, 114, 101, 116, 117, 114, 110, 32])) ++ r.nm) ++ (Z.B [32, 61, 62, 32])) ++ sb))), (4, .int .i64 (((j + 1) + 2 : Nat) : Int))] (by rw [clT_succ ds ss _ j hl (by omega)]; unfold cl1; kernel_rfl)]
      exact hK1 _ _ _ _ (by omega) ⟨(j + 1), rfl, rfl, ((((((Gx.Ext.refl w).trans x5).trans x6).upd1 u1).trans x7).trans x8), ((((b2.ext x6).upd1 u1).ext x7).ext x8), (by omega)⟩
    have p_c37 := of_decide_eq_false h_c37
    refine wp_exit (Gx.then_exit (Gx.then_exit (Gx.block_exit (Z.x ?_))))
    obtain rfl : j = ds.length := by omega
    rw [clT_all ds ss _ hl]
    refine Z.r [0, 1, 2] ?_
    refine Z.p [0] [1, 2] [(71, .string (clT ds ss ((((((Z.B [115, 104, 97, 108, 108, 111, 119, 32]) ++ sx) ++ (Z.B [32, 119, 105, 116, 104, 32, 123, 32, 114, 101, 116, 117, 114, 110, 32])) ++ r.nm) ++ (Z.B [32, 61, 62, 32])) ++ sb)))] ?_
    refine Z.C (clT ds ss ((((((Z.B [115, 104, 97, 108, 108, 111, 119, 32]) ++ sx) ++ (Z.B [32, 119, 105, 116, 104, 32, 123, 32, 114, 101, 116, 117, 114, 110, 32])) ++ r.nm) ++ (Z.B [32, 61, 62, 32])) ++ sb)) (Z.B [32, 125]) ?_
    refine Z.p [2] [] [(2, .string ((clT ds ss ((((((Z.B [115, 104, 97, 108, 108, 111, 119, 32]) ++ sx) ++ (Z.B [32, 119, 105, 116, 104, 32, 123, 32, 114, 101, 116, 117, 114, 110, 32])) ++ r.nm) ++ (Z.B [32, 61, 62, 32])) ++ sb)) ++ (Z.B [32, 125])))] ?_
    refine Z.e (wp_ret (Z.v (.string ((clT ds ss ((((((Z.B [115, 104, 97, 108, 108, 111, 119, 32]) ++ sx) ++ (Z.B [32, 119, 105, 116, 104, 32, 123, 32, 114, 101, 116, 117, 114, 110, 32])) ++ r.nm) ++ (Z.B [32, 61, 62, 32])) ++ sb)) ++ (Z.B [32, 125]))) ?_))
    exact Gx.ret_as rfl (hK _ ((Gx.Ext.refl w).trans x5))
  have p_c8 := Gx.k0 h_c8
  refine wp_skip (Z.x ?_)
  have hN : (if n = 1 then (Z.B [115, 104, 97, 108, 108, 111, 119, 32]) else (Z.B [104, 97, 110, 100, 108, 101, 32])) = (Z.B [104, 97, 110, 100, 108, 101, 32]) := by rw [if_neg (by simpa using h_c8)]
  rw [hN] at hq hg hg2 hlen hsz hK
  refine wp_seq (Z.D (fun w' => Gx.Has w' k1 (.cells #[.int .i64 20, Z.n a, .string nm, .int .i64 n, .slice A (ds.length + 2) c] 24) ∧ Gx.Ext w w') (fun w10 x9 zw10 => ?_))
  refine Z.h ⟨(b1.ext x9), (((Gx.Ext.refl w).trans x1).trans x9)⟩ (fun hS6 => ?_)
  refine Z.t 0 (.string (Z.B [104, 97, 110, 100, 108, 101, 32])) hS6 ?_
  refine Z.t 1 (Z.P k1 4) hS6 ?_
  refine Z.tl 2 4 (.slice A (ds.length + 2) c) (fun _ hs => hs.1) hS6 ?_
  obtain ⟨a9, ha9, hc9⟩ := (Gx.Rd.ext hr (by decide) hE) 0 (by omega)
  refine Z.ti 3 24 5 ha9 (ds.length + 2) c 0 hS6 ?_
  refine Z.ta 4 [Z.n x.k, Z.n x.a, .string x.nm, .int .i64 x.n, .slice (As 0) x.ks.length (cs 0)] 5 hc9 (fun _ hs => hs.2) hS6 ?_
  refine Z.t 8 (Z.P k1 4) hS6 ?_
  refine Z.tl 9 4 (.slice A (ds.length + 2) c) (fun _ hs => hs.1) hS6 ?_
  obtain ⟨a10, ha10, hc10⟩ := (Gx.Rd.ext hr (by decide) hE) 1 (by omega)
  refine Z.ti 10 24 5 ha10 (ds.length + 2) c 1 hS6 ?_
  refine Z.tf 11 (a10.add (1 * 5)) 2 hS6 ?_
  refine Z.to 12 [.string r.nm] (.string r.nm) 1 (Gx.cells_sub hc10 2 1 rfl) (fun _ hs => hs.2) hS6 ?_
  refine Z.t 15 (Z.P k1 4) hS6 ?_
  refine Z.tl 16 4 (.slice A (ds.length + 2) c) (fun _ hs => hs.1) hS6 ?_
  obtain ⟨a11, ha11, hc11⟩ := (Gx.Rd.ext hr (by decide) hE) 1 (by omega)
  refine Z.ti 17 24 5 ha11 (ds.length + 2) c 1 hS6 ?_
  refine Z.tf 18 (a11.add (1 * 5)) 4 hS6 ?_
  refine Z.to 19 [.slice (As 1) r.ks.length (cs 1)] (.slice (As 1) r.ks.length (cs 1)) 1 (Gx.cells_sub hc11 4 1 rfl) (fun _ hs => hs.2) hS6 ?_
  obtain ⟨a12, ha12, hc12⟩ := (Gx.Rd.ext hr1 (by decide) hE) 0 (by omega)
  refine Z.ti 20 24 5 ha12 r.ks.length (cs 1) 0 hS6 ?_
  refine Z.ta 21 [.int .i64 (((r.ks.getD 0 nd0).k : Nat) : Int), .int .i64 (((r.ks.getD 0 nd0).a : Nat) : Int), .string ((r.ks.getD 0 nd0).nm), .int .i64 ((r.ks.getD 0 nd0).n), .slice (Bs 0) ((r.ks.getD 0 nd0).ks.length) (bs 0)] 5 hc12 (fun _ hs => hs.2) hS6 ?_
  refine Z.o 5 (fun R hR => h0 _ R (Gx.Ext.trans hE (((Gx.Ext.refl w).trans x1).trans x9)) (fun w11 x10 => hR _ _ ⟨⟨((b1.ext x9).ext x10), ((((Gx.Ext.refl w).trans x1).trans x9).trans x10)⟩, fun hS7 => ?_⟩))
  have zw11 := x10.size
  refine Z.tc 6 (Z.B [104, 97, 110, 100, 108, 101, 32]) sx hS7 ?_
  refine Z.tc 7 ((Z.B [104, 97, 110, 100, 108, 101, 32]) ++ sx) (Z.B [32, 119, 105, 116, 104, 32, 123, 32, 114, 101, 116, 117, 114, 110, 32]) hS7 ?_
  refine Z.tc 13 (((Z.B [104, 97, 110, 100, 108, 101, 32]) ++ sx) ++ (Z.B [32, 119, 105, 116, 104, 32, 123, 32, 114, 101, 116, 117, 114, 110, 32])) r.nm hS7 ?_
  refine Z.tc 14 ((((Z.B [104, 97, 110, 100, 108, 101, 32]) ++ sx) ++ (Z.B [32, 119, 105, 116, 104, 32, 123, 32, 114, 101, 116, 117, 114, 110, 32])) ++ r.nm) (Z.B [32, 61, 62, 32]) hS7 ?_
  refine Z.o 22 (fun R hR => h1 _ R (Gx.Ext.trans hE ((((Gx.Ext.refl w).trans x1).trans x9).trans x10)) (fun w12 x11 => hR _ _ ⟨⟨(((b1.ext x9).ext x10).ext x11), (((((Gx.Ext.refl w).trans x1).trans x9).trans x10).trans x11)⟩, fun hS8 => ?_⟩))
  have zw12 := x11.size
  refine Z.tc 23 (((((Z.B [104, 97, 110, 100, 108, 101, 32]) ++ sx) ++ (Z.B [32, 119, 105, 116, 104, 32, 123, 32, 114, 101, 116, 117, 114, 110, 32])) ++ r.nm) ++ (Z.B [32, 61, 62, 32])) sb hS8 ?_
  refine Z.t 24 (.string ((((((Z.B [104, 97, 110, 100, 108, 101, 32]) ++ sx) ++ (Z.B [32, 119, 105, 116, 104, 32, 123, 32, 114, 101, 116, 117, 114, 110, 32])) ++ r.nm) ++ (Z.B [32, 61, 62, 32])) ++ sb)) hS8 ?_
  refine Z.q ?_
  refine Z.x (wp_seq (Z.s [(4, .int .i64 2)] ?_))
  refine wp_block (Gx.loop (n' := 73) (d' := []) (fun mz l' w' => ∃ (j : Nat), l' = [(1, Z.P k1 0), (3, .string (clT (ds.take j) (ss.take j) ((((((Z.B [104, 97, 110, 100, 108, 101, 32]) ++ sx) ++ (Z.B [32, 119, 105, 116, 104, 32, 123, 32, 114, 101, 116, 117, 114, 110, 32])) ++ r.nm) ++ (Z.B [32, 61, 62, 32])) ++ sb))), (4, .int .i64 ((j + 2 : Nat) : Int))] ∧ mz = ds.length - j ∧ Gx.Ext w w' ∧ Gx.Has w' k1 (.cells #[.int .i64 20, Z.n a, .string nm, .int .i64 n, .slice A (ds.length + 2) c] 24) ∧ (j ≤ ds.length)) _ _ [(1, Z.P k1 0), (3, .string (clT (ds.take 0) (ss.take 0) ((((((Z.B [104, 97, 110, 100, 108, 101, 32]) ++ sx) ++ (Z.B [32, 119, 105, 116, 104, 32, 123, 32, 114, 101, 116, 117, 114, 110, 32])) ++ r.nm) ++ (Z.B [32, 61, 62, 32])) ++ sb))), (4, .int .i64 ((0 + 2 : Nat) : Int))] (Gx.forget [(1, Z.P k1 0), (3, .string (clT (ds.take 0) (ss.take 0) ((((((Z.B [104, 97, 110, 100, 108, 101, 32]) ++ sx) ++ (Z.B [32, 119, 105, 116, 104, 32, 123, 32, 114, 101, 116, 117, 114, 110, 32])) ++ r.nm) ++ (Z.B [32, 61, 62, 32])) ++ sb))), (4, .int .i64 ((0 + 2 : Nat) : Int))] (by kernel_rfl)) ⟨0, rfl, rfl, (((((Gx.Ext.refl w).trans x1).trans x9).trans x10).trans x11), (((b1.ext x9).ext x10).ext x11), (Nat.zero_le _)⟩ (fun bb2 m2 ll2 w13 hI2 K2 hK2 => ?_))
  obtain ⟨j, rfl, rfl, x12, b5, hj⟩ := hI2
  have zw13 := x12.size
  have tb5 := b5.lt
  have g1 := clT_le ds ss ((((((Z.B [104, 97, 110, 100, 108, 101, 32]) ++ sx) ++ (Z.B [32, 119, 105, 116, 104, 32, 123, 32, 114, 101, 116, 117, 114, 110, 32])) ++ r.nm) ++ (Z.B [32, 61, 62, 32])) ++ sb) j
  refine wp_seq (Z.r [0, 1, 2, 3, 4] ?_)
  refine Z.p [0, 1] [2, 3, 4] [(34, Z.P k1 4), (33, .int .i64 ((j + 2 : Nat) : Int))] ?_
  refine Z.L 4 (.slice A (ds.length + 2) c) b5 ?_
  refine Z.p [3, 4] [] [(37, .bool (decide (((j + 2 : Nat) : Int) < (((ds.length + 2) : Nat) : Int)))), (36, .int .i64 (((ds.length + 2) : Nat) : Int))] ?_
  refine Z.e (Z.c (decide (((j + 2 : Nat) : Int) < (((ds.length + 2) : Nat) : Int))) (fun h_c37 => ?_) (fun h_c37 => ?_))
  · skip
    have p_c37 := of_decide_eq_true h_c37
    refine wp_skip (Z.x (wp_seq (wp_block ?_)))
    obtain ⟨hk3, Ds, es, hr2, hw2⟩ := hcl j (by omega)
    have q := clT_le' ds ss ((((((Z.B [104, 97, 110, 100, 108, 101, 32]) ++ sx) ++ (Z.B [32, 119, 105, 116, 104, 32, 123, 32, 114, 101, 116, 117, 114, 110, 32])) ++ r.nm) ++ (Z.B [32, 61, 62, 32])) ++ sb) j hl (by omega); unfold cl1 at q; simp only [ByteArray.size_append, lz1, lz3, lz4] at q
    refine Z.r [0, 1, 2, 3, 4, 5, 6] ?_
    refine Z.p [0] [1, 2, 3, 4, 5, 6] [(40, Z.P k1 4)] ?_
    refine Z.L 4 (.slice A (ds.length + 2) c) b5 ?_
    refine Z.p [2] [3, 4, 5, 6] [(42, .int .i64 ((j + 2 : Nat) : Int))] ?_
    obtain ⟨a13, ha13, hc13⟩ := (Gx.Rd.ext hr (by decide) hE) (j + 2) (by omega)
    refine Z.I 24 5 ha13 (ds.length + 2) c (j + 2) ?_
    refine Z.La [.int .i64 (((ds.getD j nd0).k : Nat) : Int), .int .i64 (((ds.getD j nd0).a : Nat) : Int), .string ((ds.getD j nd0).nm), .int .i64 ((ds.getD j nd0).n), .slice (As (j + 2)) ((ds.getD j nd0).ks.length) (cs (j + 2))] 5 hc13 ((Gx.Ext.refl w).trans x12) ?_
    refine Z.N (.cells #[.int .i64 0, .int .i64 0, .string Z.E, .int .i64 0, .slice none 0 0] 24) (fun k3 w14 l3 x13 b6 zw14 tb6 => ?_)
    refine Z.Sa #[.int .i64 (((ds.getD j nd0).k : Nat) : Int), .int .i64 (((ds.getD j nd0).a : Nat) : Int), .string ((ds.getD j nd0).nm), .int .i64 ((ds.getD j nd0).n), .slice (As (j + 2)) ((ds.getD j nd0).ks.length) (cs (j + 2))] b6 (fun w15 u2 b7 zw15 => ?_)
    refine Z.e (Z.D (fun w' => Gx.Has w' k3 (.cells #[.int .i64 (((ds.getD j nd0).k : Nat) : Int), .int .i64 (((ds.getD j nd0).a : Nat) : Int), .string ((ds.getD j nd0).nm), .int .i64 ((ds.getD j nd0).n), .slice (As (j + 2)) ((ds.getD j nd0).ks.length) (cs (j + 2))] 24) ∧ Gx.Ext w w') (fun w16 x14 zw16 => ?_))
    refine Z.h ⟨(b7.ext x14), (((((Gx.Ext.refl w).trans x12).trans x13).upd1 u2).trans x14)⟩ (fun hS9 => ?_)
    refine Z.t 0 (.string (clT (ds.take j) (ss.take j) ((((((Z.B [104, 97, 110, 100, 108, 101, 32]) ++ sx) ++ (Z.B [32, 119, 105, 116, 104, 32, 123, 32, 114, 101, 116, 117, 114, 110, 32])) ++ r.nm) ++ (Z.B [32, 61, 62, 32])) ++ sb))) hS9 ?_
    refine Z.tc 1 (clT (ds.take j) (ss.take j) ((((((Z.B [104, 97, 110, 100, 108, 101, 32]) ++ sx) ++ (Z.B [32, 119, 105, 116, 104, 32, 123, 32, 114, 101, 116, 117, 114, 110, 32])) ++ r.nm) ++ (Z.B [32, 61, 62, 32])) ++ sb)) (Z.B [32, 124, 32]) hS9 ?_
    refine Z.t 2 (Z.P k3 2) hS9 ?_
    refine Z.tl 3 2 (.string ((ds.getD j nd0).nm)) (fun _ hs => hs.1) hS9 ?_
    refine Z.tc 4 ((clT (ds.take j) (ss.take j) ((((((Z.B [104, 97, 110, 100, 108, 101, 32]) ++ sx) ++ (Z.B [32, 119, 105, 116, 104, 32, 123, 32, 114, 101, 116, 117, 114, 110, 32])) ++ r.nm) ++ (Z.B [32, 61, 62, 32])) ++ sb)) ++ (Z.B [32, 124, 32])) ((ds.getD j nd0).nm) hS9 ?_
    refine Z.tc 5 (((clT (ds.take j) (ss.take j) ((((((Z.B [104, 97, 110, 100, 108, 101, 32]) ++ sx) ++ (Z.B [32, 119, 105, 116, 104, 32, 123, 32, 114, 101, 116, 117, 114, 110, 32])) ++ r.nm) ++ (Z.B [32, 61, 62, 32])) ++ sb)) ++ (Z.B [32, 124, 32])) ++ ((ds.getD j nd0).nm)) (Z.B [32]) hS9 ?_
    refine Z.t 6 (Z.P k3 4) hS9 ?_
    refine Z.tl 7 4 (.slice (As (j + 2)) ((ds.getD j nd0).ks.length) (cs (j + 2))) (fun _ hs => hs.1) hS9 ?_
    obtain ⟨a14, ha14, hc14⟩ := (Gx.Rd.ext hr2 (by decide) hE) 0 (by omega)
    refine Z.ti 8 24 5 ha14 ((ds.getD j nd0).ks.length) (cs (j + 2)) 0 hS9 ?_
    refine Z.tf 9 (a14.add (0 * 5)) 2 hS9 ?_
    refine Z.to 10 [.string (((ds.getD j nd0).ks.getD 0 nd0).nm)] (.string (((ds.getD j nd0).ks.getD 0 nd0).nm)) 1 (Gx.cells_sub hc14 2 1 rfl) (fun _ hs => hs.2) hS9 ?_
    refine Z.tc 11 ((((clT (ds.take j) (ss.take j) ((((((Z.B [104, 97, 110, 100, 108, 101, 32]) ++ sx) ++ (Z.B [32, 119, 105, 116, 104, 32, 123, 32, 114, 101, 116, 117, 114, 110, 32])) ++ r.nm) ++ (Z.B [32, 61, 62, 32])) ++ sb)) ++ (Z.B [32, 124, 32])) ++ ((ds.getD j nd0).nm)) ++ (Z.B [32])) (((ds.getD j nd0).ks.getD 0 nd0).nm) hS9 ?_
    refine Z.tc 12 (((((clT (ds.take j) (ss.take j) ((((((Z.B [104, 97, 110, 100, 108, 101, 32]) ++ sx) ++ (Z.B [32, 119, 105, 116, 104, 32, 123, 32, 114, 101, 116, 117, 114, 110, 32])) ++ r.nm) ++ (Z.B [32, 61, 62, 32])) ++ sb)) ++ (Z.B [32, 124, 32])) ++ ((ds.getD j nd0).nm)) ++ (Z.B [32])) ++ (((ds.getD j nd0).ks.getD 0 nd0).nm)) (Z.B [32]) hS9 ?_
    refine Z.t 13 (Z.P k3 4) hS9 ?_
    refine Z.tl 14 4 (.slice (As (j + 2)) ((ds.getD j nd0).ks.length) (cs (j + 2))) (fun _ hs => hs.1) hS9 ?_
    obtain ⟨a15, ha15, hc15⟩ := (Gx.Rd.ext hr2 (by decide) hE) 1 (by omega)
    refine Z.ti 15 24 5 ha15 ((ds.getD j nd0).ks.length) (cs (j + 2)) 1 hS9 ?_
    refine Z.tf 16 (a15.add (1 * 5)) 2 hS9 ?_
    refine Z.to 17 [.string (((ds.getD j nd0).ks.getD 1 nd0).nm)] (.string (((ds.getD j nd0).ks.getD 1 nd0).nm)) 1 (Gx.cells_sub hc15 2 1 rfl) (fun _ hs => hs.2) hS9 ?_
    refine Z.tc 18 ((((((clT (ds.take j) (ss.take j) ((((((Z.B [104, 97, 110, 100, 108, 101, 32]) ++ sx) ++ (Z.B [32, 119, 105, 116, 104, 32, 123, 32, 114, 101, 116, 117, 114, 110, 32])) ++ r.nm) ++ (Z.B [32, 61, 62, 32])) ++ sb)) ++ (Z.B [32, 124, 32])) ++ ((ds.getD j nd0).nm)) ++ (Z.B [32])) ++ (((ds.getD j nd0).ks.getD 0 nd0).nm)) ++ (Z.B [32])) (((ds.getD j nd0).ks.getD 1 nd0).nm) hS9 ?_
    refine Z.tc 19 (((((((clT (ds.take j) (ss.take j) ((((((Z.B [104, 97, 110, 100, 108, 101, 32]) ++ sx) ++ (Z.B [32, 119, 105, 116, 104, 32, 123, 32, 114, 101, 116, 117, 114, 110, 32])) ++ r.nm) ++ (Z.B [32, 61, 62, 32])) ++ sb)) ++ (Z.B [32, 124, 32])) ++ ((ds.getD j nd0).nm)) ++ (Z.B [32])) ++ (((ds.getD j nd0).ks.getD 0 nd0).nm)) ++ (Z.B [32])) ++ (((ds.getD j nd0).ks.getD 1 nd0).nm)) (Z.B [32, 61, 62, 32]) hS9 ?_
    refine Z.t 20 (Z.P k3 4) hS9 ?_
    refine Z.tl 21 4 (.slice (As (j + 2)) ((ds.getD j nd0).ks.length) (cs (j + 2))) (fun _ hs => hs.1) hS9 ?_
    obtain ⟨a16, ha16, hc16⟩ := (Gx.Rd.ext hr2 (by decide) hE) 2 (by omega)
    refine Z.ti 22 24 5 ha16 ((ds.getD j nd0).ks.length) (cs (j + 2)) 2 hS9 ?_
    refine Z.ta 23 [.int .i64 ((((ds.getD j nd0).ks.getD 2 nd0).k : Nat) : Int), .int .i64 ((((ds.getD j nd0).ks.getD 2 nd0).a : Nat) : Int), .string (((ds.getD j nd0).ks.getD 2 nd0).nm), .int .i64 (((ds.getD j nd0).ks.getD 2 nd0).n), .slice (Ds 2) (((ds.getD j nd0).ks.getD 2 nd0).ks.length) (es 2)] 5 hc16 (fun _ hs => hs.2) hS9 ?_
    refine Z.o 24 (fun R hR => hw2 _ R (Gx.Ext.trans hE (((((Gx.Ext.refl w).trans x12).trans x13).upd1 u2).trans x14)) (fun w17 x15 => hR _ _ ⟨⟨((b7.ext x14).ext x15), ((((((Gx.Ext.refl w).trans x12).trans x13).upd1 u2).trans x14).trans x15)⟩, fun hS10 => ?_⟩))
    have zw17 := x15.size
    refine Z.tc 25 ((((((((clT (ds.take j) (ss.take j) ((((((Z.B [104, 97, 110, 100, 108, 101, 32]) ++ sx) ++ (Z.B [32, 119, 105, 116, 104, 32, 123, 32, 114, 101, 116, 117, 114, 110, 32])) ++ r.nm) ++ (Z.B [32, 61, 62, 32])) ++ sb)) ++ (Z.B [32, 124, 32])) ++ ((ds.getD j nd0).nm)) ++ (Z.B [32])) ++ (((ds.getD j nd0).ks.getD 0 nd0).nm)) ++ (Z.B [32])) ++ (((ds.getD j nd0).ks.getD 1 nd0).nm)) ++ (Z.B [32, 61, 62, 32])) (ss.getD j (⟨#[]⟩ : ByteArray)) hS10 ?_
    refine Z.t 26 (.string (((((((((clT (ds.take j) (ss.take j) ((((((Z.B [104, 97, 110, 100, 108, 101, 32]) ++ sx) ++ (Z.B [32, 119, 105, 116, 104, 32, 123, 32, 114, 101, 116, 117, 114, 110, 32])) ++ r.nm) ++ (Z.B [32, 61, 62, 32])) ++ sb)) ++ (Z.B [32, 124, 32])) ++ ((ds.getD j nd0).nm)) ++ (Z.B [32])) ++ (((ds.getD j nd0).ks.getD 0 nd0).nm)) ++ (Z.B [32])) ++ (((ds.getD j nd0).ks.getD 1 nd0).nm)) ++ (Z.B [32, 61, 62, 32])) ++ (ss.getD j (⟨#[]⟩ : ByteArray)))) hS10 ?_
    refine Z.q ?_
    refine Gx.block_normal (Z.x (Z.g [0, 1, 2] ?_))
    refine Z.p [0] [1, 2] [(38, .int .i64 ((j + 2 : Nat) : Int))] ?_
    refine Gx.pure_eq [1] [2] [(39, .int .i64 (IntKind.i64.wrap (((j + 2 : Nat) : Int) + (1 : Int))))] [(39, .int .i64 ((j + 1 + 2 : Nat) : Int))] rfl (by kernel_rfl) (Gx.eqI (Gx.i64n (by omega) (by omega))) ?_
    refine Z.p [2] [] [(4, .int .i64 ((j + 1 + 2 : Nat) : Int))] ?_
    refine Gx.ops_nil (Z.x ?_)
    rw [Gx.forget [(1, Z.P k1 0), (3, .string (clT (ds.take (j + 1)) (ss.take (j + 1)) ((((((Z.B [104, 97, 110, 100, 108, 101, 32]) ++ sx) ++ (Z.B [32, 119, 105, 116, 104, 32, 123, 32, 114, 101, 116, 117, 114, 110, 32])) ++ r.nm) ++ (Z.B [32, 61, 62, 32])) ++ sb))), (4, .int .i64 (((j + 1) + 2 : Nat) : Int))] (by rw [clT_succ ds ss _ j hl (by omega)]; unfold cl1; kernel_rfl)]
    exact hK2 _ _ _ _ (by omega) ⟨(j + 1), rfl, rfl, ((((((Gx.Ext.refl w).trans x12).trans x13).upd1 u2).trans x14).trans x15), ((((b5.ext x13).upd1 u2).ext x14).ext x15), (by omega)⟩
  have p_c37 := of_decide_eq_false h_c37
  refine wp_exit (Gx.then_exit (Gx.then_exit (Gx.block_exit (Z.x ?_))))
  obtain rfl : j = ds.length := by omega
  rw [clT_all ds ss _ hl]
  refine Z.r [0, 1, 2] ?_
  refine Z.p [0] [1, 2] [(71, .string (clT ds ss ((((((Z.B [104, 97, 110, 100, 108, 101, 32]) ++ sx) ++ (Z.B [32, 119, 105, 116, 104, 32, 123, 32, 114, 101, 116, 117, 114, 110, 32])) ++ r.nm) ++ (Z.B [32, 61, 62, 32])) ++ sb)))] ?_
  refine Z.C (clT ds ss ((((((Z.B [104, 97, 110, 100, 108, 101, 32]) ++ sx) ++ (Z.B [32, 119, 105, 116, 104, 32, 123, 32, 114, 101, 116, 117, 114, 110, 32])) ++ r.nm) ++ (Z.B [32, 61, 62, 32])) ++ sb)) (Z.B [32, 125]) ?_
  refine Z.p [2] [] [(2, .string ((clT ds ss ((((((Z.B [104, 97, 110, 100, 108, 101, 32]) ++ sx) ++ (Z.B [32, 119, 105, 116, 104, 32, 123, 32, 114, 101, 116, 117, 114, 110, 32])) ++ r.nm) ++ (Z.B [32, 61, 62, 32])) ++ sb)) ++ (Z.B [32, 125])))] ?_
  refine Z.e (wp_ret (Z.v (.string ((clT ds ss ((((((Z.B [104, 97, 110, 100, 108, 101, 32]) ++ sx) ++ (Z.B [32, 119, 105, 116, 104, 32, 123, 32, 114, 101, 116, 117, 114, 110, 32])) ++ r.nm) ++ (Z.B [32, 61, 62, 32])) ++ sb)) ++ (Z.B [32, 125]))) ?_))
  exact Gx.ret_as rfl (hK _ ((Gx.Ext.refl w).trans x12))

set_option maxHeartbeats 400000 in
set_option maxRecDepth 10000 in
theorem Write_20 (w0 : World) (a : Nat) (nm : ByteArray) (n : Int) (x r : Nd) (ds : List Nd) (ss : List ByteArray) (A : Option Addr) (c : Nat) (As : Nat → Option Addr) (cs : Nat → Nat) (sx sb : ByteArray) (Bs : Nat → Option Addr) (bs : Nat → Nat) (w : World) (K : Ending → World → Prop) (hE : Gx.Ext w0 w) (hr : Gx.Rd w0 A (ds.length + 2) 5 (fun i => ndC ((x :: r :: ds).getD i nd0) (As i) (cs i))) (hrk : r.ks.length = 1) (hr1 : Gx.Rd w0 (As 1) r.ks.length 5 (fun i => ndC (r.ks.getD i nd0) (Bs i) (bs i))) (h0 : WOK w0 x (As 0) (cs 0) sx) (h1 : WOK w0 (r.ks.getD 0 nd0) (Bs 0) (bs 0) sb) (hl : ss.length = ds.length) (hcl : ∀ j, j < ds.length → (ds.getD j nd0).ks.length = 3 ∧ ∃ (Ds : Nat → Option Addr) (es : Nat → Nat), Gx.Rd w0 (As (j + 2)) (ds.getD j nd0).ks.length 5 (fun i => ndC ((ds.getD j nd0).ks.getD i nd0) (Ds i) (es i)) ∧ WOK w0 ((ds.getD j nd0).ks.getD 2 nd0) (Ds 2) (es 2) (ss.getD j (⟨#[]⟩ : ByteArray))) (hsz : (clT ds ss ((((((if n = 1 then (Z.B [115, 104, 97, 108, 108, 111, 119, 32]) else (Z.B [104, 97, 110, 100, 108, 101, 32])) ++ sx) ++ (Z.B [32, 119, 105, 116, 104, 32, 123, 32, 114, 101, 116, 117, 114, 110, 32])) ++ r.nm) ++ (Z.B [32, 61, 62, 32])) ++ sb) ++ (Z.B [32, 125])).size ≤ 400000000) (hK : ∀ w', Gx.Ext w w' → K (.returned (.string (clT ds ss ((((((if n = 1 then (Z.B [115, 104, 97, 108, 108, 111, 119, 32]) else (Z.B [104, 97, 110, 100, 108, 101, 32])) ++ sx) ++ (Z.B [32, 119, 105, 116, 104, 32, 123, 32, 114, 101, 116, 117, 114, 110, 32])) ++ r.nm) ++ (Z.B [32, 61, 62, 32])) ++ sb) ++ (Z.B [32, 125])))) w') :
    Calls Tryd.prog 7 #[.agg #[.int .i64 20, Z.n a, .string nm, .int .i64 n, .slice A (ds.length + 2) c]] w K := by
  refine Gx.enter 307 Tryd.func7 rfl rfl (Nat.le_of_ble_eq_true rfl) ?_
  refine Z.r [0, 1] ?_
  refine Z.N (.cells #[.int .i64 20, Z.n a, .string nm, .int .i64 n, .slice A (ds.length + 2) c] 24) (fun k1 w1 l1 x1 b1 zw1 tb1 => ?_)
  refine Z.p [1] [] [(2, .string Z.E)] ?_
  refine Z.e (Z.r [0, 1, 2] ?_)
  refine Z.p [0] [1, 2] [(6, Z.P k1 4)] ?_
  refine Z.L 4 (.slice A (ds.length + 2) c) b1 ?_
  refine Z.p [2] [] [(3, .slice A (ds.length + 2) c)] ?_
  refine Z.e (wp_seq (Z.r [0, 1] ?_))
  refine Z.p [0] [1] [(8, Z.P k1 0)] ?_
  refine Z.L 0 (.int .i64 20) b1 ?_
  refine Z.e (wp_block (Z.sf [(10, .bool false), (11, .bool false)] ?_))
  refine Z.sf [(14, .bool false), (15, .bool false)] ?_
  refine Z.sf [(27, .bool false), (28, .bool false)] ?_
  refine Z.sf [(32, .bool false), (33, .bool false)] ?_
  refine wp_seq (Z.sf [(34, .bool false), (35, .bool false)] ?_)
  refine Z.u [(34, .bool false), (36, .bool false)] ?_
  refine Z.x (Z.cf ?_)
  refine Z.sf [(39, .bool false), (40, .bool false)] ?_
  refine Z.sf [(50, .bool false), (51, .bool false)] ?_
  refine Z.sf [(72, .bool false), (73, .bool false)] ?_
  refine Z.sf [(107, .bool false), (108, .bool false)] ?_
  refine Z.sf [(119, .bool false), (120, .bool false)] ?_
  refine Z.sf [(138, .bool false), (139, .bool false)] ?_
  refine Z.sf [(152, .bool false), (153, .bool false)] ?_
  refine Z.sf [(159, .bool false), (160, .bool false)] ?_
  refine Z.sf [(166, .bool false), (167, .bool false)] ?_
  refine Z.sf [(168, .bool false), (169, .bool false)] ?_
  refine Z.sf [(180, .bool false), (181, .bool false)] ?_
  refine Z.sf [(212, .bool false), (213, .bool false)] ?_
  refine Z.sf [(263, .bool false), (264, .bool false)] ?_
  refine Z.st [(274, .bool true), (275, .bool true)] ?_
  refine Z.r [0, 1, 2] ?_
  refine Z.L 0 (.agg #[.int .i64 20, Z.n a, .string nm, .int .i64 n, .slice A (ds.length + 2) c]) b1 ?_
  refine Z.k (fun R hR => handleW_c w0 a nm n x r ds ss A c As cs sx sb Bs bs  _ R (Gx.Ext.trans hE ((Gx.Ext.refl w).trans x1)) hr hrk hr1 h0 h1 hl hcl hsz (fun w2 x2  => hR _ _ ?_))
  have zw2 := x2.size
  refine Z.p [2] [] [(2, .string (clT ds ss ((((((if n = 1 then (Z.B [115, 104, 97, 108, 108, 111, 119, 32]) else (Z.B [104, 97, 110, 100, 108, 101, 32])) ++ sx) ++ (Z.B [32, 119, 105, 116, 104, 32, 123, 32, 114, 101, 116, 117, 114, 110, 32])) ++ r.nm) ++ (Z.B [32, 61, 62, 32])) ++ sb) ++ (Z.B [32, 125])))] ?_
  refine Z.e (wp_ret (Gx.block_ret (Gx.then_ret (Z.v (.string (clT ds ss ((((((if n = 1 then (Z.B [115, 104, 97, 108, 108, 111, 119, 32]) else (Z.B [104, 97, 110, 100, 108, 101, 32])) ++ sx) ++ (Z.B [32, 119, 105, 116, 104, 32, 123, 32, 114, 101, 116, 117, 114, 110, 32])) ++ r.nm) ++ (Z.B [32, 61, 62, 32])) ++ sb) ++ (Z.B [32, 125]))) ?_))))
  exact Gx.ret_as (v' := .string (clT ds ss ((((((if n = 1 then (Z.B [115, 104, 97, 108, 108, 111, 119, 32]) else (Z.B [104, 97, 110, 100, 108, 101, 32])) ++ sx) ++ (Z.B [32, 119, 105, 116, 104, 32, 123, 32, 114, 101, 116, 117, 114, 110, 32])) ++ r.nm) ++ (Z.B [32, 61, 62, 32])) ++ sb) ++ (Z.B [32, 125]))) (by rfl) (hK _ (((Gx.Ext.refl w).trans x1).trans x2))

end Go.Proofs.YtinilkomfggjiaaDoor
