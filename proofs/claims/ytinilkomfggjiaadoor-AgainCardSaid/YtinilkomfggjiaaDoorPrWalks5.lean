/- The walks, written by a program of ours (wip/gx/gx.py, printgen.py). -/
import Derived.Test.YtinilkomfggjiaaDoorRows
import Derived.Test.YtinilkomfggjiaaDoorGs
import Derived.Test.YtinilkomfggjiaaDoorSynBuild
import Derived.Test.YtinilkomfggjiaaDoorPrWalks4
set_option linter.unusedVariables false
set_option linter.unusedSimpArgs false
set_option maxHeartbeats 4000000
set_option maxRecDepth 20000
namespace Go.Proofs.YtinilkomfggjiaaDoor
open Go.RowKit Go.Lex Go.Syn
open Go.Show (digB e0 dig_small dig_step app_e0 app_assoc)
attribute [local irreducible] Go.wpOps Go.Code.wp Go.wpOp Go.wpAnyH Go.Calls Go.Syn.J
theorem typ_29 (B b : Nat) (x : ByteArray) (w0 : World) (a : Nat) (nm : ByteArray) (n : Int) (A : Option Addr) (c : Nat) (As : Nat → Option Addr) (cs : Nat → Nat) (kA kB : Nd) (ps : List Nd) (tA tB : ByteArray) (w : World) (K : Ending → World → Prop) (h : Bd w B b x) (hBw : B ≤ w.heap.size) (hE : Gx.Ext w0 w) (hw0B : w0.heap.size ≤ B) (hsz : x.size + ((inT 1 kA tA ++ arrT ps) ++ tB).size ≤ 100000000000) (hr : Gx.Rd w0 A (ps.length + 2) 5 (fun i => ndC ((kA :: kB :: ps).getD i nd0) (As i) (cs i))) (h0 : POK w0 kA (As 0) (cs 0) tA) (h1 : POK w0 kB (As 1) (cs 1) tB) (o0 : Op5 kA) (p0 : 0 < tA.size) (p1 : 0 < tB.size) (hcap : ps.length + 2 ≤ c) (hps : ps.length ≤ 400000000000) (hK : ∀ w' s', s' = J x ((inT 1 kA tA ++ arrT ps) ++ tB) → Gx.Wx 5 B b w w' → Bd w' B b s' → K (.returned (.tuple #[])) w') :
    Calls Tryd.prog 40 #[Z.P b 0, .agg #[.int .i64 29, Z.n a, .string nm, .int .i64 n, .slice A (ps.length + 2) c]] w K := by
  refine Z.en 79 Tryd.func40 ?_
  have tbb : b < w.heap.size := by obtain ⟨_, _, hq, _⟩ := h; exact hq.lt
  have hB : B ≤ b := by obtain ⟨_, _, _, _, hq, _⟩ := h; exact hq
  have hq := hsz; (try simp only [zap, zli, List.length] at hq)
  have i1 := inT_le 1 kA tA; have hT : ps.length ≠ 0 → (arrT ps).size = 7 + (arJ ps ps.length).size := (fun h => by rw [arrT_arJ ps h]; simp only [zap, zli, List.length]; omega); have hT0 : ps.length = 0 → (arrT ps).size = 4 := (fun h => by unfold arrT; rw [if_pos h]; rfl)
  refine Z.r [0] ?_
  refine Z.N (.cells #[.int .i64 29, Z.n a, .string nm, .int .i64 n, .slice A (ps.length + 2) c] 24) (fun k1 w1 l1 x1 b1 zw1 tb1 => ?_)
  refine Z.e (Z.r [0, 1, 2] ?_)
  refine Z.p [0] [1, 2] [(7, Z.P k1 4)] ?_
  refine Z.L 4 (.slice A (ps.length + 2) c) b1 ?_
  refine Z.p [2] [] [(4, .slice A (ps.length + 2) c)] ?_
  refine Z.e (Z.r [0, 1] ?_)
  refine Z.p [0] [1] [(9, Z.P k1 0)] ?_
  refine Z.L 0 (.int .i64 29) b1 ?_
  refine Z.e (wp_block (wp_seq (Z.sf [(11, .bool false), (12, .bool false)] ?_)))
  refine Z.sf [(11, .bool false), (13, .bool false)] ?_
  refine Z.u [(11, .bool false), (14, .bool false)] ?_
  refine Z.x (Z.cf ?_)
  refine Z.sf [(21, .bool false), (22, .bool false)] ?_
  refine Z.sf [(31, .bool false), (32, .bool false)] ?_
  refine Z.st [(36, .bool true), (37, .bool true)] ?_
  refine Z.r [0, 1, 2, 3, 4] ?_
  refine Z.p [0, 1] [2, 3, 4] [(39, .slice A (ps.length + 2) c), (38, Z.P b 0)] ?_
  obtain ⟨a1, ha1, hc1⟩ := hr 0 (by omega)
  refine Z.I 24 5 ha1 (ps.length + 2) c 0 ?_
  refine Z.La [Z.n kA.k, Z.n kA.a, .string kA.nm, .int .i64 kA.n, .slice (As 0) kA.ks.length (cs 0)] 5 hc1 (Gx.Ext.wx hE ((Gx.Wx.refl (e := 5) (wb := b) w hBw).ext x1) hw0B) ?_
  have zs1 := (J_size x (inT 1 kA tA)).1
  (try simp only [zap, zli, List.length] at zs1)
  refine Z.k (fun R hR => kid_c B b x w0 kA (As 0) (cs 0) tA 1 _ R (h.ext x1) (by omega) (Gx.Ext.wx hE ((Gx.Wx.refl (e := 5) (wb := b) w hBw).ext x1) hw0B) hw0B (by omega) h0 o0 (fun w2 s1 hs1 x2 hbd1 => hR _ _ ?_))
  have zw2 := x2.size
  rw [← hs1] at zs1
  refine Z.e (wp_seq (Z.s [(45, .bool ((((ps.length + 2) : Nat) : Int) == (2 : Int))), (44, .int .i64 (((ps.length + 2) : Nat) : Int)), (43, .slice A (ps.length + 2) c)] ?_))
  refine Z.c ((((ps.length + 2) : Nat) : Int) == (2 : Int)) (fun h_c45 => ?_) (fun h_c45 => ?_)
  · skip
    have n_c45 : (ps.length + 2) = 2 := by have z := Gx.k1 h_c45; omega
    refine Z.g [0, 1, 2] ?_
    refine Z.p [0] [1, 2] [(46, Z.P b 0)] ?_
    refine Z.R (.cells #[.string Z.k15] 9) 1 1 (fun k2 w3 l2 x3 b2 zw3 tb2 => ?_)
    have zs2 : (putJ s1 [Z.k15]).size ≤ s1.size + (Z.k15.size + 1 + 0) := putJ_bd [Z.k15] s1
    (try simp only [zap, zli, List.length] at zs2)
    refine Z.k (fun R hR => put_c B b s1 [Z.k15] k2 1 _ R (hbd1.ext x3) (by omega) b2 (by omega) (Nat.le_of_ble_eq_true rfl) (by omega) (fun w4 s2 hs2 x4 hbd2 => hR _ _ ?_))
    have zw4 := x4.size
    rw [← hs2] at zs2
    refine Gx.ops_nil (Z.x (Z.g [0, 1, 2, 3, 4] ?_))
    refine Z.p [0, 1] [2, 3, 4] [(75, .slice A (ps.length + 2) c), (74, Z.P b 0)] ?_
    obtain ⟨a2, ha2, hc2⟩ := hr 1 (by omega)
    refine Z.I 24 5 ha2 (ps.length + 2) c 1 ?_
    refine Z.La [Z.n kB.k, Z.n kB.a, .string kB.nm, .int .i64 kB.n, .slice (As 1) kB.ks.length (cs 1)] 5 hc2 (Gx.Ext.wx hE (((((Gx.Wx.refl (e := 5) (wb := b) w hBw).ext x1).trans x2).ext x3).trans x4) hw0B) ?_
    have zs3 := (J_size s2 tB).1
    (try simp only [zap, zli, List.length] at zs3)
    refine Z.k (fun R hR => h1 B b s2 _ R hbd2 (by omega) (Gx.Ext.wx hE (((((Gx.Wx.refl (e := 5) (wb := b) w hBw).ext x1).trans x2).ext x3).trans x4) hw0B) hw0B (by omega) (fun w5 s3 hs3 x5 hbd3 => hR _ _ ?_))
    have zw5 := x5.size
    rw [← hs3] at zs3
    refine Gx.ops_nil (Gx.block_normal (Gx.ret_n (Gx.res0 rfl) ?_))
    exact hK _ _ (by rw [hs3, hs2, hs1]; show putJ x [inT 1 kA tA, Z.k15, tB] = _; rw [putJ_join _ (by first | decide | omega | (simp only [zap, zli, List.length]; omega))]; exact congrArg (J x) (bl (by rw [arrT, if_pos (by omega)]; (try simp [joinS, l_app, Z.bd, Z.ed])))) ((((((Gx.Wx.refl (e := 5) (wb := b) w hBw).ext x1).trans x2).ext x3).trans x4).trans x5) hbd3
  have n_c45 : ¬ (ps.length + 2) = 2 := by have z := Gx.k0 h_c45; omega
  refine Z.r [0, 1, 2] ?_
  refine Z.p [0] [1, 2] [(49, Z.P b 0)] ?_
  refine Z.R (.cells #[.string Z.k5, .string Z.k20] 9) 2 2 (fun k3 w6 l3 x6 b3 zw6 tb3 => ?_)
  have zs4 : (putJ s1 [Z.k5, Z.k20]).size ≤ s1.size + (Z.k5.size + 1 + (Z.k20.size + 1 + 0)) := putJ_bd [Z.k5, Z.k20] s1
  (try simp only [zap, zli, List.length] at zs4)
  refine Z.k (fun R hR => put_c B b s1 [Z.k5, Z.k20] k3 2 _ R (hbd1.ext x6) (by omega) b3 (by omega) (Nat.le_of_ble_eq_true rfl) (by omega) (fun w7 s4 hs4 x7 hbd4 => hR _ _ ?_))
  have zw7 := x7.size
  rw [← hs4] at zs4
  refine Z.e (wp_seq (Z.r [0, 1, 2, 3] ?_))
  refine Z.p [0] [1, 2, 3] [(52, .slice A (ps.length + 2) c)] ?_
  have hrt := Gx.Rd.tail hr hcap
  refine Gx.cons (Gx.op_slice_lo rfl (by kernel_rfl) rfl 24 5 (by kernel_rfl) (by kernel_rfl) A (ps.length + 2) c (by kernel_rfl) .i64 2 (by kernel_rfl) (by omega) ps.length rfl ?_)
  refine Z.p [2, 3] [] [(55, .int .i64 0), (54, Z.n ps.length)] ?_
  refine Z.e (wp_block (Gx.loop (n' := 79) (d' := []) (fun mz l' w' => ∃ (j : Nat) (si : ByteArray), l' = [(0, Z.P b 0), (4, .slice A (ps.length + 2) c), (53, .slice (if c = 2 then A else A.map (fun a_ => a_.add (2 * 5))) ps.length (c - 2)), (54, Z.n ps.length), (55, Z.n j)] ∧ mz = ps.length - j ∧ Gx.Wx 5 B b w w' ∧ (j ≤ ps.length) ∧ (si = J s1 (arJ ps j)) ∧ (Bd w' B b si)) _ _ [(0, Z.P b 0), (4, .slice A (ps.length + 2) c), (53, .slice (if c = 2 then A else A.map (fun a_ => a_.add (2 * 5))) ps.length (c - 2)), (54, Z.n ps.length), (55, Z.n 0)] (Gx.forget [(0, Z.P b 0), (4, .slice A (ps.length + 2) c), (53, .slice (if c = 2 then A else A.map (fun a_ => a_.add (2 * 5))) ps.length (c - 2)), (54, Z.n ps.length), (55, Z.n 0)] (by kernel_rfl)) ⟨0, s4, rfl, rfl, (((((Gx.Wx.refl (e := 5) (wb := b) w hBw).ext x1).trans x2).ext x6).trans x7), (Nat.zero_le _), (by rw [hs4]; show putJ s1 [Z.k5, Z.k20] = _; rw [putJ_join _ (by first | decide | omega | (simp only [zap, zli, List.length]; omega))]; exact congrArg (J s1) (bl (by show _ = ((Z.B [45, 32, 123])).data.toList; (try simp [joinS, l_app, Z.bd, Z.ed])))), hbd4⟩ (fun bb1 m1 ll1 w8 hI1 K1 hK1 => ?_)))
  obtain ⟨j, si, rfl, rfl, x8, hj, hs0, hbd⟩ := hI1
  have zw8 := x8.size
  have z0 : si.size ≤ s1.size + 1 + (arJ ps j).size := by rw [hs0]; exact (J_size _ _).1
  have g1 := arJ_le ps j hj; have g0 := arJ_pos ps j
  refine Z.s [(56, .bool (decide (((j : Nat) : Int) < ((ps.length : Nat) : Int))))] ?_
  refine wp_seq (Z.c (decide (((j : Nat) : Int) < ((ps.length : Nat) : Int))) (fun h_c56 => ?_) (fun h_c56 => ?_))
  · skip
    have p_c56 := of_decide_eq_true h_c56
    refine wp_skip (Z.x (wp_seq (wp_block ?_)))
    have g2 := arJ_le ps (j + 1) (by omega); have g3 := arJ_step ps j
    refine Z.r [0, 1, 2, 3, 4, 5] ?_
    refine Z.p [0] [1, 2, 3, 4, 5] [(57, Z.n j)] ?_
    obtain ⟨a3, ha3, hc3⟩ := hrt j (by omega)
    refine Z.I 24 5 ha3 ps.length (c - 2) j ?_
    refine Z.La [.int .i64 (((ps.getD j nd0).k : Nat) : Int), .int .i64 (((ps.getD j nd0).a : Nat) : Int), .string ((ps.getD j nd0).nm), .int .i64 ((ps.getD j nd0).n), .slice (As (j + 2)) ((ps.getD j nd0).ks.length) (cs (j + 2))] 5 hc3 (Gx.Ext.wx hE ((Gx.Wx.refl (e := 5) (wb := b) w hBw).trans x8) hw0B) ?_
    refine Z.N Z.c0 (fun k4 w9 l4 x9 b4 zw9 tb4 => ?_)
    refine Z.p [4] [5] [(5, Z.n j)] ?_
    refine Z.Sa #[.int .i64 (((ps.getD j nd0).k : Nat) : Int), .int .i64 (((ps.getD j nd0).a : Nat) : Int), .string ((ps.getD j nd0).nm), .int .i64 ((ps.getD j nd0).n), .slice (As (j + 2)) ((ps.getD j nd0).ks.length) (cs (j + 2))] b4 (fun w10 u1 b5 zw10 => ?_)
    refine Z.e (wp_seq (Z.s [(61, .bool (decide (((j : Nat) : Int) > (0 : Int)))), (60, Z.n j)] ?_))
    refine Z.c (decide (((j : Nat) : Int) > (0 : Int))) (fun h_c61 => ?_) (fun h_c61 => ?_)
    · skip
      have p_c61 := of_decide_eq_true h_c61
      refine Z.g [0, 1, 2] ?_
      refine Z.p [0] [1, 2] [(62, Z.P b 0)] ?_
      refine Z.R (.cells #[.string Z.k16] 9) 1 1 (fun k5 w11 l5 x10 b6 zw11 tb6 => ?_)
      have zs5 : (putJ si [Z.k16]).size ≤ si.size + (Z.k16.size + 1 + 0) := putJ_bd [Z.k16] si
      (try simp only [zap, zli, List.length] at zs5)
      refine Z.k (fun R hR => put_c B b si [Z.k16] k5 1 _ R (((hbd.ext x9).updO u1 b4 (fun _ _ q => by cases q) (by omega)).ext x10) (by omega) b6 (by omega) (Nat.le_of_ble_eq_true rfl) (by omega) (fun w12 s5 hs5 x11 hbd5 => hR _ _ ?_))
      have zw12 := x11.size
      rw [← hs5] at zs5
      refine Gx.ops_nil (Z.x (Z.g [0, 1, 2, 3, 4] ?_))
      refine Z.p [0, 1] [2, 3, 4] [(66, Z.P k4 2), (65, Z.P b 0)] ?_
      refine Z.L 2 (.string ((ps.getD j nd0).nm)) (x11.has (b5.ext x10) (by omega) (by decide)) ?_
      refine Z.R (.cells #[.string ((ps.getD j nd0).nm)] 9) 1 1 (fun k6 w13 l6 x12 b7 zw13 tb7 => ?_)
      have zs6 : (putJ s5 [(ps.getD j nd0).nm]).size ≤ s5.size + (((ps.getD j nd0).nm).size + 1 + 0) := putJ_bd [(ps.getD j nd0).nm] s5
      (try simp only [zap, zli, List.length] at zs6)
      refine Z.k (fun R hR => put_c B b s5 [(ps.getD j nd0).nm] k6 1 _ R (hbd5.ext x12) (by omega) b7 (by omega) (Nat.le_of_ble_eq_true rfl) (by omega) (fun w14 s6 hs6 x13 hbd6 => hR _ _ ?_))
      have zw14 := x13.size
      rw [← hs6] at zs6
      refine Gx.ops_nil (Gx.block_normal (Z.x (Z.g [0, 1] ?_)))
      refine Gx.pure_eq [0] [1] [(70, .int .i64 (IntKind.i64.wrap (((j : Nat) : Int) + (1 : Int))))] [(70, .int .i64 ((j + 1 : Nat) : Int))] rfl (by kernel_rfl) (Gx.eqI (Gx.i64n (by omega) (by omega))) ?_
      refine Z.p [1] [] [(55, .int .i64 ((j + 1 : Nat) : Int))] ?_
      refine Gx.ops_nil (Z.x ?_)
      rw [Gx.forget [(0, Z.P b 0), (4, .slice A (ps.length + 2) c), (53, .slice (if c = 2 then A else A.map (fun a_ => a_.add (2 * 5))) ps.length (c - 2)), (54, Z.n ps.length), (55, .int .i64 (((j + 1) : Nat) : Int))] (by kernel_rfl)]
      exact hK1 _ _ _ _ (by omega) ⟨(j + 1), s6, rfl, rfl, ((((((((Gx.Wx.refl (e := 5) (wb := b) w hBw).trans x8).ext x9).upd_new u1).ext x10).trans x11).ext x12).trans x13), (by omega), (by rw [hs6, hs5, hs0]; show putJ s1 [arJ ps j, Z.k16, (ps.getD j nd0).nm] = _; rw [putJ_join _ (by first | decide | omega | (simp only [zap, zli, List.length]; omega))]; exact congrArg (J s1) (bl (by rw [arJ_succ, if_pos (by have q := of_decide_eq_true h_c61; omega)]; (try simp [joinS, l_app, Z.bd, Z.ed])))), hbd6⟩
    have p_c61 := of_decide_eq_false h_c61
    refine wp_skip (Z.x (Z.g [0, 1, 2, 3, 4] ?_))
    refine Z.p [0, 1] [2, 3, 4] [(66, Z.P k4 2), (65, Z.P b 0)] ?_
    refine Z.L 2 (.string ((ps.getD j nd0).nm)) b5 ?_
    refine Z.R (.cells #[.string ((ps.getD j nd0).nm)] 9) 1 1 (fun k7 w15 l7 x14 b8 zw15 tb8 => ?_)
    have zs7 : (putJ si [(ps.getD j nd0).nm]).size ≤ si.size + (((ps.getD j nd0).nm).size + 1 + 0) := putJ_bd [(ps.getD j nd0).nm] si
    (try simp only [zap, zli, List.length] at zs7)
    refine Z.k (fun R hR => put_c B b si [(ps.getD j nd0).nm] k7 1 _ R (((hbd.ext x9).updO u1 b4 (fun _ _ q => by cases q) (by omega)).ext x14) (by omega) b8 (by omega) (Nat.le_of_ble_eq_true rfl) (by omega) (fun w16 s7 hs7 x15 hbd7 => hR _ _ ?_))
    have zw16 := x15.size
    rw [← hs7] at zs7
    refine Gx.ops_nil (Gx.block_normal (Z.x (Z.g [0, 1] ?_)))
    refine Gx.pure_eq [0] [1] [(70, .int .i64 (IntKind.i64.wrap (((j : Nat) : Int) + (1 : Int))))] [(70, .int .i64 ((j + 1 : Nat) : Int))] rfl (by kernel_rfl) (Gx.eqI (Gx.i64n (by omega) (by omega))) ?_
    refine Z.p [1] [] [(55, .int .i64 ((j + 1 : Nat) : Int))] ?_
    refine Gx.ops_nil (Z.x ?_)
    rw [Gx.forget [(0, Z.P b 0), (4, .slice A (ps.length + 2) c), (53, .slice (if c = 2 then A else A.map (fun a_ => a_.add (2 * 5))) ps.length (c - 2)), (54, Z.n ps.length), (55, .int .i64 (((j + 1) : Nat) : Int))] (by kernel_rfl)]
    exact hK1 _ _ _ _ (by omega) ⟨(j + 1), s7, rfl, rfl, ((((((Gx.Wx.refl (e := 5) (wb := b) w hBw).trans x8).ext x9).upd_new u1).ext x14).trans x15), (by omega), (by rw [hs7, hs0]; show putJ s1 [arJ ps j, (ps.getD j nd0).nm] = _; rw [putJ_join _ (by first | decide | omega | (simp only [zap, zli, List.length]; omega))]; exact congrArg (J s1) (bl (by rw [arJ_succ, if_neg (by have q := of_decide_eq_false h_c61; omega)]; (try simp [joinS, l_app, Z.bd, Z.ed])))), hbd7⟩
  have p_c56 := of_decide_eq_false h_c56
  refine wp_exit (Gx.then_exit (Gx.then_exit (Gx.block_exit (Z.x ?_))))
  obtain rfl : j = ps.length := by omega
  refine Z.g [0, 1, 2] ?_
  refine Z.p [0] [1, 2] [(71, Z.P b 0)] ?_
  refine Z.R (.cells #[.string Z.k11, .string Z.k15] 9) 2 2 (fun k8 w17 l8 x16 b9 zw17 tb9 => ?_)
  have zs8 : (putJ si [Z.k11, Z.k15]).size ≤ si.size + (Z.k11.size + 1 + (Z.k15.size + 1 + 0)) := putJ_bd [Z.k11, Z.k15] si
  (try simp only [zap, zli, List.length] at zs8)
  refine Z.k (fun R hR => put_c B b si [Z.k11, Z.k15] k8 2 _ R (hbd.ext x16) (by omega) b9 (by omega) (Nat.le_of_ble_eq_true rfl) (by omega) (fun w18 s8 hs8 x17 hbd8 => hR _ _ ?_))
  have zw18 := x17.size
  rw [← hs8] at zs8
  refine Gx.ops_nil (Z.x (Z.g [0, 1, 2, 3, 4] ?_))
  refine Z.p [0, 1] [2, 3, 4] [(75, .slice A (ps.length + 2) c), (74, Z.P b 0)] ?_
  obtain ⟨a4, ha4, hc4⟩ := hr 1 (by omega)
  refine Z.I 24 5 ha4 (ps.length + 2) c 1 ?_
  refine Z.La [Z.n kB.k, Z.n kB.a, .string kB.nm, .int .i64 kB.n, .slice (As 1) kB.ks.length (cs 1)] 5 hc4 (Gx.Ext.wx hE ((((Gx.Wx.refl (e := 5) (wb := b) w hBw).trans x8).ext x16).trans x17) hw0B) ?_
  have zs9 := (J_size s8 tB).1
  (try simp only [zap, zli, List.length] at zs9)
  refine Z.k (fun R hR => h1 B b s8 _ R hbd8 (by omega) (Gx.Ext.wx hE ((((Gx.Wx.refl (e := 5) (wb := b) w hBw).trans x8).ext x16).trans x17) hw0B) hw0B (by omega) (fun w19 s9 hs9 x18 hbd9 => hR _ _ ?_))
  have zw19 := x18.size
  rw [← hs9] at zs9
  refine Gx.ops_nil (Gx.block_normal (Gx.ret_n (Gx.res0 rfl) ?_))
  exact hK _ _ (by rw [hs9, hs8, hs0, hs1]; show putJ x [inT 1 kA tA, arJ ps ps.length, Z.k11, Z.k15, tB] = _; rw [putJ_join _ (by first | decide | omega | (simp only [zap, zli, List.length]; omega))]; exact congrArg (J x) (bl (by rw [arrT_arJ ps (by omega)]; (try simp [joinS, l_app, Z.bd, Z.ed])))) (((((Gx.Wx.refl (e := 5) (wb := b) w hBw).trans x8).ext x16).trans x17).trans x18) hbd9
theorem more_20_0 (B b : Nat) (x : ByteArray) (w0 : World) (a : Nat) (nm : ByteArray) (A : Option Addr) (c : Nat) (As : Nat → Option Addr) (cs : Nat → Nat) (kA r : Nd) (ds : List Nd) (ss : List ByteArray) (tA tR : ByteArray) (Bs : Nat → Option Addr) (bs : Nat → Nat) (w : World) (K : Ending → World → Prop) (h : Bd w B b x) (hBw : B ≤ w.heap.size) (hE : Gx.Ext w0 w) (hw0B : w0.heap.size ≤ B) (hsz : x.size + (clT ds ss (((((Z.k54 ++ tA) ++ Z.k40) ++ r.nm) ++ Z.k30) ++ tR) ++ (Z.B [32, 125])).size ≤ 100000000000) (hr : Gx.Rd w0 A (ds.length + 2) 5 (fun i => ndC ((kA :: r :: ds).getD i nd0) (As i) (cs i))) (hrk : r.ks.length = 1) (hr1 : Gx.Rd w0 (As 1) r.ks.length 5 (fun i => ndC (r.ks.getD i nd0) (Bs i) (bs i))) (h0 : POK w0 kA (As 0) (cs 0) tA) (h1 : POK w0 (r.ks.getD 0 nd0) (Bs 0) (bs 0) tR) (hl : ss.length = ds.length) (hcap : ds.length + 2 ≤ c) (hds : ds.length ≤ 400000000000) (hcl : ∀ j, j < ds.length → (ds.getD j nd0).ks.length = 3 ∧ ∃ (Ds : Nat → Option Addr) (es : Nat → Nat), Gx.Rd w0 (As (j + 2)) (ds.getD j nd0).ks.length 5 (fun i => ndC ((ds.getD j nd0).ks.getD i nd0) (Ds i) (es i)) ∧ POK w0 ((ds.getD j nd0).ks.getD 2 nd0) (Ds 2) (es 2) (ss.getD j Z.E)) (hK : ∀ w' s', s' = J x (clT ds ss (((((Z.k54 ++ tA) ++ Z.k40) ++ r.nm) ++ Z.k30) ++ tR) ++ (Z.B [32, 125])) → Gx.Wx 5 B b w w' → Bd w' B b s' → K (.returned (.tuple #[])) w') :
    Calls Tryd.prog 41 #[Z.P b 0, .agg #[.int .i64 20, Z.n a, .string nm, .int .i64 0, .slice A (ds.length + 2) c]] w K := by
  refine Z.en 176 Tryd.func41 ?_
  have tbb : b < w.heap.size := by obtain ⟨_, _, hq, _⟩ := h; exact hq.lt
  have hB : B ≤ b := by obtain ⟨_, _, _, _, hq, _⟩ := h; exact hq
  have hq := hsz; (try simp only [zap, zli, List.length] at hq)
  have hg := clT_grow ds ss (((((Z.k54 ++ tA) ++ Z.k40) ++ r.nm) ++ Z.k30) ++ tR); simp only [zap, zli, List.length] at hg
  refine Z.r [0] ?_
  refine Z.N (.cells #[.int .i64 20, Z.n a, .string nm, .int .i64 0, .slice A (ds.length + 2) c] 24) (fun k1 w1 l1 x1 b1 zw1 tb1 => ?_)
  refine Z.e (Z.r [0, 1, 2] ?_)
  refine Z.p [0] [1, 2] [(8, Z.P k1 4)] ?_
  refine Z.L 4 (.slice A (ds.length + 2) c) b1 ?_
  refine Z.p [2] [] [(4, .slice A (ds.length + 2) c)] ?_
  refine Z.e (Z.r [0, 1] ?_)
  refine Z.p [0] [1] [(10, Z.P k1 0)] ?_
  refine Z.L 0 (.int .i64 20) b1 ?_
  refine Z.e (wp_block (Z.sf [(12, .bool false), (13, .bool false)] ?_))
  refine wp_seq (Z.sf [(23, .bool false), (24, .bool false)] ?_)
  refine Z.u [(23, .bool false), (25, .bool false)] ?_
  refine Z.x (Z.cf ?_)
  refine Z.sf [(37, .bool false), (38, .bool false)] ?_
  refine Z.sf [(42, .bool false), (43, .bool false)] ?_
  refine Z.sf [(47, .bool false), (48, .bool false)] ?_
  refine Z.sf [(84, .bool false), (85, .bool false)] ?_
  refine Z.sf [(103, .bool false), (104, .bool false)] ?_
  refine Z.st [(115, .bool true), (116, .bool true)] ?_
  refine Z.r [0, 1, 2, 3, 4, 5, 6] ?_
  refine Z.p [0, 1, 2] [3, 4, 5, 6] [(119, Z.P k1 3), (118, .agg #[.string Z.k27, .string Z.k33]), (117, Z.P b 0)] ?_
  refine Z.L 3 (.int .i64 0) b1 ?_
  refine Z.p [4] [5, 6] [(121, .string Z.k27)] ?_
  refine Z.R (.cells #[.string Z.k27] 9) 1 1 (fun k2 w2 l2 x2 b2 zw2 tb2 => ?_)
  have zs1 : (putJ x [Z.k27]).size ≤ x.size + (Z.k27.size + 1 + 0) := putJ_bd [Z.k27] x
  (try simp only [zap, zli, List.length] at zs1)
  refine Z.k (fun R hR => put_c B b x [Z.k27] k2 1 _ R ((h.ext x1).ext x2) (by omega) b2 (by omega) (Nat.le_of_ble_eq_true rfl) (by omega) (fun w3 s1 hs1 x3 hbd1 => hR _ _ ?_))
  have zw3 := x3.size
  rw [← hs1] at zs1
  refine Z.e (Z.r [0, 1, 2, 3, 4] ?_)
  refine Z.p [0, 1] [2, 3, 4] [(125, .slice A (ds.length + 2) c), (124, Z.P b 0)] ?_
  obtain ⟨a1, ha1, hc1⟩ := hr 0 (by omega)
  refine Z.I 24 5 ha1 (ds.length + 2) c 0 ?_
  refine Z.La [Z.n kA.k, Z.n kA.a, .string kA.nm, .int .i64 kA.n, .slice (As 0) kA.ks.length (cs 0)] 5 hc1 (Gx.Ext.wx hE ((((Gx.Wx.refl (e := 5) (wb := b) w hBw).ext x1).ext x2).trans x3) hw0B) ?_
  have zs2 := (J_size s1 tA).1
  (try simp only [zap, zli, List.length] at zs2)
  refine Z.k (fun R hR => h0 B b s1 _ R hbd1 (by omega) (Gx.Ext.wx hE ((((Gx.Wx.refl (e := 5) (wb := b) w hBw).ext x1).ext x2).trans x3) hw0B) hw0B (by omega) (fun w4 s2 hs2 x4 hbd2 => hR _ _ ?_))
  have zw4 := x4.size
  rw [← hs2] at zs2
  refine Z.e (Z.r [0, 1, 2, 3, 4, 5, 6] ?_)
  refine Z.p [0, 1] [2, 3, 4, 5, 6] [(130, .slice A (ds.length + 2) c), (129, Z.P b 0)] ?_
  obtain ⟨a2, ha2, hc2⟩ := hr 1 (by omega)
  refine Z.I 24 5 ha2 (ds.length + 2) c 1 ?_
  refine Z.F (a2.add (1 * 5)) 2 ?_
  refine Z.Lo [.string r.nm] (.string r.nm) 1 (Gx.cells_sub hc2 2 1 rfl) (Gx.Ext.wx hE (((((Gx.Wx.refl (e := 5) (wb := b) w hBw).ext x1).ext x2).trans x3).trans x4) hw0B) ?_
  refine Z.R (.cells #[.string Z.k34, .string Z.k20, .string Z.k35, .string r.nm, .string Z.k1] 9) 5 5 (fun k3 w5 l3 x5 b3 zw5 tb3 => ?_)
  have zs3 : (putJ s2 [Z.k34, Z.k20, Z.k35, r.nm, Z.k1]).size ≤ s2.size + (Z.k34.size + 1 + (Z.k20.size + 1 + (Z.k35.size + 1 + (r.nm.size + 1 + (Z.k1.size + 1 + 0))))) := putJ_bd [Z.k34, Z.k20, Z.k35, r.nm, Z.k1] s2
  (try simp only [zap, zli, List.length] at zs3)
  refine Z.k (fun R hR => put_c B b s2 [Z.k34, Z.k20, Z.k35, r.nm, Z.k1] k3 5 _ R (hbd2.ext x5) (by omega) b3 (by omega) (Nat.le_of_ble_eq_true rfl) (by omega) (fun w6 s3 hs3 x6 hbd3 => hR _ _ ?_))
  have zw6 := x6.size
  rw [← hs3] at zs3
  refine Z.e (Z.r [0, 1, 2, 3, 4, 5, 6, 7] ?_)
  refine Z.p [0, 1] [2, 3, 4, 5, 6, 7] [(137, .slice A (ds.length + 2) c), (136, Z.P b 0)] ?_
  obtain ⟨a3, ha3, hc3⟩ := hr 1 (by omega)
  refine Z.I 24 5 ha3 (ds.length + 2) c 1 ?_
  refine Z.F (a3.add (1 * 5)) 4 ?_
  refine Z.Lo [.slice (As 1) r.ks.length (cs 1)] (.slice (As 1) r.ks.length (cs 1)) 1 (Gx.cells_sub hc3 4 1 rfl) (Gx.Ext.wx hE (((((((Gx.Wx.refl (e := 5) (wb := b) w hBw).ext x1).ext x2).trans x3).trans x4).ext x5).trans x6) hw0B) ?_
  obtain ⟨a4, ha4, hc4⟩ := hr1 0 (by omega)
  refine Z.I 24 5 ha4 r.ks.length (cs 1) 0 ?_
  refine Z.La [.int .i64 (((r.ks.getD 0 nd0).k : Nat) : Int), .int .i64 (((r.ks.getD 0 nd0).a : Nat) : Int), .string ((r.ks.getD 0 nd0).nm), .int .i64 ((r.ks.getD 0 nd0).n), .slice (Bs 0) ((r.ks.getD 0 nd0).ks.length) (bs 0)] 5 hc4 (Gx.Ext.wx hE (((((((Gx.Wx.refl (e := 5) (wb := b) w hBw).ext x1).ext x2).trans x3).trans x4).ext x5).trans x6) hw0B) ?_
  have zs4 := (J_size s3 tR).1
  (try simp only [zap, zli, List.length] at zs4)
  refine Z.k (fun R hR => h1 B b s3 _ R hbd3 (by omega) (Gx.Ext.wx hE (((((((Gx.Wx.refl (e := 5) (wb := b) w hBw).ext x1).ext x2).trans x3).trans x4).ext x5).trans x6) hw0B) hw0B (by omega) (fun w7 s4 hs4 x7 hbd4 => hR _ _ ?_))
  have zw7 := x7.size
  rw [← hs4] at zs4
  refine Z.e (wp_seq (Z.r [0, 1, 2, 3] ?_))
  refine Z.p [0] [1, 2, 3] [(144, .slice A (ds.length + 2) c)] ?_
  have hrt := Gx.Rd.tail hr hcap
  refine Gx.cons (Gx.op_slice_lo rfl (by kernel_rfl) rfl 24 5 (by kernel_rfl) (by kernel_rfl) A (ds.length + 2) c (by kernel_rfl) .i64 2 (by kernel_rfl) (by omega) ds.length rfl ?_)
  refine Z.p [2, 3] [] [(147, .int .i64 0), (146, Z.n ds.length)] ?_
  refine Z.e (wp_block (Gx.loop (n' := 176) (d' := []) (fun mz l' w' => ∃ (j : Nat) (si : ByteArray), l' = [(0, Z.P b 0), (145, .slice (if c = 2 then A else A.map (fun a_ => a_.add (2 * 5))) ds.length (c - 2)), (146, Z.n ds.length), (147, Z.n j)] ∧ mz = ds.length - j ∧ Gx.Wx 5 B b w w' ∧ (j ≤ ds.length) ∧ (si = J x (clT (ds.take j) (ss.take j) (((((Z.k54 ++ tA) ++ Z.k40) ++ r.nm) ++ Z.k30) ++ tR))) ∧ (Bd w' B b si)) _ _ [(0, Z.P b 0), (145, .slice (if c = 2 then A else A.map (fun a_ => a_.add (2 * 5))) ds.length (c - 2)), (146, Z.n ds.length), (147, Z.n 0)] (Gx.forget [(0, Z.P b 0), (145, .slice (if c = 2 then A else A.map (fun a_ => a_.add (2 * 5))) ds.length (c - 2)), (146, Z.n ds.length), (147, Z.n 0)] (by kernel_rfl)) ⟨0, s4, rfl, rfl, ((((((((Gx.Wx.refl (e := 5) (wb := b) w hBw).ext x1).ext x2).trans x3).trans x4).ext x5).trans x6).trans x7), (Nat.zero_le _), (by rw [hs4, hs3, hs2, hs1]; show putJ x [Z.k27, tA, Z.k34, Z.k20, Z.k35, r.nm, Z.k1, tR] = _; rw [putJ_join _ (by first | decide | omega | (simp only [zap, zli, List.length]; omega))]; exact congrArg (J x) (bl (by show _ = ((((((Z.k54 ++ tA) ++ Z.k40) ++ r.nm) ++ Z.k30) ++ tR)).data.toList; (try simp [joinS, l_app, Z.bd, Z.ed])))), hbd4⟩ (fun bb1 m1 ll1 w8 hI1 K1 hK1 => ?_)))
  obtain ⟨j, si, rfl, rfl, x8, hj, hs0, hbd⟩ := hI1
  have zw8 := x8.size
  have z0 : si.size ≤ x.size + 1 + (clT (ds.take j) (ss.take j) (((((Z.k54 ++ tA) ++ Z.k40) ++ r.nm) ++ Z.k30) ++ tR)).size := by rw [hs0]; exact (J_size _ _).1
  have g1 := clT_le ds ss (((((Z.k54 ++ tA) ++ Z.k40) ++ r.nm) ++ Z.k30) ++ tR) j; have g2 := clT_grow (ds.take j) (ss.take j) (((((Z.k54 ++ tA) ++ Z.k40) ++ r.nm) ++ Z.k30) ++ tR); have g0 : 0 < (clT (ds.take j) (ss.take j) (((((Z.k54 ++ tA) ++ Z.k40) ++ r.nm) ++ Z.k30) ++ tR)).size := Nat.lt_of_lt_of_le (by simp only [zap, zli, List.length]; omega) g2; clear g2
  refine Z.s [(148, .bool (decide (((j : Nat) : Int) < ((ds.length : Nat) : Int))))] ?_
  refine wp_seq (Z.c (decide (((j : Nat) : Int) < ((ds.length : Nat) : Int))) (fun h_c148 => ?_) (fun h_c148 => ?_))
  · skip
    have p_c148 := of_decide_eq_true h_c148
    refine wp_skip (Z.x (wp_seq (wp_block ?_)))
    obtain ⟨hk3, Ds, es, hr2, hw2⟩ := hcl j (by omega)
    have q := clT_le' ds ss (((((Z.k54 ++ tA) ++ Z.k40) ++ r.nm) ++ Z.k30) ++ tR) j hl (by omega); unfold cl1 at q; simp only [ByteArray.size_append, lz1, lz3, lz4] at q
    refine Z.r [0, 1, 2, 3] ?_
    obtain ⟨a5, ha5, hc5⟩ := hrt j (by omega)
    refine Z.I 24 5 ha5 ds.length (c - 2) j ?_
    refine Z.La [.int .i64 (((ds.getD j nd0).k : Nat) : Int), .int .i64 (((ds.getD j nd0).a : Nat) : Int), .string ((ds.getD j nd0).nm), .int .i64 ((ds.getD j nd0).n), .slice (As (j + 2)) ((ds.getD j nd0).ks.length) (cs (j + 2))] 5 hc5 (Gx.Ext.wx hE ((Gx.Wx.refl (e := 5) (wb := b) w hBw).trans x8) hw0B) ?_
    refine Z.N Z.c0 (fun k4 w9 l4 x9 b4 zw9 tb4 => ?_)
    refine Z.Sa #[.int .i64 (((ds.getD j nd0).k : Nat) : Int), .int .i64 (((ds.getD j nd0).a : Nat) : Int), .string ((ds.getD j nd0).nm), .int .i64 ((ds.getD j nd0).n), .slice (As (j + 2)) ((ds.getD j nd0).ks.length) (cs (j + 2))] b4 (fun w10 u1 b5 zw10 => ?_)
    refine Z.e (wp_seq (Z.D (fun w' => Gx.Has w' k4 (.cells #[.int .i64 (((ds.getD j nd0).k : Nat) : Int), .int .i64 (((ds.getD j nd0).a : Nat) : Int), .string ((ds.getD j nd0).nm), .int .i64 ((ds.getD j nd0).n), .slice (As (j + 2)) ((ds.getD j nd0).ks.length) (cs (j + 2))] 24) ∧ Gx.Ext w0 w') (fun w11 x10 zw11 => ?_)))
    refine Z.h ⟨(b5.ext x10), (Gx.Ext.wx hE (((((Gx.Wx.refl (e := 5) (wb := b) w hBw).trans x8).ext x9).upd_new u1).ext x10) hw0B)⟩ (fun hS1 => ?_)
    refine Z.t 0 (Z.P b 0) hS1 ?_
    refine Z.t 1 (Z.P k4 2) hS1 ?_
    refine Z.tl 2 2 (.string ((ds.getD j nd0).nm)) (fun _ hs => hs.1) hS1 ?_
    refine Z.t 3 (Z.P k4 4) hS1 ?_
    refine Z.tl 4 4 (.slice (As (j + 2)) ((ds.getD j nd0).ks.length) (cs (j + 2))) (fun _ hs => hs.1) hS1 ?_
    obtain ⟨a6, ha6, hc6⟩ := hr2 0 (by omega)
    refine Z.ti 5 24 5 ha6 ((ds.getD j nd0).ks.length) (cs (j + 2)) 0 hS1 ?_
    refine Z.tf 6 (a6.add (0 * 5)) 2 hS1 ?_
    refine Z.to 7 [.string (((ds.getD j nd0).ks.getD 0 nd0).nm)] (.string (((ds.getD j nd0).ks.getD 0 nd0).nm)) 1 (Gx.cells_sub hc6 2 1 rfl) (fun _ hs => hs.2) hS1 ?_
    refine Z.t 8 (Z.P k4 4) hS1 ?_
    refine Z.tl 9 4 (.slice (As (j + 2)) ((ds.getD j nd0).ks.length) (cs (j + 2))) (fun _ hs => hs.1) hS1 ?_
    obtain ⟨a7, ha7, hc7⟩ := hr2 1 (by omega)
    refine Z.ti 10 24 5 ha7 ((ds.getD j nd0).ks.length) (cs (j + 2)) 1 hS1 ?_
    refine Z.tf 11 (a7.add (1 * 5)) 2 hS1 ?_
    refine Z.to 12 [.string (((ds.getD j nd0).ks.getD 1 nd0).nm)] (.string (((ds.getD j nd0).ks.getD 1 nd0).nm)) 1 (Gx.cells_sub hc7 2 1 rfl) (fun _ hs => hs.2) hS1 ?_
    refine Z.oR 13 (.cells #[.string Z.k24, .string ((ds.getD j nd0).nm), .string (((ds.getD j nd0).ks.getD 0 nd0).nm), .string (((ds.getD j nd0).ks.getD 1 nd0).nm), .string Z.k1] 9) 5 5 (fun k5 w12 l5 x11 b6 => ⟨⟨((b5.ext x10).ext x11), (Gx.Ext.wx hE ((((((Gx.Wx.refl (e := 5) (wb := b) w hBw).trans x8).ext x9).upd_new u1).ext x10).ext x11) hw0B)⟩, ?_⟩)
    have zw12 := x11.size
    have tb6 := b6.lt
    have zs5 : (putJ si [Z.k24, (ds.getD j nd0).nm, ((ds.getD j nd0).ks.getD 0 nd0).nm, ((ds.getD j nd0).ks.getD 1 nd0).nm, Z.k1]).size ≤ si.size + (Z.k24.size + 1 + (((ds.getD j nd0).nm).size + 1 + ((((ds.getD j nd0).ks.getD 0 nd0).nm).size + 1 + ((((ds.getD j nd0).ks.getD 1 nd0).nm).size + 1 + (Z.k1.size + 1 + 0))))) := putJ_bd [Z.k24, (ds.getD j nd0).nm, ((ds.getD j nd0).ks.getD 0 nd0).nm, ((ds.getD j nd0).ks.getD 1 nd0).nm, Z.k1] si
    (try simp only [zap, zli, List.length] at zs5)
    refine Z.o 14 (fun R hR => put_c B b si [Z.k24, (ds.getD j nd0).nm, ((ds.getD j nd0).ks.getD 0 nd0).nm, ((ds.getD j nd0).ks.getD 1 nd0).nm, Z.k1] k5 5 _ R ((((hbd.ext x9).updO u1 b4 (fun _ _ q => by cases q) (by omega)).ext x10).ext x11) (by omega) b6 (by omega) (Nat.le_of_ble_eq_true rfl) (by omega) (fun w13 s5 hs5 x12 hbd5 => hR _ _ ⟨⟨(x12.has ((b5.ext x10).ext x11) (by omega) (by decide)), (Gx.Ext.wx hE (((((((Gx.Wx.refl (e := 5) (wb := b) w hBw).trans x8).ext x9).upd_new u1).ext x10).ext x11).trans x12) hw0B)⟩, fun hS2 => ?_⟩))
    have zw13 := x12.size
    rw [← hs5] at zs5
    refine Z.q ?_
    refine Z.x (Z.g [0, 1, 2, 3, 4, 5] ?_)
    refine Z.p [0, 1] [2, 3, 4, 5] [(167, Z.P k4 4), (166, Z.P b 0)] ?_
    refine Z.L 4 (.slice (As (j + 2)) ((ds.getD j nd0).ks.length) (cs (j + 2))) (x12.has ((b5.ext x10).ext x11) (by omega) (by decide)) ?_
    obtain ⟨a8, ha8, hc8⟩ := hr2 2 (by omega)
    refine Z.I 24 5 ha8 ((ds.getD j nd0).ks.length) (cs (j + 2)) 2 ?_
    refine Z.La [.int .i64 ((((ds.getD j nd0).ks.getD 2 nd0).k : Nat) : Int), .int .i64 ((((ds.getD j nd0).ks.getD 2 nd0).a : Nat) : Int), .string (((ds.getD j nd0).ks.getD 2 nd0).nm), .int .i64 (((ds.getD j nd0).ks.getD 2 nd0).n), .slice (Ds 2) (((ds.getD j nd0).ks.getD 2 nd0).ks.length) (es 2)] 5 hc8 (Gx.Ext.wx hE (((((((Gx.Wx.refl (e := 5) (wb := b) w hBw).trans x8).ext x9).upd_new u1).ext x10).ext x11).trans x12) hw0B) ?_
    have zs6 := (J_size s5 (ss.getD j Z.E)).1
    (try simp only [zap, zli, List.length] at zs6)
    refine Z.k (fun R hR => hw2 B b s5 _ R hbd5 (by omega) (Gx.Ext.wx hE (((((((Gx.Wx.refl (e := 5) (wb := b) w hBw).trans x8).ext x9).upd_new u1).ext x10).ext x11).trans x12) hw0B) hw0B (by omega) (fun w14 s6 hs6 x13 hbd6 => hR _ _ ?_))
    have zw14 := x13.size
    rw [← hs6] at zs6
    refine Gx.ops_nil (Gx.block_normal (Z.x (Z.g [0, 1] ?_)))
    refine Gx.pure_eq [0] [1] [(172, .int .i64 (IntKind.i64.wrap (((j : Nat) : Int) + (1 : Int))))] [(172, .int .i64 ((j + 1 : Nat) : Int))] rfl (by kernel_rfl) (Gx.eqI (Gx.i64n (by omega) (by omega))) ?_
    refine Z.p [1] [] [(147, .int .i64 ((j + 1 : Nat) : Int))] ?_
    refine Gx.ops_nil (Z.x ?_)
    rw [Gx.forget [(0, Z.P b 0), (145, .slice (if c = 2 then A else A.map (fun a_ => a_.add (2 * 5))) ds.length (c - 2)), (146, Z.n ds.length), (147, .int .i64 (((j + 1) : Nat) : Int))] (by kernel_rfl)]
    exact hK1 _ _ _ _ (by omega) ⟨(j + 1), s6, rfl, rfl, ((((((((Gx.Wx.refl (e := 5) (wb := b) w hBw).trans x8).ext x9).upd_new u1).ext x10).ext x11).trans x12).trans x13), (by omega), (by rw [hs6, hs5, hs0]; show putJ x [clT (ds.take j) (ss.take j) (((((Z.k54 ++ tA) ++ Z.k40) ++ r.nm) ++ Z.k30) ++ tR), Z.k24, (ds.getD j nd0).nm, ((ds.getD j nd0).ks.getD 0 nd0).nm, ((ds.getD j nd0).ks.getD 1 nd0).nm, Z.k1, (ss.getD j Z.E)] = _; rw [putJ_join _ (by first | decide | omega | (simp only [zap, zli, List.length]; omega))]; exact congrArg (J x) (bl (by rw [clT_succ ds ss _ j hl (by omega)]; unfold cl1; (try simp [joinS, l_app, Z.bd, Z.ed])))), hbd6⟩
  have p_c148 := of_decide_eq_false h_c148
  refine wp_exit (Gx.then_exit (Gx.then_exit (Gx.block_exit (Z.x ?_))))
  obtain rfl : j = ds.length := by omega
  rw [clT_all ds ss _ hl] at hs0 g0 z0 g1
  refine Z.g [0, 1, 2] ?_
  refine Z.p [0] [1, 2] [(173, Z.P b 0)] ?_
  refine Z.R (.cells #[.string Z.k11] 9) 1 1 (fun k6 w15 l6 x14 b7 zw15 tb7 => ?_)
  have zs7 : (putJ si [Z.k11]).size ≤ si.size + (Z.k11.size + 1 + 0) := putJ_bd [Z.k11] si
  (try simp only [zap, zli, List.length] at zs7)
  refine Z.k (fun R hR => put_c B b si [Z.k11] k6 1 _ R (hbd.ext x14) (by omega) b7 (by omega) (Nat.le_of_ble_eq_true rfl) (by omega) (fun w16 s7 hs7 x15 hbd7 => hR _ _ ?_))
  have zw16 := x15.size
  rw [← hs7] at zs7
  refine Gx.ops_nil (Gx.block_normal (Gx.ret_n (Gx.res0 rfl) ?_))
  exact hK _ _ (by rw [hs7, hs0]; show putJ x [clT ds ss (((((Z.k54 ++ tA) ++ Z.k40) ++ r.nm) ++ Z.k30) ++ tR), Z.k11] = _; rw [putJ_join _ (by first | decide | omega | (simp only [zap, zli, List.length]; omega))]; exact congrArg (J x) (bl (by (try simp [joinS, l_app, Z.bd, Z.ed])))) ((((Gx.Wx.refl (e := 5) (wb := b) w hBw).trans x8).ext x14).trans x15) hbd7
theorem more_20_1 (B b : Nat) (x : ByteArray) (w0 : World) (a : Nat) (nm : ByteArray) (A : Option Addr) (c : Nat) (As : Nat → Option Addr) (cs : Nat → Nat) (kA r : Nd) (ds : List Nd) (ss : List ByteArray) (tA tR : ByteArray) (Bs : Nat → Option Addr) (bs : Nat → Nat) (w : World) (K : Ending → World → Prop) (h : Bd w B b x) (hBw : B ≤ w.heap.size) (hE : Gx.Ext w0 w) (hw0B : w0.heap.size ≤ B) (hsz : x.size + (clT ds ss (((((Z.k55 ++ tA) ++ Z.k40) ++ r.nm) ++ Z.k30) ++ tR) ++ (Z.B [32, 125])).size ≤ 100000000000) (hr : Gx.Rd w0 A (ds.length + 2) 5 (fun i => ndC ((kA :: r :: ds).getD i nd0) (As i) (cs i))) (hrk : r.ks.length = 1) (hr1 : Gx.Rd w0 (As 1) r.ks.length 5 (fun i => ndC (r.ks.getD i nd0) (Bs i) (bs i))) (h0 : POK w0 kA (As 0) (cs 0) tA) (h1 : POK w0 (r.ks.getD 0 nd0) (Bs 0) (bs 0) tR) (hl : ss.length = ds.length) (hcap : ds.length + 2 ≤ c) (hds : ds.length ≤ 400000000000) (hcl : ∀ j, j < ds.length → (ds.getD j nd0).ks.length = 3 ∧ ∃ (Ds : Nat → Option Addr) (es : Nat → Nat), Gx.Rd w0 (As (j + 2)) (ds.getD j nd0).ks.length 5 (fun i => ndC ((ds.getD j nd0).ks.getD i nd0) (Ds i) (es i)) ∧ POK w0 ((ds.getD j nd0).ks.getD 2 nd0) (Ds 2) (es 2) (ss.getD j Z.E)) (hK : ∀ w' s', s' = J x (clT ds ss (((((Z.k55 ++ tA) ++ Z.k40) ++ r.nm) ++ Z.k30) ++ tR) ++ (Z.B [32, 125])) → Gx.Wx 5 B b w w' → Bd w' B b s' → K (.returned (.tuple #[])) w') :
    Calls Tryd.prog 41 #[Z.P b 0, .agg #[.int .i64 20, Z.n a, .string nm, .int .i64 1, .slice A (ds.length + 2) c]] w K := by
  refine Z.en 176 Tryd.func41 ?_
  have tbb : b < w.heap.size := by obtain ⟨_, _, hq, _⟩ := h; exact hq.lt
  have hB : B ≤ b := by obtain ⟨_, _, _, _, hq, _⟩ := h; exact hq
  have hq := hsz; (try simp only [zap, zli, List.length] at hq)
  have hg := clT_grow ds ss (((((Z.k55 ++ tA) ++ Z.k40) ++ r.nm) ++ Z.k30) ++ tR); simp only [zap, zli, List.length] at hg
  refine Z.r [0] ?_
  refine Z.N (.cells #[.int .i64 20, Z.n a, .string nm, .int .i64 1, .slice A (ds.length + 2) c] 24) (fun k1 w1 l1 x1 b1 zw1 tb1 => ?_)
  refine Z.e (Z.r [0, 1, 2] ?_)
  refine Z.p [0] [1, 2] [(8, Z.P k1 4)] ?_
  refine Z.L 4 (.slice A (ds.length + 2) c) b1 ?_
  refine Z.p [2] [] [(4, .slice A (ds.length + 2) c)] ?_
  refine Z.e (Z.r [0, 1] ?_)
  refine Z.p [0] [1] [(10, Z.P k1 0)] ?_
  refine Z.L 0 (.int .i64 20) b1 ?_
  refine Z.e (wp_block (Z.sf [(12, .bool false), (13, .bool false)] ?_))
  refine wp_seq (Z.sf [(23, .bool false), (24, .bool false)] ?_)
  refine Z.u [(23, .bool false), (25, .bool false)] ?_
  refine Z.x (Z.cf ?_)
  refine Z.sf [(37, .bool false), (38, .bool false)] ?_
  refine Z.sf [(42, .bool false), (43, .bool false)] ?_
  refine Z.sf [(47, .bool false), (48, .bool false)] ?_
  refine Z.sf [(84, .bool false), (85, .bool false)] ?_
  refine Z.sf [(103, .bool false), (104, .bool false)] ?_
  refine Z.st [(115, .bool true), (116, .bool true)] ?_
  refine Z.r [0, 1, 2, 3, 4, 5, 6] ?_
  refine Z.p [0, 1, 2] [3, 4, 5, 6] [(119, Z.P k1 3), (118, .agg #[.string Z.k27, .string Z.k33]), (117, Z.P b 0)] ?_
  refine Z.L 3 (.int .i64 1) b1 ?_
  refine Z.p [4] [5, 6] [(121, .string Z.k33)] ?_
  refine Z.R (.cells #[.string Z.k33] 9) 1 1 (fun k2 w2 l2 x2 b2 zw2 tb2 => ?_)
  have zs1 : (putJ x [Z.k33]).size ≤ x.size + (Z.k33.size + 1 + 0) := putJ_bd [Z.k33] x
  (try simp only [zap, zli, List.length] at zs1)
  refine Z.k (fun R hR => put_c B b x [Z.k33] k2 1 _ R ((h.ext x1).ext x2) (by omega) b2 (by omega) (Nat.le_of_ble_eq_true rfl) (by omega) (fun w3 s1 hs1 x3 hbd1 => hR _ _ ?_))
  have zw3 := x3.size
  rw [← hs1] at zs1
  refine Z.e (Z.r [0, 1, 2, 3, 4] ?_)
  refine Z.p [0, 1] [2, 3, 4] [(125, .slice A (ds.length + 2) c), (124, Z.P b 0)] ?_
  obtain ⟨a1, ha1, hc1⟩ := hr 0 (by omega)
  refine Z.I 24 5 ha1 (ds.length + 2) c 0 ?_
  refine Z.La [Z.n kA.k, Z.n kA.a, .string kA.nm, .int .i64 kA.n, .slice (As 0) kA.ks.length (cs 0)] 5 hc1 (Gx.Ext.wx hE ((((Gx.Wx.refl (e := 5) (wb := b) w hBw).ext x1).ext x2).trans x3) hw0B) ?_
  have zs2 := (J_size s1 tA).1
  (try simp only [zap, zli, List.length] at zs2)
  refine Z.k (fun R hR => h0 B b s1 _ R hbd1 (by omega) (Gx.Ext.wx hE ((((Gx.Wx.refl (e := 5) (wb := b) w hBw).ext x1).ext x2).trans x3) hw0B) hw0B (by omega) (fun w4 s2 hs2 x4 hbd2 => hR _ _ ?_))
  have zw4 := x4.size
  rw [← hs2] at zs2
  refine Z.e (Z.r [0, 1, 2, 3, 4, 5, 6] ?_)
  refine Z.p [0, 1] [2, 3, 4, 5, 6] [(130, .slice A (ds.length + 2) c), (129, Z.P b 0)] ?_
  obtain ⟨a2, ha2, hc2⟩ := hr 1 (by omega)
  refine Z.I 24 5 ha2 (ds.length + 2) c 1 ?_
  refine Z.F (a2.add (1 * 5)) 2 ?_
  refine Z.Lo [.string r.nm] (.string r.nm) 1 (Gx.cells_sub hc2 2 1 rfl) (Gx.Ext.wx hE (((((Gx.Wx.refl (e := 5) (wb := b) w hBw).ext x1).ext x2).trans x3).trans x4) hw0B) ?_
  refine Z.R (.cells #[.string Z.k34, .string Z.k20, .string Z.k35, .string r.nm, .string Z.k1] 9) 5 5 (fun k3 w5 l3 x5 b3 zw5 tb3 => ?_)
  have zs3 : (putJ s2 [Z.k34, Z.k20, Z.k35, r.nm, Z.k1]).size ≤ s2.size + (Z.k34.size + 1 + (Z.k20.size + 1 + (Z.k35.size + 1 + (r.nm.size + 1 + (Z.k1.size + 1 + 0))))) := putJ_bd [Z.k34, Z.k20, Z.k35, r.nm, Z.k1] s2
  (try simp only [zap, zli, List.length] at zs3)
  refine Z.k (fun R hR => put_c B b s2 [Z.k34, Z.k20, Z.k35, r.nm, Z.k1] k3 5 _ R (hbd2.ext x5) (by omega) b3 (by omega) (Nat.le_of_ble_eq_true rfl) (by omega) (fun w6 s3 hs3 x6 hbd3 => hR _ _ ?_))
  have zw6 := x6.size
  rw [← hs3] at zs3
  refine Z.e (Z.r [0, 1, 2, 3, 4, 5, 6, 7] ?_)
  refine Z.p [0, 1] [2, 3, 4, 5, 6, 7] [(137, .slice A (ds.length + 2) c), (136, Z.P b 0)] ?_
  obtain ⟨a3, ha3, hc3⟩ := hr 1 (by omega)
  refine Z.I 24 5 ha3 (ds.length + 2) c 1 ?_
  refine Z.F (a3.add (1 * 5)) 4 ?_
  refine Z.Lo [.slice (As 1) r.ks.length (cs 1)] (.slice (As 1) r.ks.length (cs 1)) 1 (Gx.cells_sub hc3 4 1 rfl) (Gx.Ext.wx hE (((((((Gx.Wx.refl (e := 5) (wb := b) w hBw).ext x1).ext x2).trans x3).trans x4).ext x5).trans x6) hw0B) ?_
  obtain ⟨a4, ha4, hc4⟩ := hr1 0 (by omega)
  refine Z.I 24 5 ha4 r.ks.length (cs 1) 0 ?_
  refine Z.La [.int .i64 (((r.ks.getD 0 nd0).k : Nat) : Int), .int .i64 (((r.ks.getD 0 nd0).a : Nat) : Int), .string ((r.ks.getD 0 nd0).nm), .int .i64 ((r.ks.getD 0 nd0).n), .slice (Bs 0) ((r.ks.getD 0 nd0).ks.length) (bs 0)] 5 hc4 (Gx.Ext.wx hE (((((((Gx.Wx.refl (e := 5) (wb := b) w hBw).ext x1).ext x2).trans x3).trans x4).ext x5).trans x6) hw0B) ?_
  have zs4 := (J_size s3 tR).1
  (try simp only [zap, zli, List.length] at zs4)
  refine Z.k (fun R hR => h1 B b s3 _ R hbd3 (by omega) (Gx.Ext.wx hE (((((((Gx.Wx.refl (e := 5) (wb := b) w hBw).ext x1).ext x2).trans x3).trans x4).ext x5).trans x6) hw0B) hw0B (by omega) (fun w7 s4 hs4 x7 hbd4 => hR _ _ ?_))
  have zw7 := x7.size
  rw [← hs4] at zs4
  refine Z.e (wp_seq (Z.r [0, 1, 2, 3] ?_))
  refine Z.p [0] [1, 2, 3] [(144, .slice A (ds.length + 2) c)] ?_
  have hrt := Gx.Rd.tail hr hcap
  refine Gx.cons (Gx.op_slice_lo rfl (by kernel_rfl) rfl 24 5 (by kernel_rfl) (by kernel_rfl) A (ds.length + 2) c (by kernel_rfl) .i64 2 (by kernel_rfl) (by omega) ds.length rfl ?_)
  refine Z.p [2, 3] [] [(147, .int .i64 0), (146, Z.n ds.length)] ?_
  refine Z.e (wp_block (Gx.loop (n' := 176) (d' := []) (fun mz l' w' => ∃ (j : Nat) (si : ByteArray), l' = [(0, Z.P b 0), (145, .slice (if c = 2 then A else A.map (fun a_ => a_.add (2 * 5))) ds.length (c - 2)), (146, Z.n ds.length), (147, Z.n j)] ∧ mz = ds.length - j ∧ Gx.Wx 5 B b w w' ∧ (j ≤ ds.length) ∧ (si = J x (clT (ds.take j) (ss.take j) (((((Z.k55 ++ tA) ++ Z.k40) ++ r.nm) ++ Z.k30) ++ tR))) ∧ (Bd w' B b si)) _ _ [(0, Z.P b 0), (145, .slice (if c = 2 then A else A.map (fun a_ => a_.add (2 * 5))) ds.length (c - 2)), (146, Z.n ds.length), (147, Z.n 0)] (Gx.forget [(0, Z.P b 0), (145, .slice (if c = 2 then A else A.map (fun a_ => a_.add (2 * 5))) ds.length (c - 2)), (146, Z.n ds.length), (147, Z.n 0)] (by kernel_rfl)) ⟨0, s4, rfl, rfl, ((((((((Gx.Wx.refl (e := 5) (wb := b) w hBw).ext x1).ext x2).trans x3).trans x4).ext x5).trans x6).trans x7), (Nat.zero_le _), (by rw [hs4, hs3, hs2, hs1]; show putJ x [Z.k33, tA, Z.k34, Z.k20, Z.k35, r.nm, Z.k1, tR] = _; rw [putJ_join _ (by first | decide | omega | (simp only [zap, zli, List.length]; omega))]; exact congrArg (J x) (bl (by show _ = ((((((Z.k55 ++ tA) ++ Z.k40) ++ r.nm) ++ Z.k30) ++ tR)).data.toList; (try simp [joinS, l_app, Z.bd, Z.ed])))), hbd4⟩ (fun bb1 m1 ll1 w8 hI1 K1 hK1 => ?_)))
  obtain ⟨j, si, rfl, rfl, x8, hj, hs0, hbd⟩ := hI1
  have zw8 := x8.size
  have z0 : si.size ≤ x.size + 1 + (clT (ds.take j) (ss.take j) (((((Z.k55 ++ tA) ++ Z.k40) ++ r.nm) ++ Z.k30) ++ tR)).size := by rw [hs0]; exact (J_size _ _).1
  have g1 := clT_le ds ss (((((Z.k55 ++ tA) ++ Z.k40) ++ r.nm) ++ Z.k30) ++ tR) j; have g2 := clT_grow (ds.take j) (ss.take j) (((((Z.k55 ++ tA) ++ Z.k40) ++ r.nm) ++ Z.k30) ++ tR); have g0 : 0 < (clT (ds.take j) (ss.take j) (((((Z.k55 ++ tA) ++ Z.k40) ++ r.nm) ++ Z.k30) ++ tR)).size := Nat.lt_of_lt_of_le (by simp only [zap, zli, List.length]; omega) g2; clear g2
  refine Z.s [(148, .bool (decide (((j : Nat) : Int) < ((ds.length : Nat) : Int))))] ?_
  refine wp_seq (Z.c (decide (((j : Nat) : Int) < ((ds.length : Nat) : Int))) (fun h_c148 => ?_) (fun h_c148 => ?_))
  · skip
    have p_c148 := of_decide_eq_true h_c148
    refine wp_skip (Z.x (wp_seq (wp_block ?_)))
    obtain ⟨hk3, Ds, es, hr2, hw2⟩ := hcl j (by omega)
    have q := clT_le' ds ss (((((Z.k55 ++ tA) ++ Z.k40) ++ r.nm) ++ Z.k30) ++ tR) j hl (by omega); unfold cl1 at q; simp only [ByteArray.size_append, lz1, lz3, lz4] at q
    refine Z.r [0, 1, 2, 3] ?_
    obtain ⟨a5, ha5, hc5⟩ := hrt j (by omega)
    refine Z.I 24 5 ha5 ds.length (c - 2) j ?_
    refine Z.La [.int .i64 (((ds.getD j nd0).k : Nat) : Int), .int .i64 (((ds.getD j nd0).a : Nat) : Int), .string ((ds.getD j nd0).nm), .int .i64 ((ds.getD j nd0).n), .slice (As (j + 2)) ((ds.getD j nd0).ks.length) (cs (j + 2))] 5 hc5 (Gx.Ext.wx hE ((Gx.Wx.refl (e := 5) (wb := b) w hBw).trans x8) hw0B) ?_
    refine Z.N Z.c0 (fun k4 w9 l4 x9 b4 zw9 tb4 => ?_)
    refine Z.Sa #[.int .i64 (((ds.getD j nd0).k : Nat) : Int), .int .i64 (((ds.getD j nd0).a : Nat) : Int), .string ((ds.getD j nd0).nm), .int .i64 ((ds.getD j nd0).n), .slice (As (j + 2)) ((ds.getD j nd0).ks.length) (cs (j + 2))] b4 (fun w10 u1 b5 zw10 => ?_)
    refine Z.e (wp_seq (Z.D (fun w' => Gx.Has w' k4 (.cells #[.int .i64 (((ds.getD j nd0).k : Nat) : Int), .int .i64 (((ds.getD j nd0).a : Nat) : Int), .string ((ds.getD j nd0).nm), .int .i64 ((ds.getD j nd0).n), .slice (As (j + 2)) ((ds.getD j nd0).ks.length) (cs (j + 2))] 24) ∧ Gx.Ext w0 w') (fun w11 x10 zw11 => ?_)))
    refine Z.h ⟨(b5.ext x10), (Gx.Ext.wx hE (((((Gx.Wx.refl (e := 5) (wb := b) w hBw).trans x8).ext x9).upd_new u1).ext x10) hw0B)⟩ (fun hS1 => ?_)
    refine Z.t 0 (Z.P b 0) hS1 ?_
    refine Z.t 1 (Z.P k4 2) hS1 ?_
    refine Z.tl 2 2 (.string ((ds.getD j nd0).nm)) (fun _ hs => hs.1) hS1 ?_
    refine Z.t 3 (Z.P k4 4) hS1 ?_
    refine Z.tl 4 4 (.slice (As (j + 2)) ((ds.getD j nd0).ks.length) (cs (j + 2))) (fun _ hs => hs.1) hS1 ?_
    obtain ⟨a6, ha6, hc6⟩ := hr2 0 (by omega)
    refine Z.ti 5 24 5 ha6 ((ds.getD j nd0).ks.length) (cs (j + 2)) 0 hS1 ?_
    refine Z.tf 6 (a6.add (0 * 5)) 2 hS1 ?_
    refine Z.to 7 [.string (((ds.getD j nd0).ks.getD 0 nd0).nm)] (.string (((ds.getD j nd0).ks.getD 0 nd0).nm)) 1 (Gx.cells_sub hc6 2 1 rfl) (fun _ hs => hs.2) hS1 ?_
    refine Z.t 8 (Z.P k4 4) hS1 ?_
    refine Z.tl 9 4 (.slice (As (j + 2)) ((ds.getD j nd0).ks.length) (cs (j + 2))) (fun _ hs => hs.1) hS1 ?_
    obtain ⟨a7, ha7, hc7⟩ := hr2 1 (by omega)
    refine Z.ti 10 24 5 ha7 ((ds.getD j nd0).ks.length) (cs (j + 2)) 1 hS1 ?_
    refine Z.tf 11 (a7.add (1 * 5)) 2 hS1 ?_
    refine Z.to 12 [.string (((ds.getD j nd0).ks.getD 1 nd0).nm)] (.string (((ds.getD j nd0).ks.getD 1 nd0).nm)) 1 (Gx.cells_sub hc7 2 1 rfl) (fun _ hs => hs.2) hS1 ?_
    refine Z.oR 13 (.cells #[.string Z.k24, .string ((ds.getD j nd0).nm), .string (((ds.getD j nd0).ks.getD 0 nd0).nm), .string (((ds.getD j nd0).ks.getD 1 nd0).nm), .string Z.k1] 9) 5 5 (fun k5 w12 l5 x11 b6 => ⟨⟨((b5.ext x10).ext x11), (Gx.Ext.wx hE ((((((Gx.Wx.refl (e := 5) (wb := b) w hBw).trans x8).ext x9).upd_new u1).ext x10).ext x11) hw0B)⟩, ?_⟩)
    have zw12 := x11.size
    have tb6 := b6.lt
    have zs5 : (putJ si [Z.k24, (ds.getD j nd0).nm, ((ds.getD j nd0).ks.getD 0 nd0).nm, ((ds.getD j nd0).ks.getD 1 nd0).nm, Z.k1]).size ≤ si.size + (Z.k24.size + 1 + (((ds.getD j nd0).nm).size + 1 + ((((ds.getD j nd0).ks.getD 0 nd0).nm).size + 1 + ((((ds.getD j nd0).ks.getD 1 nd0).nm).size + 1 + (Z.k1.size + 1 + 0))))) := putJ_bd [Z.k24, (ds.getD j nd0).nm, ((ds.getD j nd0).ks.getD 0 nd0).nm, ((ds.getD j nd0).ks.getD 1 nd0).nm, Z.k1] si
    (try simp only [zap, zli, List.length] at zs5)
    refine Z.o 14 (fun R hR => put_c B b si [Z.k24, (ds.getD j nd0).nm, ((ds.getD j nd0).ks.getD 0 nd0).nm, ((ds.getD j nd0).ks.getD 1 nd0).nm, Z.k1] k5 5 _ R ((((hbd.ext x9).updO u1 b4 (fun _ _ q => by cases q) (by omega)).ext x10).ext x11) (by omega) b6 (by omega) (Nat.le_of_ble_eq_true rfl) (by omega) (fun w13 s5 hs5 x12 hbd5 => hR _ _ ⟨⟨(x12.has ((b5.ext x10).ext x11) (by omega) (by decide)), (Gx.Ext.wx hE (((((((Gx.Wx.refl (e := 5) (wb := b) w hBw).trans x8).ext x9).upd_new u1).ext x10).ext x11).trans x12) hw0B)⟩, fun hS2 => ?_⟩))
    have zw13 := x12.size
    rw [← hs5] at zs5
    refine Z.q ?_
    refine Z.x (Z.g [0, 1, 2, 3, 4, 5] ?_)
    refine Z.p [0, 1] [2, 3, 4, 5] [(167, Z.P k4 4), (166, Z.P b 0)] ?_
    refine Z.L 4 (.slice (As (j + 2)) ((ds.getD j nd0).ks.length) (cs (j + 2))) (x12.has ((b5.ext x10).ext x11) (by omega) (by decide)) ?_
    obtain ⟨a8, ha8, hc8⟩ := hr2 2 (by omega)
    refine Z.I 24 5 ha8 ((ds.getD j nd0).ks.length) (cs (j + 2)) 2 ?_
    refine Z.La [.int .i64 ((((ds.getD j nd0).ks.getD 2 nd0).k : Nat) : Int), .int .i64 ((((ds.getD j nd0).ks.getD 2 nd0).a : Nat) : Int), .string (((ds.getD j nd0).ks.getD 2 nd0).nm), .int .i64 (((ds.getD j nd0).ks.getD 2 nd0).n), .slice (Ds 2) (((ds.getD j nd0).ks.getD 2 nd0).ks.length) (es 2)] 5 hc8 (Gx.Ext.wx hE (((((((Gx.Wx.refl (e := 5) (wb := b) w hBw).trans x8).ext x9).upd_new u1).ext x10).ext x11).trans x12) hw0B) ?_
    have zs6 := (J_size s5 (ss.getD j Z.E)).1
    (try simp only [zap, zli, List.length] at zs6)
    refine Z.k (fun R hR => hw2 B b s5 _ R hbd5 (by omega) (Gx.Ext.wx hE (((((((Gx.Wx.refl (e := 5) (wb := b) w hBw).trans x8).ext x9).upd_new u1).ext x10).ext x11).trans x12) hw0B) hw0B (by omega) (fun w14 s6 hs6 x13 hbd6 => hR _ _ ?_))
    have zw14 := x13.size
    rw [← hs6] at zs6
    refine Gx.ops_nil (Gx.block_normal (Z.x (Z.g [0, 1] ?_)))
    refine Gx.pure_eq [0] [1] [(172, .int .i64 (IntKind.i64.wrap (((j : Nat) : Int) + (1 : Int))))] [(172, .int .i64 ((j + 1 : Nat) : Int))] rfl (by kernel_rfl) (Gx.eqI (Gx.i64n (by omega) (by omega))) ?_
    refine Z.p [1] [] [(147, .int .i64 ((j + 1 : Nat) : Int))] ?_
    refine Gx.ops_nil (Z.x ?_)
    rw [Gx.forget [(0, Z.P b 0), (145, .slice (if c = 2 then A else A.map (fun a_ => a_.add (2 * 5))) ds.length (c - 2)), (146, Z.n ds.length), (147, .int .i64 (((j + 1) : Nat) : Int))] (by kernel_rfl)]
    exact hK1 _ _ _ _ (by omega) ⟨(j + 1), s6, rfl, rfl, ((((((((Gx.Wx.refl (e := 5) (wb := b) w hBw).trans x8).ext x9).upd_new u1).ext x10).ext x11).trans x12).trans x13), (by omega), (by rw [hs6, hs5, hs0]; show putJ x [clT (ds.take j) (ss.take j) (((((Z.k55 ++ tA) ++ Z.k40) ++ r.nm) ++ Z.k30) ++ tR), Z.k24, (ds.getD j nd0).nm, ((ds.getD j nd0).ks.getD 0 nd0).nm, ((ds.getD j nd0).ks.getD 1 nd0).nm, Z.k1, (ss.getD j Z.E)] = _; rw [putJ_join _ (by first | decide | omega | (simp only [zap, zli, List.length]; omega))]; exact congrArg (J x) (bl (by rw [clT_succ ds ss _ j hl (by omega)]; unfold cl1; (try simp [joinS, l_app, Z.bd, Z.ed])))), hbd6⟩
  have p_c148 := of_decide_eq_false h_c148
  refine wp_exit (Gx.then_exit (Gx.then_exit (Gx.block_exit (Z.x ?_))))
  obtain rfl : j = ds.length := by omega
  rw [clT_all ds ss _ hl] at hs0 g0 z0 g1
  refine Z.g [0, 1, 2] ?_
  refine Z.p [0] [1, 2] [(173, Z.P b 0)] ?_
  refine Z.R (.cells #[.string Z.k11] 9) 1 1 (fun k6 w15 l6 x14 b7 zw15 tb7 => ?_)
  have zs7 : (putJ si [Z.k11]).size ≤ si.size + (Z.k11.size + 1 + 0) := putJ_bd [Z.k11] si
  (try simp only [zap, zli, List.length] at zs7)
  refine Z.k (fun R hR => put_c B b si [Z.k11] k6 1 _ R (hbd.ext x14) (by omega) b7 (by omega) (Nat.le_of_ble_eq_true rfl) (by omega) (fun w16 s7 hs7 x15 hbd7 => hR _ _ ?_))
  have zw16 := x15.size
  rw [← hs7] at zs7
  refine Gx.ops_nil (Gx.block_normal (Gx.ret_n (Gx.res0 rfl) ?_))
  exact hK _ _ (by rw [hs7, hs0]; show putJ x [clT ds ss (((((Z.k55 ++ tA) ++ Z.k40) ++ r.nm) ++ Z.k30) ++ tR), Z.k11] = _; rw [putJ_join _ (by first | decide | omega | (simp only [zap, zli, List.length]; omega))]; exact congrArg (J x) (bl (by (try simp [joinS, l_app, Z.bd, Z.ed])))) ((((Gx.Wx.refl (e := 5) (wb := b) w hBw).trans x8).ext x14).trans x15) hbd7
end Go.Proofs.YtinilkomfggjiaaDoor
