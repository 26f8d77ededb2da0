/- The walks, written by a program of ours (wip/gx/gx.py, printgen.py). -/
import Derived.Test.YtinilkomfggjiaaDoorRows
import Derived.Test.YtinilkomfggjiaaDoorGs
import Derived.Test.YtinilkomfggjiaaDoorSynBuild
import Derived.Test.YtinilkomfggjiaaDoorPrWalks6
set_option linter.unusedVariables false
set_option linter.unusedSimpArgs false
set_option maxHeartbeats 4000000
set_option maxRecDepth 20000
namespace Go.Proofs.YtinilkomfggjiaaDoor
open Go.RowKit Go.Lex Go.Syn
open Go.Show (digB e0 dig_small dig_step app_e0 app_assoc)
attribute [local irreducible] Go.wpOps Go.Code.wp Go.wpOp Go.wpAnyH Go.Calls Go.Syn.J
theorem prog_p (B b : Nat) (w0 : World) (Q : Nat → Prop) (L : List Nd) (m : Nat) (fs : List (ByteArray → ByteArray)) (A : Option Addr) (c : Nat) (As : Nat → Option Addr) (cs : Nat → Nat) (w : World) (K : Ending → World → Prop) (h : Bd w B b Z.E) (hBw : B ≤ w.heap.size) (hE : Gx.Ext w0 w) (hw0B : w0.heap.size ≤ B) (hr : Gx.Rd w0 A L.length 5 (fun i => ndC (L.getD i nd0) (As i) (cs i))) (hd : DL L fs) (hkk : ∀ i, i < L.length → KV Q w0 (L.getD i nd0).ks (As i) (cs i)) (htab : Lib.TabBelow Tryd.prog w0.heap.size w0 "internal/strconv.uint64pow10" .u64 Lib.pow10Tab) (hm : L.length = m + 1) (h12 : ∀ i, i < m → (L.getD i nd0).k = 1 ∨ (L.getD i nd0).k = 2) (h3 : 3 ≤ (L.getD m nd0).k) (hsz : (pgF fs Z.E).size ≤ 400000000) (hK : ∀ w' s', s' = pgF fs Z.E → Gx.Wx 5 B b w w' → Bd w' B b s' → K (.returned (.tuple #[])) w') :
    Calls Tryd.prog 39 #[Z.P b 0, .slice A L.length c] w K := by
  refine Z.en 69 Tryd.func39 ?_
  have tbb : b < w.heap.size := by obtain ⟨_, _, hq, _⟩ := h; exact hq.lt
  have hB : B ≤ b := by obtain ⟨_, _, _, _, hq, _⟩ := h; exact hq
  have hlen := pgF_len hd Z.E L.length (Nat.le_refl _); rw [List.take_of_length_le (by rw [hd.len]; exact Nat.le_refl _)] at hlen
  refine Z.s [(8, .int .i64 0), (7, Z.n L.length), (6, .slice A L.length c)] ?_
  refine wp_block (Gx.loop (n' := 69) (d' := []) (fun mz l' w' => ∃ (j : Nat) (si : ByteArray), l' = [(0, Z.P b 0), (6, .slice A L.length c), (7, Z.n L.length), (8, Z.n j)] ∧ mz = L.length - j ∧ Gx.Wx 5 B b w w' ∧ (j ≤ L.length) ∧ (j ≤ m → ∀ p, J si p = (pgF (fs.take j) Z.E) ++ p) ∧ (j = L.length → si = pgF fs Z.E) ∧ (si.size ≤ (pgF (fs.take j) Z.E).size) ∧ (Bd w' B b si)) _ _ [(0, Z.P b 0), (6, .slice A L.length c), (7, Z.n L.length), (8, Z.n 0)] (Gx.forget [(0, Z.P b 0), (6, .slice A L.length c), (7, Z.n L.length), (8, Z.n 0)] (by kernel_rfl)) ⟨0, Z.E, rfl, rfl, (Gx.Wx.refl (e := 5) (wb := b) w hBw), (Nat.zero_le _), (fun _ p => by rw [J_nil]; exact bl (by show _ = (Z.E ++ p).data.toList; simp [l_app, Z.bd, Z.ed])), (fun z => absurd z (by omega)), (Nat.zero_le _), h⟩ (fun bb1 m1 ll1 w1 hI1 K1 hK1 => ?_))
  obtain ⟨j, si, rfl, rfl, x1, hj, hinv, hfin, hzi, hbd⟩ := hI1
  have zw1 := x1.size
  have g1 := pgF_le hd Z.E j
  refine Z.s [(9, .bool (decide (((j : Nat) : Int) < ((L.length : Nat) : Int))))] ?_
  refine wp_seq (Z.c (decide (((j : Nat) : Int) < ((L.length : Nat) : Int))) (fun h_c9 => ?_) (fun h_c9 => ?_))
  · skip
    have p_c9 := of_decide_eq_true h_c9
    refine wp_skip (Z.x (wp_seq (wp_block ?_)))
    obtain ⟨Bs, bs, hr2, hk2⟩ := (hkk j (by omega)).at_
    have hdi := hd.at_ j (by omega)
    have q := pgF_le' hd Z.E j (by omega)
    have ps := pgF_succ fs Z.E j (by rw [hd.len]; omega)
    refine Z.r [0, 1, 2, 3] ?_
    obtain ⟨a1, ha1, hc1⟩ := hr j (by omega)
    refine Z.I 24 5 ha1 L.length c j ?_
    refine Z.La [.int .i64 (((L.getD j nd0).k : Nat) : Int), .int .i64 (((L.getD j nd0).a : Nat) : Int), .string ((L.getD j nd0).nm), .int .i64 ((L.getD j nd0).n), .slice (As j) ((L.getD j nd0).ks.length) (cs j)] 5 hc1 (Gx.Ext.wx hE ((Gx.Wx.refl (e := 5) (wb := b) w hBw).trans x1) hw0B) ?_
    refine Z.N Z.c0 (fun k1 w2 l1 x2 b1 zw2 tb1 => ?_)
    refine Z.Sa #[.int .i64 (((L.getD j nd0).k : Nat) : Int), .int .i64 (((L.getD j nd0).a : Nat) : Int), .string ((L.getD j nd0).nm), .int .i64 ((L.getD j nd0).n), .slice (As j) ((L.getD j nd0).ks.length) (cs j)] b1 (fun w3 u1 b2 zw3 => ?_)
    refine Z.e (Z.r [0, 1] ?_)
    refine Z.p [0] [1] [(12, Z.P k1 0)] ?_
    refine Z.L 0 (.int .i64 (((L.getD j nd0).k : Nat) : Int)) b2 ?_
    refine Z.e (wp_block (Z.s [(20, .bool ((((L.getD j nd0).k : Nat) : Int) == (1 : Int))), (21, .bool ((((L.getD j nd0).k : Nat) : Int) == (1 : Int)))] ?_))
    refine Z.c ((((L.getD j nd0).k : Nat) : Int) == (1 : Int)) (fun h_c20 => ?_) (fun h_c20 => ?_)
    · skip
      have n_c20 : (L.getD j nd0).k = 1 := by have z := Gx.k1 h_c20; omega
      obtain ⟨sx, sy, hl2, hn2, hm2, wx, wy, ef⟩ := hdi.op_inv (by omega)
      rw [ef] at q ps; (try simp only [ByteArray.size_append, lz0, lz1, lz2, lz3, lz4, lz5, lz7] at q)
      have px := wx.pos; have py := wy.pos; have hw5 : (if (L.getD j nd0).n = 1 then Z.k39 else Z.k42).size ≤ 4 := (by split <;> decide)
      have hjm : j < m := (by rcases Nat.lt_or_ge j m with z | z; exact z; exact absurd h3 (by rw [← show j = m by omega]; omega))
      refine wp_seq (Z.D (fun w' => Gx.Has w' k1 (.cells #[.int .i64 (((L.getD j nd0).k : Nat) : Int), .int .i64 (((L.getD j nd0).a : Nat) : Int), .string ((L.getD j nd0).nm), .int .i64 ((L.getD j nd0).n), .slice (As j) ((L.getD j nd0).ks.length) (cs j)] 24)) (fun w4 x3 zw4 => ?_))
      refine Z.h (b2.ext x3) (fun hS1 => ?_)
      refine Z.t 0 (Z.P b 0) hS1 ?_
      refine Z.t 1 (.agg #[.string Z.k42, .string Z.k39]) hS1 ?_
      refine Z.t 2 (Z.P k1 3) hS1 ?_
      refine Z.tl 3 3 (.int .i64 ((L.getD j nd0).n)) (fun _ hs => hs) hS1 ?_
      refine Gx.any_take_as 4 (.string (if (L.getD j nd0).n = 1 then Z.k39 else Z.k42)) (.string (if (L.getD j nd0).n = 1 then Z.k39 else Z.k42)) rfl rfl (by kernel_rfl) (by kernel_rfl) (by kernel_rfl) (fun _ _ _ h => h) (b2.ext x3) (by kernel_rfl) (fun _ _ => run_index2 rfl Z.k42 Z.k39 (by kernel_rfl) (L.getD j nd0).n (by kernel_rfl) hn2) ?_
      refine Z.h (b2.ext x3) (fun hS2 => ?_)
      refine Z.t 5 (Z.P k1 2) hS2 ?_
      refine Z.tl 6 2 (.string ((L.getD j nd0).nm)) (fun _ hs => hs) hS2 ?_
      refine Z.oR 7 (.cells #[.string Z.k51, .string (if (L.getD j nd0).n = 1 then Z.k39 else Z.k42), .string ((L.getD j nd0).nm), .string Z.k47] 9) 4 4 (fun k2 w5 l2 x4 b3 => ⟨((b2.ext x3).ext x4), ?_⟩)
      have zw5 := x4.size
      have tb3 := b3.lt
      have zs1 : (putJ si [Z.k51, if (L.getD j nd0).n = 1 then Z.k39 else Z.k42, (L.getD j nd0).nm, Z.k47]).size ≤ si.size + (Z.k51.size + 1 + ((if (L.getD j nd0).n = 1 then Z.k39 else Z.k42).size + 1 + (((L.getD j nd0).nm).size + 1 + (Z.k47.size + 1 + 0)))) := putJ_bd [Z.k51, if (L.getD j nd0).n = 1 then Z.k39 else Z.k42, (L.getD j nd0).nm, Z.k47] si
      (try simp only [zap, zli, List.length] at zs1)
      refine Z.o 8 (fun R hR => put_c B b si [Z.k51, if (L.getD j nd0).n = 1 then Z.k39 else Z.k42, (L.getD j nd0).nm, Z.k47] k2 4 _ R ((((hbd.ext x2).updO u1 b1 (fun _ _ q => by cases q) (by omega)).ext x3).ext x4) (by omega) b3 (by omega) (Nat.le_of_ble_eq_true rfl) (by omega) (fun w6 s1 hs1 x5 hbd1 => hR _ _ ⟨(x5.has ((b2.ext x3).ext x4) (by omega) (by decide)), fun hS3 => ?_⟩))
      have zw6 := x5.size
      rw [← hs1] at zs1
      refine Z.q ?_
      refine Z.x (Z.r [0, 1, 2, 3, 4, 5] ?_)
      refine Z.p [0, 1] [2, 3, 4, 5] [(32, Z.P k1 4), (31, Z.P b 0)] ?_
      have y1 := x5.has ((b2.ext x3).ext x4) (by omega) (by decide)
      refine Z.L 4 (.slice (As j) ((L.getD j nd0).ks.length) (cs j)) y1 ?_
      obtain ⟨a2, ha2, hc2⟩ := hr2 0 (by omega)
      refine Z.I 24 5 ha2 ((L.getD j nd0).ks.length) (cs j) 0 ?_
      refine Z.La [.int .i64 ((((L.getD j nd0).ks.getD 0 nd0).k : Nat) : Int), .int .i64 ((((L.getD j nd0).ks.getD 0 nd0).a : Nat) : Int), .string (((L.getD j nd0).ks.getD 0 nd0).nm), .int .i64 (((L.getD j nd0).ks.getD 0 nd0).n), .slice (Bs 0) (((L.getD j nd0).ks.getD 0 nd0).ks.length) (bs 0)] 5 hc2 (Gx.Ext.wx hE (((((((Gx.Wx.refl (e := 5) (wb := b) w hBw).trans x1).ext x2).upd_new u1).ext x3).ext x4).trans x5) hw0B) ?_
      have zs2 := (J_size s1 sx).1
      (try simp only [zap, zli, List.length] at zs2)
      refine Z.k (fun R hR => (pr_ok htab wx (Bs 0) (bs 0) (hk2 0 (by omega))) B b s1 _ R hbd1 (by omega) (Gx.Ext.wx hE (((((((Gx.Wx.refl (e := 5) (wb := b) w hBw).trans x1).ext x2).upd_new u1).ext x3).ext x4).trans x5) hw0B) hw0B (by omega) (fun w7 s2 hs2 x6 hbd2 => hR _ _ ?_))
      have zw7 := x6.size
      rw [← hs2] at zs2
      refine Z.e (Z.r [0, 1, 2] ?_)
      refine Z.p [0] [1, 2] [(37, Z.P b 0)] ?_
      refine Z.R (.cells #[.string Z.k1] 9) 1 1 (fun k3 w8 l3 x7 b4 zw8 tb4 => ?_)
      have zs3 : (putJ s2 [Z.k1]).size ≤ s2.size + (Z.k1.size + 1 + 0) := putJ_bd [Z.k1] s2
      (try simp only [zap, zli, List.length] at zs3)
      refine Z.k (fun R hR => put_c B b s2 [Z.k1] k3 1 _ R (hbd2.ext x7) (by omega) b4 (by omega) (Nat.le_of_ble_eq_true rfl) (by omega) (fun w9 s3 hs3 x8 hbd3 => hR _ _ ?_))
      have zw9 := x8.size
      rw [← hs3] at zs3
      refine Z.e (Z.g [0, 1, 2, 3, 4, 5] ?_)
      refine Z.p [0, 1] [2, 3, 4, 5] [(41, Z.P k1 4), (40, Z.P b 0)] ?_
      refine Z.L 4 (.slice (As j) ((L.getD j nd0).ks.length) (cs j)) (x8.has ((x6.has y1 (by omega) (by decide)).ext x7) (by omega) (by decide)) ?_
      obtain ⟨a3, ha3, hc3⟩ := hr2 1 (by omega)
      refine Z.I 24 5 ha3 ((L.getD j nd0).ks.length) (cs j) 1 ?_
      refine Z.La [.int .i64 ((((L.getD j nd0).ks.getD 1 nd0).k : Nat) : Int), .int .i64 ((((L.getD j nd0).ks.getD 1 nd0).a : Nat) : Int), .string (((L.getD j nd0).ks.getD 1 nd0).nm), .int .i64 (((L.getD j nd0).ks.getD 1 nd0).n), .slice (Bs 1) (((L.getD j nd0).ks.getD 1 nd0).ks.length) (bs 1)] 5 hc3 (Gx.Ext.wx hE ((((((((((Gx.Wx.refl (e := 5) (wb := b) w hBw).trans x1).ext x2).upd_new u1).ext x3).ext x4).trans x5).trans x6).ext x7).trans x8) hw0B) ?_
      have zs4 := (J_size s3 sy).1
      (try simp only [zap, zli, List.length] at zs4)
      refine Z.k (fun R hR => (pr_ok htab wy (Bs 1) (bs 1) (hk2 1 (by omega))) B b s3 _ R hbd3 (by omega) (Gx.Ext.wx hE ((((((((((Gx.Wx.refl (e := 5) (wb := b) w hBw).trans x1).ext x2).upd_new u1).ext x3).ext x4).trans x5).trans x6).ext x7).trans x8) hw0B) hw0B (by omega) (fun w10 s4 hs4 x9 hbd4 => hR _ _ ?_))
      have zw10 := x9.size
      rw [← hs4] at zs4
      refine Gx.ops_nil (Gx.block_normal (Gx.block_normal (Z.x (Z.g [0, 1] ?_))))
      refine Gx.pure_eq [0] [1] [(68, .int .i64 (IntKind.i64.wrap (((j : Nat) : Int) + (1 : Int))))] [(68, .int .i64 ((j + 1 : Nat) : Int))] rfl (by kernel_rfl) (Gx.eqI (Gx.i64n (by omega) (by omega))) ?_
      refine Z.p [1] [] [(8, .int .i64 ((j + 1 : Nat) : Int))] ?_
      refine Gx.ops_nil (Z.x ?_)
      have hse : s4 = (pgF (fs.take j) Z.E) ++ joinS Z.k51 [if (L.getD j nd0).n = 1 then Z.k39 else Z.k42, (L.getD j nd0).nm, Z.k47, sx, Z.k1, sy] := by rw [hs4, hs3, hs2, hs1]; show putJ si [Z.k51, if (L.getD j nd0).n = 1 then Z.k39 else Z.k42, (L.getD j nd0).nm, Z.k47, sx, Z.k1, sy] = _; rw [putJ_join _ (by first | decide | omega | (simp only [zap, zli, List.length]; omega))]; exact hinv (by omega) _
      have hsz2 := congrArg ByteArray.size hse; (try simp only [joinS, zap, zli, List.length] at hsz2)
      rw [Gx.forget [(0, Z.P b 0), (6, .slice A L.length c), (7, Z.n L.length), (8, .int .i64 (((j + 1) : Nat) : Int))] (by kernel_rfl)]
      exact hK1 _ _ _ _ (by omega) ⟨(j + 1), s4, rfl, rfl, (((((((((((Gx.Wx.refl (e := 5) (wb := b) w hBw).trans x1).ext x2).upd_new u1).ext x3).ext x4).trans x5).trans x6).ext x7).trans x8).trans x9), (by omega), (fun _ p => by rw [J, if_pos (by omega), hse, ps]; exact bl (by (try split) <;> simp [joinS, l_app, Z.bd, Z.ed])), (fun z => absurd z (by omega)), (by rw [ps]; (try simp only [zap, zli, List.length]); (try split) <;> (try simp only [zap, zli, List.length]) <;> omega), hbd4⟩
    have n_c20 : ¬ (L.getD j nd0).k = 1 := by have z := Gx.k0 h_c20; omega
    refine Z.s [(46, .bool ((((L.getD j nd0).k : Nat) : Int) == (2 : Int))), (47, .bool ((((L.getD j nd0).k : Nat) : Int) == (2 : Int)))] ?_
    refine Z.c ((((L.getD j nd0).k : Nat) : Int) == (2 : Int)) (fun h_c46 => ?_) (fun h_c46 => ?_)
    · skip
      have n_c46 : (L.getD j nd0).k = 2 := by have z := Gx.k1 h_c46; omega
      obtain ⟨fa, fx, fm, z, sx, hl1, he, hm2, hx2, wx, ef⟩ := hdi.df_inv (by omega)
      rw [ef] at q ps; (try simp only [ByteArray.size_append, lz0, lz1, lz2, lz3, lz4, lz5, lz7] at q)
      have px := wx.pos
      have hjm : j < m := (by rcases Nat.lt_or_ge j m with z | z; exact z; exact absurd h3 (by rw [← show j = m by omega]; omega))
      have hk3 := hk2 0 (by omega)
      obtain ⟨Es, es, hr3, hk4⟩ := hk3.at_
      have hk5 : KV Q w0 z.ks (Es 0) (es 0) := by have := hk4 0 (by rw [he]; exact Nat.zero_lt_one); rw [he] at this; exact this
      refine Z.r [0, 1, 2] ?_
      refine Z.p [0] [1, 2] [(48, Z.P b 0)] ?_
      refine Z.R (.cells #[.string Z.k43] 9) 1 1 (fun k4 w11 l4 x10 b5 zw11 tb5 => ?_)
      have zs5 : (putJ si [Z.k43]).size ≤ si.size + (Z.k43.size + 1 + 0) := putJ_bd [Z.k43] si
      (try simp only [zap, zli, List.length] at zs5)
      refine Z.k (fun R hR => put_c B b si [Z.k43] k4 1 _ R (((hbd.ext x2).updO u1 b1 (fun _ _ q => by cases q) (by omega)).ext x10) (by omega) b5 (by omega) (Nat.le_of_ble_eq_true rfl) (by omega) (fun w12 s5 hs5 x11 hbd5 => hR _ _ ?_))
      have zw12 := x11.size
      rw [← hs5] at zs5
      refine Z.e (wp_seq (Z.r [0, 1, 2] ?_))
      refine Z.p [0] [1, 2] [(51, Z.P k1 3)] ?_
      have y2 := x11.has (b2.ext x10) (by omega) (by decide)
      refine Z.L 3 (.int .i64 ((L.getD j nd0).n)) y2 ?_
      refine Z.p [2] [] [(53, .bool ((L.getD j nd0).n == (1 : Int)))] ?_
      refine Z.e (Z.c ((L.getD j nd0).n == (1 : Int)) (fun h_c53 => ?_) (fun h_c53 => ?_))
      · skip
        have p_c53 := Gx.k1 h_c53
        rw [if_pos (by simpa using h_c53)] at q ps
        (try simp only [lz0, lz4] at q)
        refine Z.g [0, 1, 2] ?_
        refine Z.p [0] [1, 2] [(54, Z.P b 0)] ?_
        refine Z.R (.cells #[.string Z.k19] 9) 1 1 (fun k5 w13 l5 x12 b6 zw13 tb6 => ?_)
        have zs6 : (putJ s5 [Z.k19]).size ≤ s5.size + (Z.k19.size + 1 + 0) := putJ_bd [Z.k19] s5
        (try simp only [zap, zli, List.length] at zs6)
        refine Z.k (fun R hR => put_c B b s5 [Z.k19] k5 1 _ R (hbd5.ext x12) (by omega) b6 (by omega) (Nat.le_of_ble_eq_true rfl) (by omega) (fun w14 s6 hs6 x13 hbd6 => hR _ _ ?_))
        have zw14 := x13.size
        rw [← hs6] at zs6
        refine Gx.ops_nil (Z.x (Z.r [0, 1, 2, 3, 4] ?_))
        refine Z.p [0, 1] [2, 3, 4] [(58, Z.P k1 2), (57, Z.P b 0)] ?_
        have y3 := x13.has (y2.ext x12) (by omega) (by decide)
        refine Z.L 2 (.string ((L.getD j nd0).nm)) y3 ?_
        refine Z.R (.cells #[.string ((L.getD j nd0).nm)] 9) 1 1 (fun k6 w15 l6 x14 b7 zw15 tb7 => ?_)
        have zs7 : (putJ s6 [(L.getD j nd0).nm]).size ≤ s6.size + (((L.getD j nd0).nm).size + 1 + 0) := putJ_bd [(L.getD j nd0).nm] s6
        (try simp only [zap, zli, List.length] at zs7)
        refine Z.k (fun R hR => put_c B b s6 [(L.getD j nd0).nm] k6 1 _ R (hbd6.ext x14) (by omega) b7 (by omega) (Nat.le_of_ble_eq_true rfl) (by omega) (fun w16 s7 hs7 x15 hbd7 => hR _ _ ?_))
        have zw16 := x15.size
        rw [← hs7] at zs7
        refine Z.e (Z.g [0, 1, 2, 3, 4, 5] ?_)
        refine Z.p [0, 1] [2, 3, 4, 5] [(63, Z.P k1 4), (62, Z.P b 0)] ?_
        refine Z.L 4 (.slice (As j) ((L.getD j nd0).ks.length) (cs j)) (x15.has (y3.ext x14) (by omega) (by decide)) ?_
        obtain ⟨a4, ha4, hc4⟩ := hr2 0 (by omega)
        refine Z.I 24 5 ha4 ((L.getD j nd0).ks.length) (cs j) 0 ?_
        refine Z.La [.int .i64 ((((L.getD j nd0).ks.getD 0 nd0).k : Nat) : Int), .int .i64 ((((L.getD j nd0).ks.getD 0 nd0).a : Nat) : Int), .string (((L.getD j nd0).ks.getD 0 nd0).nm), .int .i64 (((L.getD j nd0).ks.getD 0 nd0).n), .slice (Bs 0) (((L.getD j nd0).ks.getD 0 nd0).ks.length) (bs 0)] 5 hc4 (Gx.Ext.wx hE ((((((((((Gx.Wx.refl (e := 5) (wb := b) w hBw).trans x1).ext x2).upd_new u1).ext x10).trans x11).ext x12).trans x13).ext x14).trans x15) hw0B) ?_
        have zs8 := (J_size s7 ((fx ++ Z.k52) ++ sx)).1
        (try simp only [zap, zli, List.length] at zs8)
        refine Z.k (fun R hR => (fun B b x w K h hB hE hw hz k => bound_k B b x w0 _ fa fx fm z (Bs 0) (bs 0) Es es sx he w K h hB hE hw hz hr3 (pr_ok htab wx (Es 0) (es 0) hk5) hx2 k) B b s7 _ R hbd7 (by omega) (Gx.Ext.wx hE ((((((((((Gx.Wx.refl (e := 5) (wb := b) w hBw).trans x1).ext x2).upd_new u1).ext x10).trans x11).ext x12).trans x13).ext x14).trans x15) hw0B) hw0B (by (try simp only [zap, zli, List.length]); omega) (fun w17 s8 hs8 x16 hbd8 => hR _ _ ?_))
        have zw17 := x16.size
        rw [← hs8] at zs8
        refine Gx.ops_nil (Gx.block_normal (Gx.block_normal (Z.x (Z.g [0, 1] ?_))))
        refine Gx.pure_eq [0] [1] [(68, .int .i64 (IntKind.i64.wrap (((j : Nat) : Int) + (1 : Int))))] [(68, .int .i64 ((j + 1 : Nat) : Int))] rfl (by kernel_rfl) (Gx.eqI (Gx.i64n (by omega) (by omega))) ?_
        refine Z.p [1] [] [(8, .int .i64 ((j + 1 : Nat) : Int))] ?_
        refine Gx.ops_nil (Z.x ?_)
        have hse : s8 = (pgF (fs.take j) Z.E) ++ joinS Z.k43 [Z.k19, (L.getD j nd0).nm, ((fx ++ Z.k52) ++ sx)] := by rw [hs8, hs7, hs6, hs5]; show putJ si [Z.k43, Z.k19, (L.getD j nd0).nm, ((fx ++ Z.k52) ++ sx)] = _; rw [putJ_join _ (by first | decide | omega | (simp only [zap, zli, List.length]; omega))]; exact hinv (by omega) _
        have hsz2 := congrArg ByteArray.size hse; (try simp only [joinS, zap, zli, List.length] at hsz2)
        rw [Gx.forget [(0, Z.P b 0), (6, .slice A L.length c), (7, Z.n L.length), (8, .int .i64 (((j + 1) : Nat) : Int))] (by kernel_rfl)]
        exact hK1 _ _ _ _ (by omega) ⟨(j + 1), s8, rfl, rfl, (((((((((((Gx.Wx.refl (e := 5) (wb := b) w hBw).trans x1).ext x2).upd_new u1).ext x10).trans x11).ext x12).trans x13).ext x14).trans x15).trans x16), (by omega), (fun _ p => by rw [J, if_pos (by omega), hse, ps]; exact bl (by simp [joinS, l_app, Z.bd, Z.ed])), (fun z => absurd z (by omega)), (by rw [ps]; (try simp only [zap, zli, List.length]); omega), hbd8⟩
      have p_c53 := Gx.k0 h_c53
      rw [if_neg (by simpa using h_c53)] at q ps
      (try simp only [lz0, lz4] at q)
      refine wp_skip (Z.x (Z.r [0, 1, 2, 3, 4] ?_))
      refine Z.p [0, 1] [2, 3, 4] [(58, Z.P k1 2), (57, Z.P b 0)] ?_
      refine Z.L 2 (.string ((L.getD j nd0).nm)) y2 ?_
      refine Z.R (.cells #[.string ((L.getD j nd0).nm)] 9) 1 1 (fun k7 w18 l7 x17 b8 zw18 tb8 => ?_)
      have zs9 : (putJ s5 [(L.getD j nd0).nm]).size ≤ s5.size + (((L.getD j nd0).nm).size + 1 + 0) := putJ_bd [(L.getD j nd0).nm] s5
      (try simp only [zap, zli, List.length] at zs9)
      refine Z.k (fun R hR => put_c B b s5 [(L.getD j nd0).nm] k7 1 _ R (hbd5.ext x17) (by omega) b8 (by omega) (Nat.le_of_ble_eq_true rfl) (by omega) (fun w19 s9 hs9 x18 hbd9 => hR _ _ ?_))
      have zw19 := x18.size
      rw [← hs9] at zs9
      refine Z.e (Z.g [0, 1, 2, 3, 4, 5] ?_)
      refine Z.p [0, 1] [2, 3, 4, 5] [(63, Z.P k1 4), (62, Z.P b 0)] ?_
      refine Z.L 4 (.slice (As j) ((L.getD j nd0).ks.length) (cs j)) (x18.has (y2.ext x17) (by omega) (by decide)) ?_
      obtain ⟨a5, ha5, hc5⟩ := hr2 0 (by omega)
      refine Z.I 24 5 ha5 ((L.getD j nd0).ks.length) (cs j) 0 ?_
      refine Z.La [.int .i64 ((((L.getD j nd0).ks.getD 0 nd0).k : Nat) : Int), .int .i64 ((((L.getD j nd0).ks.getD 0 nd0).a : Nat) : Int), .string (((L.getD j nd0).ks.getD 0 nd0).nm), .int .i64 (((L.getD j nd0).ks.getD 0 nd0).n), .slice (Bs 0) (((L.getD j nd0).ks.getD 0 nd0).ks.length) (bs 0)] 5 hc5 (Gx.Ext.wx hE ((((((((Gx.Wx.refl (e := 5) (wb := b) w hBw).trans x1).ext x2).upd_new u1).ext x10).trans x11).ext x17).trans x18) hw0B) ?_
      have zs10 := (J_size s9 ((fx ++ Z.k52) ++ sx)).1
      (try simp only [zap, zli, List.length] at zs10)
      refine Z.k (fun R hR => (fun B b x w K h hB hE hw hz k => bound_k B b x w0 _ fa fx fm z (Bs 0) (bs 0) Es es sx he w K h hB hE hw hz hr3 (pr_ok htab wx (Es 0) (es 0) hk5) hx2 k) B b s9 _ R hbd9 (by omega) (Gx.Ext.wx hE ((((((((Gx.Wx.refl (e := 5) (wb := b) w hBw).trans x1).ext x2).upd_new u1).ext x10).trans x11).ext x17).trans x18) hw0B) hw0B (by (try simp only [zap, zli, List.length]); omega) (fun w20 s10 hs10 x19 hbd10 => hR _ _ ?_))
      have zw20 := x19.size
      rw [← hs10] at zs10
      refine Gx.ops_nil (Gx.block_normal (Gx.block_normal (Z.x (Z.g [0, 1] ?_))))
      refine Gx.pure_eq [0] [1] [(68, .int .i64 (IntKind.i64.wrap (((j : Nat) : Int) + (1 : Int))))] [(68, .int .i64 ((j + 1 : Nat) : Int))] rfl (by kernel_rfl) (Gx.eqI (Gx.i64n (by omega) (by omega))) ?_
      refine Z.p [1] [] [(8, .int .i64 ((j + 1 : Nat) : Int))] ?_
      refine Gx.ops_nil (Z.x ?_)
      have hse : s10 = (pgF (fs.take j) Z.E) ++ joinS Z.k43 [(L.getD j nd0).nm, ((fx ++ Z.k52) ++ sx)] := by rw [hs10, hs9, hs5]; show putJ si [Z.k43, (L.getD j nd0).nm, ((fx ++ Z.k52) ++ sx)] = _; rw [putJ_join _ (by first | decide | omega | (simp only [zap, zli, List.length]; omega))]; exact hinv (by omega) _
      have hsz2 := congrArg ByteArray.size hse; (try simp only [joinS, zap, zli, List.length] at hsz2)
      rw [Gx.forget [(0, Z.P b 0), (6, .slice A L.length c), (7, Z.n L.length), (8, .int .i64 (((j + 1) : Nat) : Int))] (by kernel_rfl)]
      exact hK1 _ _ _ _ (by omega) ⟨(j + 1), s10, rfl, rfl, (((((((((Gx.Wx.refl (e := 5) (wb := b) w hBw).trans x1).ext x2).upd_new u1).ext x10).trans x11).ext x17).trans x18).trans x19), (by omega), (fun _ p => by rw [J, if_pos (by omega), hse, ps]; exact bl (by simp [joinS, l_app, Z.bd, Z.ed])), (fun z => absurd z (by omega)), (by rw [ps]; (try simp only [zap, zli, List.length]); omega), hbd10⟩
    have n_c46 : ¬ (L.getD j nd0).k = 2 := by have z := Gx.k0 h_c46; omega
    obtain ⟨hk3, sx, wx, ef⟩ := hdi.main_inv (by omega) (by omega)
    rw [ef] at q ps; (try simp only [ByteArray.size_append, lz0, lz1, lz2, lz3, lz4, lz5, lz7] at q)
    have px := wx.pos
    have hjm : j = m := by rcases Nat.lt_or_ge j m with z | z; (rcases h12 j z with y | y <;> omega); omega
    refine Z.r [0, 1, 2] ?_
    refine Z.p [0] [1, 2] [(14, Z.P b 0)] ?_
    refine Z.R (.cells #[.string Z.k44, .string Z.k7] 9) 2 2 (fun k8 w21 l8 x20 b9 zw21 tb9 => ?_)
    have zs11 : (putJ si [Z.k44, Z.k7]).size ≤ si.size + (Z.k44.size + 1 + (Z.k7.size + 1 + 0)) := putJ_bd [Z.k44, Z.k7] si
    (try simp only [zap, zli, List.length] at zs11)
    refine Z.k (fun R hR => put_c B b si [Z.k44, Z.k7] k8 2 _ R (((hbd.ext x2).updO u1 b1 (fun _ _ q => by cases q) (by omega)).ext x20) (by omega) b9 (by omega) (Nat.le_of_ble_eq_true rfl) (by omega) (fun w22 s11 hs11 x21 hbd11 => hR _ _ ?_))
    have zw22 := x21.size
    rw [← hs11] at zs11
    refine Z.e (Z.g [0, 1, 2] ?_)
    refine Z.p [0] [1, 2] [(17, Z.P b 0)] ?_
    refine Z.L 0 (.agg #[.int .i64 (((L.getD j nd0).k : Nat) : Int), .int .i64 (((L.getD j nd0).a : Nat) : Int), .string ((L.getD j nd0).nm), .int .i64 ((L.getD j nd0).n), .slice (As j) ((L.getD j nd0).ks.length) (cs j)]) (x21.has (b2.ext x20) (by omega) (by decide)) ?_
    have zs12 := (J_size s11 sx).1
    (try simp only [zap, zli, List.length] at zs12)
    refine Z.k (fun R hR => (pr_ok htab wx (As j) (cs j) (hkk j (by omega))) B b s11 _ R hbd11 (by omega) (Gx.Ext.wx hE ((((((Gx.Wx.refl (e := 5) (wb := b) w hBw).trans x1).ext x2).upd_new u1).ext x20).trans x21) hw0B) hw0B (by omega) (fun w23 s12 hs12 x22 hbd12 => hR _ _ ?_))
    have zw23 := x22.size
    rw [← hs12] at zs12
    refine Gx.ops_nil (Gx.block_normal (Gx.block_normal (Z.x (Z.g [0, 1] ?_))))
    refine Gx.pure_eq [0] [1] [(68, .int .i64 (IntKind.i64.wrap (((j : Nat) : Int) + (1 : Int))))] [(68, .int .i64 ((j + 1 : Nat) : Int))] rfl (by kernel_rfl) (Gx.eqI (Gx.i64n (by omega) (by omega))) ?_
    refine Z.p [1] [] [(8, .int .i64 ((j + 1 : Nat) : Int))] ?_
    refine Gx.ops_nil (Z.x ?_)
    have hse : s12 = (pgF (fs.take j) Z.E) ++ joinS Z.k44 [Z.k7, sx] := by rw [hs12, hs11]; show putJ si [Z.k44, Z.k7, sx] = _; rw [putJ_join _ (by first | decide | omega | (simp only [zap, zli, List.length]; omega))]; exact hinv (by omega) _
    have hsz2 := congrArg ByteArray.size hse; (try simp only [joinS, zap, zli, List.length] at hsz2)
    rw [Gx.forget [(0, Z.P b 0), (6, .slice A L.length c), (7, Z.n L.length), (8, .int .i64 (((j + 1) : Nat) : Int))] (by kernel_rfl)]
    exact hK1 _ _ _ _ (by omega) ⟨(j + 1), s12, rfl, rfl, (((((((Gx.Wx.refl (e := 5) (wb := b) w hBw).trans x1).ext x2).upd_new u1).ext x20).trans x21).trans x22), (by omega), (fun z => absurd z (by omega)), (fun _ => by have e := List.take_of_length_le (l := fs) (i := j + 1) (by rw [hd.len]; omega); have p2 := ps; rw [e] at p2; rw [hse, p2]; exact bl (by simp [joinS, l_app, Z.bd, Z.ed])), (by rw [ps]; (try simp only [zap, zli, List.length]); omega), hbd12⟩
  have p_c9 := of_decide_eq_false h_c9
  refine wp_exit (Gx.then_exit (Gx.then_exit (Gx.block_exit (Gx.ret_n (Gx.res0 rfl) ?_))))
  obtain rfl : j = L.length := by omega
  exact hK _ _ (hfin rfl) ((Gx.Wx.refl (e := 5) (wb := b) w hBw).trans x1) hbd
theorem node_0 (B b : Nat) (w0 : World) (Q : Nat → Prop) (a : Nat) (nm : ByteArray) (n : Int) (L : List Nd) (m : Nat) (fs : List (ByteArray → ByteArray)) (A : Option Addr) (c : Nat) (As : Nat → Option Addr) (cs : Nat → Nat) (w : World) (K : Ending → World → Prop) (h : Bd w B b Z.E) (hBw : B ≤ w.heap.size) (hE : Gx.Ext w0 w) (hw0B : w0.heap.size ≤ B) (hr : Gx.Rd w0 A L.length 5 (fun i => ndC (L.getD i nd0) (As i) (cs i))) (hd : DL L fs) (hkk : ∀ i, i < L.length → KV Q w0 (L.getD i nd0).ks (As i) (cs i)) (htab : Lib.TabBelow Tryd.prog w0.heap.size w0 "internal/strconv.uint64pow10" .u64 Lib.pow10Tab) (hm : L.length = m + 1) (h12 : ∀ i, i < m → (L.getD i nd0).k = 1 ∨ (L.getD i nd0).k = 2) (h3 : 3 ≤ (L.getD m nd0).k) (hsz : (pgF fs Z.E).size ≤ 400000000) (hK : ∀ w' s', s' = pgF fs Z.E → Gx.Wx 5 B b w w' → Bd w' B b s' → K (.returned (.tuple #[])) w') :
    Calls Tryd.prog 16 #[Z.P b 0, .agg #[.int .i64 0, Z.n a, .string nm, .int .i64 n, .slice A L.length c]] w K := by
  refine Z.en 34 Tryd.func16 ?_
  have tbb : b < w.heap.size := by obtain ⟨_, _, hq, _⟩ := h; exact hq.lt
  have hB : B ≤ b := by obtain ⟨_, _, _, _, hq, _⟩ := h; exact hq
  refine Z.r [0] ?_
  refine Z.N (.cells #[.int .i64 0, Z.n a, .string nm, .int .i64 n, .slice A L.length c] 24) (fun k1 w1 l1 x1 b1 zw1 tb1 => ?_)
  refine Z.e (wp_block (Z.r [0, 1, 2, 3] ?_))
  refine Z.p [0] [1, 2, 3] [(8, Z.P k1 0)] ?_
  refine Z.L 0 (.int .i64 0) b1 ?_
  refine Z.p [2, 3] [] [(7, .bool true), (10, .bool true)] ?_
  refine Z.e (Z.ct ?_)
  refine Z.g [0, 1, 2, 3] ?_
  refine Z.p [0, 1] [2, 3] [(12, Z.P k1 4), (11, Z.P b 0)] ?_
  refine Z.L 4 (.slice A L.length c) b1 ?_
  refine Z.k (fun R hR => prog_p B b w0 Q L m fs A c As cs _ R (h.ext x1) (by omega) (Gx.Ext.wx hE ((Gx.Wx.refl (e := 5) (wb := b) w hBw).ext x1) hw0B) hw0B hr hd hkk htab hm h12 h3 hsz (fun w2 s1 hs1 x2 hbd1 => hR _ _ ?_))
  have zw2 := x2.size
  refine Gx.ops_nil (Gx.block_normal (Gx.ret_n (Gx.res0 rfl) ?_))
  exact hK _ _ hs1 (((Gx.Wx.refl (e := 5) (wb := b) w hBw).ext x1).trans x2) hbd1
theorem Print_c (Q : Nat → Prop) (a : Nat) (nm : ByteArray) (n : Int) (L : List Nd) (m : Nat) (fs : List (ByteArray → ByteArray)) (A : Option Addr) (c : Nat) (As : Nat → Option Addr) (cs : Nat → Nat) (w : World) (K : Ending → World → Prop) (hr : Gx.Rd w A L.length 5 (fun i => ndC (L.getD i nd0) (As i) (cs i))) (hd : DL L fs) (hkk : ∀ i, i < L.length → KV Q w (L.getD i nd0).ks (As i) (cs i)) (htab : Lib.TabBelow Tryd.prog w.heap.size w "internal/strconv.uint64pow10" .u64 Lib.pow10Tab) (hm : L.length = m + 1) (h12 : ∀ i, i < m → (L.getD i nd0).k = 1 ∨ (L.getD i nd0).k = 2) (h3 : 3 ≤ (L.getD m nd0).k) (hsz : (pgF fs Z.E).size ≤ 400000000) (hpos : 0 < (pgF fs Z.E).size) (hK : ∀ w', Gx.Ext w w' → K (.returned (.string (pgF fs Z.E))) w') :
    Calls Tryd.prog 6 #[.agg #[.int .i64 0, Z.n a, .string nm, .int .i64 n, .slice A L.length c]] w K := by
  refine Gx.enterDef 14 Tryd.func6 rfl rfl (Nat.le_of_ble_eq_true rfl) ?_
  refine Z.r [0, 1] ?_
  refine Z.N (.cells #[.int .i64 0, Z.n a, .string nm, .int .i64 n, .slice A L.length c] 24) (fun k1 w1 l1 x1 b1 zw1 tb1 => ?_)
  refine Z.N (.cells #[.string Z.E] 9) (fun k2 w2 l2 x2 b2 zw2 tb2 => ?_)
  refine Z.e (Z.r [0, 1] ?_)
  refine Z.p [0] [1] [(4, .func (.func 15) #[] #[Z.P k2 0])] ?_
  refine Gx.cons (Gx.op_defer { target := .fn (.func 15) #[Z.P k2 0], args := #[] } rfl (by kernel_rfl) (by kernel_rfl) ?_)
  refine Z.e (Z.r [0, 1, 2] ?_)
  refine Z.p [0] [1, 2] [(5, .agg #[.pointer none, .slice none 0 0])] ?_
  refine Z.N (.cells #[.pointer none, .slice none 0 0] 47) (fun k3 w3 l3 x3 b3 zw3 tb3 => ?_)
  refine Z.p [2] [] [(3, Z.P k3 0)] ?_
  refine Z.e (Z.r [0, 1, 2] ?_)
  refine Z.p [0] [1, 2] [(7, Z.P k3 0)] ?_
  refine Z.L 0 (.agg #[.int .i64 0, Z.n a, .string nm, .int .i64 n, .slice A L.length c]) ((b1.ext x2).ext x3) ?_
  have y1 := (((Gx.Ext.refl w).trans x1).trans x2).trans x3
  refine Z.k (fun R hR => node_0 k3 k3 w Q a nm n L m fs A c As cs _ R (new_builder b3) (by omega) y1 (by omega) hr hd hkk htab hm h12 h3 hsz (fun w4 s1 hs1 x4 hbd1 => hR _ _ ?_))
  have zw4 := x4.size
  refine Z.e (Z.r [0, 1, 2, 3, 4] ?_)
  refine Z.p [0, 1, 2] [3, 4] [(12, Z.P k3 0), (11, Z.P k3 0), (10, Z.P k3 0)] ?_
  refine Z.k (fun R hR => string_c k3 k3 s1 _ R hbd1 (by omega) (by rw [hs1]; exact hpos) (by rw [hs1]; omega) (fun w5 x5 => hR _ _ ?_))
  have zw5 := x5.size
  refine Z.S 0 (.string s1) (x5.has (x4.has (b2.ext x3) (by omega) (by decide)) (by omega) (by decide)) #[.string s1] (fun w6 u1 b4 zw6 => ?_)
  refine Z.e (wp_ret (Gx.retD1 (f := 15) (cap := #[Z.P k2 0]) (args := #[Z.P k2 0]) (by simp [go_sem]) (catch_idle ⟨k2, 0, none⟩ _) (Gx.res_c (u := .string s1) rfl (by kernel_rfl) b4 (by kernel_rfl)) ?_))
  rw [hs1]; exact hK _ (((y1.wx x4 (by omega)).wx x5 (by omega)).upd1 u1)
end Go.Proofs.YtinilkomfggjiaaDoor
