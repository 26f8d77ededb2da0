/- The walks, written by a program of ours (wip/gx/gx.py, syngen.py). -/
import Derived.Test.YtinilkomfggjiaaRows
import Derived.Test.YtinilkomfggjiaaGs
import Derived.Test.YtinilkomfggjiaaSynPlain
import Derived.Test.YtinilkomfggjiaaLexWalks2
import Derived.Test.YtinilkomfggjiaaSynWalks5
set_option linter.unusedVariables false
set_option linter.unusedSimpArgs false
namespace Go.Proofs.Ytinilkomfggjiaa
open Go.RowKit Go.Lex Go.Syn
attribute [local irreducible] Go.wpOps Go.Code.wp Go.wpOp Go.wpAnyH Go.Calls
namespace Doc
theorem spec_upto (k : Nat) : ∀ j, j ≤ k → Spec j := by
  induction k with
  | zero =>
    intro j hj
    obtain rfl : j = 0 := by omega
    exact { f_typ := fun b S q  w K _ _ h _ => absurd h (by omega), f_pair := fun b S q  w K _ _ h _ => absurd h (by omega), f_some := fun b S q  w K _ _ h _ => absurd h (by omega), f_expr := fun b S q  w K _ _ h _ => absurd h (by omega), f_any := fun b S q  w K _ _ h _ => absurd h (by omega), f_params := fun b S q sign first w K _ _ h _ => absurd h (by omega), f_letN := fun b S q at_ w K _ _ h _ => absurd h (by omega), f_cases := fun b S q at_ w K _ _ h _ => absurd h (by omega), f_handle := fun b S q at_ w K _ _ h _ _ => absurd h (by omega), f_comp := fun b S q  w K _ _ h _ => absurd h (by omega), f_cons := fun b S q  w K _ _ h _ => absurd h (by omega), f_sum := fun b S q  w K _ _ h _ => absurd h (by omega), f_mul := fun b S q  w K _ _ h _ => absurd h (by omega), f_app := fun b S q  w K _ _ h _ => absurd h (by omega), f_atom := fun b S q  w K _ _ h _ => absurd h (by omega), f_round := fun b S q at_ w K _ _ h _ => absurd h (by omega), f_square := fun b S q at_ w K _ _ h _ => absurd h (by omega), f_prog := fun b S q  w K _ _ h _ => absurd h (by omega) }
  | succ k ih =>
    intro j hj
    by_cases e : j = k + 1
    · subst e
      exact { f_typ := fun b S q  w K hb hok hmu hK => typ_c k b S q  w K ih hb hok hmu hK, f_pair := fun b S q  w K hb hok hmu hK => pair_c k b S q  w K ih hb hok hmu hK, f_some := fun b S q  w K hb hok hmu hK => some_c k b S q  w K ih hb hok hmu hK, f_expr := fun b S q  w K hb hok hmu hK => expr_c k b S q  w K ih hb hok hmu hK, f_any := fun b S q  w K hb hok hmu hK => any_c k b S q  w K ih hb hok hmu hK, f_params := fun b S q sign first w K hb hok hmu hK => params_c k b S q sign first w K ih hb hok hmu hK, f_letN := fun b S q at_ w K hb hok hmu hK => letN_c k b S q at_ w K ih hb hok hmu hK, f_cases := fun b S q at_ w K hb hok hmu hK => cases_c k b S q at_ w K ih hb hok hmu hK, f_handle := fun b S q at_ w K hb hok hmu hs hK => handle_c k b S q at_ w K ih hb hok hmu hs hK, f_comp := fun b S q  w K hb hok hmu hK => comp_c k b S q  w K ih hb hok hmu hK, f_cons := fun b S q  w K hb hok hmu hK => cons_c k b S q  w K ih hb hok hmu hK, f_sum := fun b S q  w K hb hok hmu hK => sum_c k b S q  w K ih hb hok hmu hK, f_mul := fun b S q  w K hb hok hmu hK => mul_c k b S q  w K ih hb hok hmu hK, f_app := fun b S q  w K hb hok hmu hK => app_c k b S q  w K ih hb hok hmu hK, f_atom := fun b S q  w K hb hok hmu hK => atom_c k b S q  w K ih hb hok hmu hK, f_round := fun b S q at_ w K hb hok hmu hK => round_c k b S q at_ w K ih hb hok hmu hK, f_square := fun b S q at_ w K hb hok hmu hK => square_c k b S q at_ w K ih hb hok hmu hK, f_prog := fun b S q  w K hb hok hmu hK => prog_c k b S q  w K ih hb hok hmu hK }
    · exact ih j (by omega)
set_option maxHeartbeats 400000 in
set_option maxRecDepth 10000 in
theorem parse_c (s : ByteArray) (w : World) (K : Ending → World → Prop)  (hK : ∀ w' t A c fk fa, parseP s = (t, fk, fa) → Gx.Ext w w' → KV (In w.heap.size w'.heap.size []) w' t.ks A c → K (.returned (.tuple #[.agg #[Z.n t.k, Z.n t.a, .string t.nm, .int .i64 t.n, .slice A t.ks.length c], .agg #[Z.n fk, Z.n fa]])) w') :
    Calls Try.prog 5 #[.string s] w K := by
  refine Gx.enter 40 Try.func5 rfl rfl (Nat.le_of_ble_eq_true rfl) ?_
  refine Z.r [0, 1] ?_
  refine Z.N (.cells #[.int .i64 0, .int .i64 0, .string Z.E, .int .i64 0, .slice none 0 0] 24) (fun k1 w1 l1 x1 b1 zw1 tb1 => ?_)
  refine Z.N (.cells #[.int .i64 0, .int .i64 0] 27) (fun k2 w2 l2 x2 b2 zw2 tb2 => ?_)
  refine Z.e (wp_seq (Z.s [(8, .bool (decide (((s.size : Nat) : Int) > (3000 : Int)))), (7, Z.n s.size), (6, .string s)] ?_))
  refine Z.c (decide (((s.size : Nat) : Int) > (3000 : Int))) (fun h_c8 => ?_) (fun h_c8 => ?_)
  · skip
    refine Z.r [0, 1, 2, 3] ?_
    refine Z.p [0, 1] [2, 3] [(10, .agg #[.int .i64 1, .int .i64 0]), (9, .agg #[.int .i64 0, .int .i64 0, .string Z.E, .int .i64 0, .slice none 0 0])] ?_
    refine Z.Sa #[.int .i64 0, .int .i64 0, .string Z.E, .int .i64 0, .slice none 0 0] (b1.ext x2) (fun w3 u1 b3 zw3 => ?_)
    have p_c8 := of_decide_eq_true h_c8
    refine Z.Sa #[.int .i64 1, .int .i64 0] (b2.upd1 u1) (fun w4 u2 b4 zw4 => ?_)
    refine Z.e (wp_ret (Gx.then_ret (Gx.ret (Gx.res_cc (u := .agg #[.int .i64 0, .int .i64 0, .string Z.E, .int .i64 0, .slice none 0 0]) (v := .agg #[.int .i64 1, .int .i64 0]) rfl (by kernel_rfl) (b3.upd1 u2) (by kernel_rfl) (by kernel_rfl) b4 (by kernel_rfl)) ?_)))
    exact hK _ nd0 none 0 1 0 (by first | (unfold parseP; rw [if_pos (show s.size > 3000 by omega)]; done) | exact absurd (h_g20.symm.trans n_c32) (by decide)) (((((Gx.Ext.refl w).trans x1).trans x2).upd1 u1).upd1 u2) KV.nil
  refine wp_skip (Z.x (Z.r [0, 1, 2, 3] ?_))
  refine Z.p [0, 1] [2, 3] [(12, .agg #[.string s, .int .i64 0, .int .i64 0, .string Z.E, .int .i64 0, .int .i64 0, .int .i64 0, .int .i64 0, .int .i64 0, .int .i64 0]), (11, .string s)] ?_
  refine Z.N (.cells #[.string s, .int .i64 0, .int .i64 0, .string Z.E, .int .i64 0, .int .i64 0, .int .i64 0, .int .i64 0, .int .i64 0, .int .i64 0] 41) (fun b w5 l3 x3 b5 zw5 tb5 => ?_)
  refine Z.p [3] [] [(4, Z.P b 0)] ?_
  refine Z.e ?_
  have p_c8 := of_decide_eq_false h_c8
  have hsz : s.size ≤ 3000 := by omega
  refine Z.r [0, 1] ?_
  refine Z.p [0] [1] [(14, Z.P b 0)] ?_
  refine Z.k (fun R hR => next0_c b s q00 _ R b5 hsz (Nat.zero_le _) (fun w6 q1 e1 x4 b6 => hR _ _ ?_))
  have zw6 := x4.size
  have tb6 := b6.lt
  have ok1 : Ok s q1 := by rw [← e1]; exact first_ok hsz
  have hM0 := M_le ok1
  refine Z.e (Z.r [0, 1, 2, 3] ?_)
  refine Z.p [0] [1, 2, 3] [(16, Z.P b 0)] ?_
  refine Z.k (fun R hR => (spec_upto fuelP fuelP (Nat.le_refl _)).f_prog b s q1 _ R b6 ok1 (by show _ ≤ 48100; omega) (fun w7 t1 A1 c1 q2 e2 x5 b7 kv1 => hR _ _ ?_))
  have zw7 := x5.size
  have tb7 := b7.lt
  obtain ⟨ok2, m2, tr2x, tr2y⟩ : Tr s q1 q2 := run_facts ok1 e2
  refine Z.N (.cells #[.int .i64 0, .int .i64 0, .string Z.E, .int .i64 0, .slice none 0 0] 24) (fun k3 w8 l4 x6 b8 zw8 tb8 => ?_)
  refine Z.Sa #[Z.n t1.k, Z.n t1.a, .string t1.nm, .int .i64 t1.n, .slice A1 t1.ks.length c1] b8 (fun w9 u3 b9 zw9 => ?_)
  refine Z.e (wp_seq (Z.r [0, 1, 2, 3, 4, 5, 6, 7, 8, 9] ?_))
  refine Z.p [0] [1, 2, 3, 4, 5, 6, 7, 8, 9] [(18, Z.P b 0)] ?_
  refine Z.k (fun R hR => ok_c b s q2 _ R ((b7.ext x6).upd1 u3) (hR _ _ ?_))
  refine Z.p [2] [3, 4, 5, 6, 7, 8, 9] [(20, .bool (okB q2))] ?_
  refine Gx.split (okB q2) (fun h_g20 => ?_) (fun h_g20 => ?_)
  · rw [h_g20]
    refine Z.p [3, 4, 5, 6] [7, 8, 9] [(24, Z.P b 1), (23, Z.P b 1), (22, Z.P b 0), (21, Z.P b 0)] ?_
    refine Z.L 1 (Z.n q2.k) ((b7.ext x6).upd1 u3) ?_
    refine Z.p [8, 9] [] [(27, .bool (((q2.k : Nat) : Int) != (0 : Int))), (26, .bool (((q2.k : Nat) : Int) != (0 : Int)))] ?_
    refine Z.e (Z.c (((q2.k : Nat) : Int) != (0 : Int)) (fun h_c27 => ?_) (fun h_c27 => ?_))
    · skip
      refine Z.g [0, 1] ?_
      refine Z.p [0] [1] [(28, Z.P b 0)] ?_
      have n_c27 : (((q2.k : Nat) : Int) == (0 : Int)) = false := by simpa using h_c27
      have p_c27 := h_c27; try simp at p_c27
      refine Z.k (fun R hR => no_c b s q2 _ R ((b7.ext x6).upd1 u3) ok2 (fun w10 q3 e3 x7 b10 => hR _ _ ?_))
      have zw10 := x7.size
      have tb10 := b10.lt
      obtain ⟨ok3, m3, tr3x, tr3y⟩ : Tr s q2 q3 := e3 ▸ no_tr ok2
      refine Gx.ops_nil (Z.x (wp_seq (Z.r [0, 1, 2] ?_)))
      refine Z.p [0] [1, 2] [(30, Z.P b 0)] ?_
      refine Z.k (fun R hR => ok_c b s q3 _ R b10 (hR _ _ ?_))
      refine Z.p [2] [] [(32, .bool (!(okB q3)))] ?_
      refine Z.e (Z.c (!(okB q3)) (fun h_c32 => ?_) (fun h_c32 => ?_))
      · skip
        refine wp_seq (Z.D (fun w' => Gx.Has w' b (.cells #[.string s, Z.n q3.k, Z.n q3.a, .string q3.t, Z.n q3.n, Z.n q3.e, Z.n q3.fk, Z.n q3.fa, Z.n q3.x, Z.n q3.y] 41)) (fun w11 x8 zw11 => ?_))
        refine Z.h (b10.ext x8) (fun hS1 => ?_)
        refine Z.t 0 (.agg #[.int .i64 0, .int .i64 0, .string Z.E, .int .i64 0, .slice none 0 0]) hS1 ?_
        refine Z.t 1 (Z.P b 0) hS1 ?_
        refine Z.t 2 (Z.P b 0) hS1 ?_
        refine Z.t 3 (Z.P b 6) hS1 ?_
        refine Z.tl 4 6 (.agg #[Z.n q3.fk, Z.n q3.fa]) (fun _ hs => hs) hS1 ?_
        have n_c32 : okB q3 = false := by simpa using h_c32
        refine Z.oSa 5 #[.int .i64 0, .int .i64 0, .string Z.E, .int .i64 0, .slice none 0 0] ((((((((b1.ext x2).ext x3).upd1 x4).upd1 x5).ext x6).upd1 u3).upd1 x7).ext x8) (fun w12 u4 b11 => ⟨((b10.ext x8).upd1 u4), ?_⟩)
        have zw12 := u4.size
        refine Z.oSa 6 #[Z.n q3.fk, Z.n q3.fa] ((((((((b2.ext x3).upd1 x4).upd1 x5).ext x6).upd1 u3).upd1 x7).ext x8).upd1 u4) (fun w13 u5 b12 => ⟨(((b10.ext x8).upd1 u4).upd1 u5), ?_⟩)
        have zw13 := u5.size
        refine Z.q ?_
        refine Z.x (wp_ret (Gx.then_ret (Gx.ret (Gx.res_cc (u := .agg #[.int .i64 0, .int .i64 0, .string Z.E, .int .i64 0, .slice none 0 0]) (v := .agg #[Z.n q3.fk, Z.n q3.fa]) rfl (by kernel_rfl) (b11.upd1 u5) (by kernel_rfl) (by kernel_rfl) b12 (by kernel_rfl)) ?_)))
        exact hK _ nd0 none 0 q3.fk q3.fa (by first | (unfold parseP; rw [if_neg (show ¬ s.size > 3000 by omega)]; simp only [lastR, e1, e2, e3, h_c8, h_g20, h_c27, h_c32, n_c27, n_c32, Z.ifs, reduceIte]; done) | exact absurd (h_g20.symm.trans n_c32) (by decide)) ((((((((((((Gx.Ext.refl w).trans x1).trans x2).trans x3).upd1 x4).upd1 x5).trans x6).upd1 u3).upd1 x7).trans x8).upd1 u4).upd1 u5) KV.nil
      refine wp_skip (Z.x (Z.r [0, 1, 2, 3] ?_))
      have n_c32 : okB q3 = true := by simpa using h_c32
      refine Z.L 0 (.agg #[Z.n t1.k, Z.n t1.a, .string t1.nm, .int .i64 t1.n, .slice A1 t1.ks.length c1]) (b9.upd1 x7) ?_
      refine Z.p [1] [2, 3] [(39, .agg #[.int .i64 0, .int .i64 0])] ?_
      refine Z.Sa #[Z.n t1.k, Z.n t1.a, .string t1.nm, .int .i64 t1.n, .slice A1 t1.ks.length c1] (((((((b1.ext x2).ext x3).upd1 x4).upd1 x5).ext x6).upd1 u3).upd1 x7) (fun w14 u6 b13 zw14 => ?_)
      refine Z.Sa #[.int .i64 0, .int .i64 0] (((((((b2.ext x3).upd1 x4).upd1 x5).ext x6).upd1 u3).upd1 x7).upd1 u6) (fun w15 u7 b14 zw15 => ?_)
      refine Z.e (wp_ret (Gx.ret (Gx.res_cc (u := .agg #[Z.n t1.k, Z.n t1.a, .string t1.nm, .int .i64 t1.n, .slice A1 t1.ks.length c1]) (v := .agg #[.int .i64 0, .int .i64 0]) rfl (by kernel_rfl) (b13.upd1 u7) (by kernel_rfl) (by kernel_rfl) b14 (by kernel_rfl)) ?_))
      exact hK _ t1 A1 c1 0 0 (by first | (unfold parseP; rw [if_neg (show ¬ s.size > 3000 by omega)]; simp only [lastR, e1, e2, e3, h_c8, h_g20, h_c27, h_c32, n_c27, n_c32, Z.ifs, reduceIte]; done) | exact absurd (h_g20.symm.trans n_c32) (by decide)) (((((((((((Gx.Ext.refl w).trans x1).trans x2).trans x3).upd1 x4).upd1 x5).trans x6).upd1 u3).upd1 x7).upd1 u6).upd1 u7) (KV.top (((((kv1.ext x6).upd u3).upd x7).upd u6).upd u7))
    refine wp_skip (Z.x (wp_seq (Z.r [0, 1, 2] ?_)))
    refine Z.p [0] [1, 2] [(30, Z.P b 0)] ?_
    have n_c27 : (((q2.k : Nat) : Int) == (0 : Int)) = true := by simpa using h_c27
    have p_c27 := h_c27; try simp at p_c27
    refine Z.k (fun R hR => ok_c b s q2 _ R ((b7.ext x6).upd1 u3) (hR _ _ ?_))
    refine Z.p [2] [] [(32, .bool (!(okB q2)))] ?_
    refine Z.e (Z.c (!(okB q2)) (fun h_c32 => ?_) (fun h_c32 => ?_))
    · skip
      refine wp_seq (Z.D (fun w' => Gx.Has w' b (.cells #[.string s, Z.n q2.k, Z.n q2.a, .string q2.t, Z.n q2.n, Z.n q2.e, Z.n q2.fk, Z.n q2.fa, Z.n q2.x, Z.n q2.y] 41)) (fun w16 x9 zw16 => ?_))
      have n_c32 : okB q2 = false := by simpa using h_c32
      refine Z.h (((b7.ext x6).upd1 u3).ext x9) (fun hS2 => ?_)
      refine Z.t 0 (.agg #[.int .i64 0, .int .i64 0, .string Z.E, .int .i64 0, .slice none 0 0]) hS2 ?_
      refine Z.t 1 (Z.P b 0) hS2 ?_
      refine Z.t 2 (Z.P b 0) hS2 ?_
      refine Z.t 3 (Z.P b 6) hS2 ?_
      refine Z.tl 4 6 (.agg #[Z.n q2.fk, Z.n q2.fa]) (fun _ hs => hs) hS2 ?_
      refine Z.oSa 5 #[.int .i64 0, .int .i64 0, .string Z.E, .int .i64 0, .slice none 0 0] (((((((b1.ext x2).ext x3).upd1 x4).upd1 x5).ext x6).upd1 u3).ext x9) (fun w17 u8 b15 => ⟨((((b7.ext x6).upd1 u3).ext x9).upd1 u8), ?_⟩)
      have zw17 := u8.size
      refine Z.oSa 6 #[Z.n q2.fk, Z.n q2.fa] (((((((b2.ext x3).upd1 x4).upd1 x5).ext x6).upd1 u3).ext x9).upd1 u8) (fun w18 u9 b16 => ⟨(((((b7.ext x6).upd1 u3).ext x9).upd1 u8).upd1 u9), ?_⟩)
      have zw18 := u9.size
      refine Z.q ?_
      refine Z.x (wp_ret (Gx.then_ret (Gx.ret (Gx.res_cc (u := .agg #[.int .i64 0, .int .i64 0, .string Z.E, .int .i64 0, .slice none 0 0]) (v := .agg #[Z.n q2.fk, Z.n q2.fa]) rfl (by kernel_rfl) (b15.upd1 u9) (by kernel_rfl) (by kernel_rfl) b16 (by kernel_rfl)) ?_)))
      exact hK _ nd0 none 0 q2.fk q2.fa (by first | (unfold parseP; rw [if_neg (show ¬ s.size > 3000 by omega)]; simp only [lastR, e1, e2, h_c8, h_g20, h_c27, h_c32, n_c27, n_c32, Z.ifs, reduceIte]; done) | exact absurd (h_g20.symm.trans n_c32) (by decide)) (((((((((((Gx.Ext.refl w).trans x1).trans x2).trans x3).upd1 x4).upd1 x5).trans x6).upd1 u3).trans x9).upd1 u8).upd1 u9) KV.nil
    refine wp_skip (Z.x (Z.r [0, 1, 2, 3] ?_))
    refine Z.L 0 (.agg #[Z.n t1.k, Z.n t1.a, .string t1.nm, .int .i64 t1.n, .slice A1 t1.ks.length c1]) b9 ?_
    refine Z.p [1] [2, 3] [(39, .agg #[.int .i64 0, .int .i64 0])] ?_
    have n_c32 : okB q2 = true := by simpa using h_c32
    refine Z.Sa #[Z.n t1.k, Z.n t1.a, .string t1.nm, .int .i64 t1.n, .slice A1 t1.ks.length c1] ((((((b1.ext x2).ext x3).upd1 x4).upd1 x5).ext x6).upd1 u3) (fun w19 u10 b17 zw19 => ?_)
    refine Z.Sa #[.int .i64 0, .int .i64 0] ((((((b2.ext x3).upd1 x4).upd1 x5).ext x6).upd1 u3).upd1 u10) (fun w20 u11 b18 zw20 => ?_)
    refine Z.e (wp_ret (Gx.ret (Gx.res_cc (u := .agg #[Z.n t1.k, Z.n t1.a, .string t1.nm, .int .i64 t1.n, .slice A1 t1.ks.length c1]) (v := .agg #[.int .i64 0, .int .i64 0]) rfl (by kernel_rfl) (b17.upd1 u11) (by kernel_rfl) (by kernel_rfl) b18 (by kernel_rfl)) ?_))
    exact hK _ t1 A1 c1 0 0 (by first | (unfold parseP; rw [if_neg (show ¬ s.size > 3000 by omega)]; simp only [lastR, e1, e2, h_c8, h_g20, h_c27, h_c32, n_c27, n_c32, Z.ifs, reduceIte]; done) | exact absurd (h_g20.symm.trans n_c32) (by decide)) ((((((((((Gx.Ext.refl w).trans x1).trans x2).trans x3).upd1 x4).upd1 x5).trans x6).upd1 u3).upd1 u10).upd1 u11) (KV.top ((((kv1.ext x6).upd u3).upd u10).upd u11))
  rw [h_g20]
  refine Z.p [3, 4, 5, 6, 7, 8, 9] [] [(27, .bool false), (26, undef), (25, undef), (24, undef), (23, undef), (22, undef), (21, undef)] ?_
  refine Z.e (Z.cf ?_)
  refine wp_skip (Z.x (wp_seq (Z.r [0, 1, 2] ?_)))
  refine Z.p [0] [1, 2] [(30, Z.P b 0)] ?_
  refine Z.k (fun R hR => ok_c b s q2 _ R ((b7.ext x6).upd1 u3) (hR _ _ ?_))
  refine Z.p [2] [] [(32, .bool (!(okB q2)))] ?_
  refine Z.e (Z.c (!(okB q2)) (fun h_c32 => ?_) (fun h_c32 => ?_))
  · skip
    refine wp_seq (Z.D (fun w' => Gx.Has w' b (.cells #[.string s, Z.n q2.k, Z.n q2.a, .string q2.t, Z.n q2.n, Z.n q2.e, Z.n q2.fk, Z.n q2.fa, Z.n q2.x, Z.n q2.y] 41)) (fun w21 x10 zw21 => ?_))
    have n_c32 : okB q2 = false := by simpa using h_c32
    refine Z.h (((b7.ext x6).upd1 u3).ext x10) (fun hS3 => ?_)
    refine Z.t 0 (.agg #[.int .i64 0, .int .i64 0, .string Z.E, .int .i64 0, .slice none 0 0]) hS3 ?_
    refine Z.t 1 (Z.P b 0) hS3 ?_
    refine Z.t 2 (Z.P b 0) hS3 ?_
    refine Z.t 3 (Z.P b 6) hS3 ?_
    refine Z.tl 4 6 (.agg #[Z.n q2.fk, Z.n q2.fa]) (fun _ hs => hs) hS3 ?_
    refine Z.oSa 5 #[.int .i64 0, .int .i64 0, .string Z.E, .int .i64 0, .slice none 0 0] (((((((b1.ext x2).ext x3).upd1 x4).upd1 x5).ext x6).upd1 u3).ext x10) (fun w22 u12 b19 => ⟨((((b7.ext x6).upd1 u3).ext x10).upd1 u12), ?_⟩)
    have zw22 := u12.size
    refine Z.oSa 6 #[Z.n q2.fk, Z.n q2.fa] (((((((b2.ext x3).upd1 x4).upd1 x5).ext x6).upd1 u3).ext x10).upd1 u12) (fun w23 u13 b20 => ⟨(((((b7.ext x6).upd1 u3).ext x10).upd1 u12).upd1 u13), ?_⟩)
    have zw23 := u13.size
    refine Z.q ?_
    refine Z.x (wp_ret (Gx.then_ret (Gx.ret (Gx.res_cc (u := .agg #[.int .i64 0, .int .i64 0, .string Z.E, .int .i64 0, .slice none 0 0]) (v := .agg #[Z.n q2.fk, Z.n q2.fa]) rfl (by kernel_rfl) (b19.upd1 u13) (by kernel_rfl) (by kernel_rfl) b20 (by kernel_rfl)) ?_)))
    exact hK _ nd0 none 0 q2.fk q2.fa (by first | (unfold parseP; rw [if_neg (show ¬ s.size > 3000 by omega)]; simp only [lastR, e1, e2, h_c8, h_g20, h_c32, n_c32, Z.ifs, reduceIte]; done) | exact absurd (h_g20.symm.trans n_c32) (by decide)) (((((((((((Gx.Ext.refl w).trans x1).trans x2).trans x3).upd1 x4).upd1 x5).trans x6).upd1 u3).trans x10).upd1 u12).upd1 u13) KV.nil
  refine wp_skip (Z.x (Z.r [0, 1, 2, 3] ?_))
  refine Z.L 0 (.agg #[Z.n t1.k, Z.n t1.a, .string t1.nm, .int .i64 t1.n, .slice A1 t1.ks.length c1]) b9 ?_
  refine Z.p [1] [2, 3] [(39, .agg #[.int .i64 0, .int .i64 0])] ?_
  have n_c32 : okB q2 = true := by simpa using h_c32
  refine Z.Sa #[Z.n t1.k, Z.n t1.a, .string t1.nm, .int .i64 t1.n, .slice A1 t1.ks.length c1] ((((((b1.ext x2).ext x3).upd1 x4).upd1 x5).ext x6).upd1 u3) (fun w24 u14 b21 zw24 => ?_)
  refine Z.Sa #[.int .i64 0, .int .i64 0] ((((((b2.ext x3).upd1 x4).upd1 x5).ext x6).upd1 u3).upd1 u14) (fun w25 u15 b22 zw25 => ?_)
  refine Z.e (wp_ret (Gx.ret (Gx.res_cc (u := .agg #[Z.n t1.k, Z.n t1.a, .string t1.nm, .int .i64 t1.n, .slice A1 t1.ks.length c1]) (v := .agg #[.int .i64 0, .int .i64 0]) rfl (by kernel_rfl) (b21.upd1 u15) (by kernel_rfl) (by kernel_rfl) b22 (by kernel_rfl)) ?_))
  exact hK _ t1 A1 c1 0 0 (by first | (unfold parseP; rw [if_neg (show ¬ s.size > 3000 by omega)]; simp only [lastR, e1, e2, h_c8, h_g20, h_c32, n_c32, Z.ifs, reduceIte]; done) | exact absurd (h_g20.symm.trans n_c32) (by decide)) ((((((((((Gx.Ext.refl w).trans x1).trans x2).trans x3).upd1 x4).upd1 x5).trans x6).upd1 u3).upd1 u14).upd1 u15) (KV.top ((((kv1.ext x6).upd u3).upd u14).upd u15))
end Doc
end Go.Proofs.Ytinilkomfggjiaa
