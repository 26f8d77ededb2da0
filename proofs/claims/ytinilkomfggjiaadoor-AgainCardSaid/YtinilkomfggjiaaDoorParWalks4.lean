/- The walks, written by a program of ours (wip/gx/gx.py, parsegen.py). -/
import Derived.Test.YtinilkomfggjiaaDoorRows
import Derived.Test.YtinilkomfggjiaaDoorGs
import Derived.Test.YtinilkomfggjiaaDoorGp
import Derived.Test.YtinilkomfggjiaaDoorZs
import Derived.Test.YtinilkomfggjiaaDoorLexWalks4
import Derived.Test.YtinilkomfggjiaaDoorParWalks3
set_option linter.unusedVariables false
set_option linter.unusedSimpArgs false
set_option maxHeartbeats 4000000
set_option maxRecDepth 20000
namespace Go.Proofs.YtinilkomfggjiaaDoor
namespace Par
open Go.RowKit Go.Lex Go.Syn
attribute [local irreducible] Go.wpOps Go.Code.wp Go.wpOp Go.wpAnyH Go.Calls
theorem params_p (k : Nat) (b : Nat) (S : ByteArray) (q : Rs) (sign : ByteArray) (w : World) (K : Ending → World → Prop) (ih : ∀ j, j ≤ k → SpecP j) (hb : Gx.Has w b (rdP S q)) (hok : Ok S q) (f0 : q.fk = 0) (hmu : 16 * M S q + 12 ≤ k + 1) (hP : (PQ w b K ((run S (k + 1) (.params sign true) q).2))) (hK : ∀ w' t A c q', run S (k + 1) (.params sign true) q = (t, q') → q'.fk = 0 → Gx.G w w' (some b) → Gx.Has w' b (rdP S q') → KV (In w.heap.size w'.heap.size []) w' t.ks A c → K (.returned (.agg (Z.T t A c))) w') :
    Calls Tryd.prog 50 #[Z.P b 0, .string sign] w K := by
  refine Z.en 29 Tryd.func50 ?_
  have tbb := hb.lt
  have kbq := (okB_iff q).2 f0
  refine Z.r [0] ?_
  refine Z.N Z.c0 (fun k1 w1 l1 x1 b1 zw1 tb1 => ?_)
  refine Z.e (Z.r [0, 1, 2, 3] ?_)
  refine Z.p [0] [1, 2, 3] [(6, Z.P b 0)] ?_
  have y1 := gb_ext (gb_refl w b) x1
  refine Z.kP (fun R hR hE => named_p b S q (7 : Int) _ R (hb.ext x1) hok f0 (fun w2 q1 e1 f1 x2 => hE _ _ (And.intro rfl (hP _ q1 (by rw [run_succ]; simp only [stepN, paramsS, paramS, maps, kbq, Z.ifs, reduceIte, e1, idl f1]) f1 (gb_upd y1 x2)))) (fun w2 q1 e1 f1 x2 b2 => hR _ _ ?_))
  have zw2 := x2.size
  have tb2 := b2.lt
  have kbq1 := (okB_iff q1).2 f1
  obtain ⟨ok1, ok1m, ok1x, ok1y⟩ : Tr S q q1 := by have := name_tr hok; rw [e1] at this; exact this
  have ok1l : M S q1 < M S q := by have := name_lt hok (by rw [e1]; exact kbq1); rw [e1] at this; exact this
  refine Z.N Z.c0 (fun k2 w3 l2 x3 b3 zw3 tb3 => ?_)
  refine Z.Sa #[.int .i64 7, Z.n q.a, .string q.t, .int .i64 0, .slice none 0 0] b3 (fun w4 u1 b4 zw4 => ?_)
  refine Z.e (wp_seq (Z.r [0, 1, 2, 3, 4, 5] ?_))
  refine Z.p [0, 1, 2, 3] [4, 5] [(11, Z.P b 1), (10, Z.P b 1), (9, Z.P b 0), (8, Z.P b 0)] ?_
  refine Z.L 1 (Z.n q1.k) ((b2.ext x3).upd1 u1) ?_
  refine Z.p [5] [] [(13, .bool (((q1.k : Nat) : Int) == (2 : Int)))] ?_
  refine Z.e (Z.c (((q1.k : Nat) : Int) == (2 : Int)) (fun h_c13 => ?_) (fun h_c13 => ?_))
  · skip
    have p_c13 := Gx.k1 h_c13
    have nb1 : isNameB q1 = true := by simp only [isNameB, (okB_iff q1).2 f1, Bool.true_and]; simpa using h_c13
    obtain ⟨kk, hkk⟩ : ∃ kk, k = kk + 1 := ⟨k - 1, by omega⟩
    have hpn : run S k (.params sign false) q1 = run S k (.params sign true) q1 := by rw [hkk]; exact par_nm nb1
    refine wp_seq (Z.D (fun w' => Gx.Has w' k2 (.cells #[.int .i64 7, Z.n q.a, .string q.t, .int .i64 0, .slice none 0 0] 24)) (fun w5 x4 zw5 => ?_))
    refine Z.h (b4.ext x4) (fun hS1 => ?_)
    refine Z.tl 0 0 (.agg #[.int .i64 7, Z.n q.a, .string q.t, .int .i64 0, .slice none 0 0]) (fun _ hs => hs) hS1 ?_
    refine Z.t 1 (Z.P b 0) hS1 ?_
    refine Z.t 2 (.string sign) hS1 ?_
    have y2 := gb_ext (gb_new (gb_ext (gb_upd y1 x2) x3) u1) x4
    refine Z.oP 3 (fun R hR hE => (ih k (Nat.le_refl k)).f_params b S q1 sign _ R (((b2.ext x3).upd1 u1).ext x4) ok1 f1 (by omega) (fun w6 q2 e2 f2 x5 => hE _ _ (And.intro rfl (hP _ q2 (by rw [run_succ]; simp only [stepN, paramsS, paramS, maps, kbq, e1, kbq1, nb1, hpn, h_c13, Z.ifs, reduceIte, e2, idl f2]) f2 (gb_upd y2 x5)))) (fun w6 t1 A1 c1 q2 e2 f2 x5 b5 kv1 => hR _ _ ⟨((b4.ext x4).upd1 x5), ?_⟩))
    have zw6 := x5.size
    have tb5 := b5.lt
    have kbq2 := (okB_iff q2).2 f2
    obtain ⟨ok2, ok2m, ok2x, ok2y⟩ : Tr S q1 q2 := run_facts ok1 e2
    refine Z.oR 4 (.cells (Z.T t1 A1 c1) 24) 1 1 (fun k3 w7 l3 x6 b6 => ⟨(((b4.ext x4).upd1 x5).ext x6), ?_⟩)
    have zw7 := x6.size
    have tb6 := b6.lt
    have ow1 : w7.ownsRow w5.heap.size 24 5 (.slice none 0 0) Z.nl.length (flat Z.nl) := ⟨by simp [flat], .inl ⟨rfl, rfl⟩⟩
    have y3 := ((b4.ext x4).upd1 x5).ext x6
    refine Z.o 5 (fun R hR => with_p w5.heap.size k3 1 Z.nl [(t1, A1, c1)] none 0 (Z.T t1 A1 c1) (7 : Int) ((q.a : Nat) : Int) (0 : Int) q.t _ R ow1 b6 rfl (by simp only [List.length_append, List.length_cons, List.length_nil]; omega) (by omega) (fun A2 c2 w8 nk1 ow2 nl1 hnk1 g1 => hR _ _ ⟨(y3.upd g1 (fun e => by cases e)), fun hS2 => ?_⟩))
    have zw8 := g1.size
    have hb1 : ∀ j, ((.slice A2 (Z.nl ++ [(t1, A1, c1)]).length c2 : Value) : Value).ownBlock = some j → (j = nk1 ∧ j < w8.heap.size) := fun j e => by have l := (ow2).lt j e; rcases nl1 with q | q; (rw [q] at e; cases e); (rw [q] at e; cases e; omega)
    have hkx1 : Z.ks (InV w5.heap.size w8.heap.size [k1, k2] (.slice A2 (Z.nl ++ [(t1, A1, c1)]).length c2 : Value)) w8 (Z.nl ++ [(t1, A1, c1)]) := Z.m0 (KV.topV (KV.ofIn ((kv1.ext x6).app g1 (fun j e => by cases e)) (fun j e => by have z := hb1 j e; first | (left; omega) | (right; omega) | omega)))
    refine Z.oSa 6 #[.int .i64 7, Z.n q.a, .string q.t, .int .i64 0, (.slice A2 (Z.nl ++ [(t1, A1, c1)]).length c2 : Value)] (((((((b1.upd1 x2).ext x3).upd1 u1).ext x4).upd1 x5).ext x6).upd g1 (fun e => by cases e)) (fun w9 u2 b7 => ⟨((y3.upd g1 (fun e => by cases e)).upd1 u2), ?_⟩)
    have zw9 := u2.size
    refine Z.q ?_
    refine Z.x (wp_ret (Gx.then_ret (Gx.ret (Gx.res_c (u := .agg #[.int .i64 7, Z.n q.a, .string q.t, .int .i64 0, (.slice A2 (Z.nl ++ [(t1, A1, c1)]).length c2 : Value)]) rfl (by kernel_rfl) b7 (by kernel_rfl)) ?_)))
    have y4 := Gx.own_upd1 ow2 u2 (fun q e => by have z := hb1 q e; omega)
    obtain ⟨A3, c3, hvkv2, kv2⟩ := KV.of_own (Q := In w5.heap.size w9.heap.size [k1, k2]) (Z.nl ++ [(t1, A1, c1)]) y4 (fun j e => by have := (y4).lt j e; exact ⟨by omega, by omega, (by have z := hb1 j e; simp only [List.mem_cons, List.not_mem_nil, or_false, not_or]; omega)⟩) (fun p' h0 => (KV.topV ((hkx1 p' h0).updV u2)).noV)
    rw [nds_len] at hvkv2; cases hvkv2
    exact hK _ (Nd.mk 7 q.a q.t (0 : Int) (nds (Z.nl ++ [(t1, A1, c1)]))) A2 c2 q2 (by rw [run_succ]; simp only [stepN, paramsS, paramS, maps, kbq, e1, kbq1, nb1, hpn, e2, kbq2, h_c13, Z.ifs, reduceIte]) f2 (gb_new (gb_app (gb_ext (gb_upd y2 x5) x6) g1 (fun j e => by have := (ow1).lt j e; omega)) u2) (((b5.ext x6).upd g1 (fun e => by cases e)).upd1 u2) (KV.top kv2)
  refine wp_skip (Z.x ?_)
  have p_c13 := Gx.k0 h_c13
  have nb2 : isNameB q1 = false := by simp only [isNameB, (okB_iff q1).2 f1, Bool.true_and]; simpa using h_c13
  obtain ⟨kk, hkk⟩ : ∃ kk, k = kk + 1 := ⟨k - 1, by omega⟩
  have hpn : run S k (.params sign false) q1 = run S kk .expr (mustR S q1 sign) := by rw [hkk]; exact par_no nb2
  refine Z.r [0, 1, 2, 3] ?_
  refine Z.p [0, 1] [2, 3] [(21, .string sign), (20, Z.P b 0)] ?_
  refine Z.R (.cells #[.string sign] 9) 1 1 (fun k4 w10 l4 x7 b8 zw10 tb8 => ?_)
  have y5 := gb_ext (gb_new (gb_ext (gb_upd y1 x2) x3) u1) x7
  have y6 := Z.a kbq (Z.a e1 (Z.a kbq1 (Z.a nb2 hpn)))
  refine Z.kP (fun R hR hE => need_p b S q1 [sign] k4 1 _ R (((b2.ext x3).upd1 u1).ext x7) ok1 f1 b8 (by omega) (Nat.le_of_ble_eq_true rfl) (fun w11 q3 e3 f3 x8 => hE _ _ (And.intro rfl (hP _ q3 (by rw [run_succ]; simp only [stepN, paramsS, paramS, maps, y6, h_c13, Z.ifs, reduceIte, (show mustR S q1 sign = q3 from e3), idl f3]) f3 (gb_upd y5 x8)))) (fun w11 q3 e3 f3 x8 b9 => hR _ _ ?_))
  have zw11 := x8.size
  have tb9 := b9.lt
  obtain ⟨ok3, ok3m, ok3x, ok3y⟩ : Tr S q1 q3 := e3 ▸ musts_tr _ ok1
  have e3 : mustR S q1 sign = q3 := e3
  have kbq3 := (okB_iff q3).2 f3
  refine Z.e (wp_seq (Z.D (fun w' => Gx.Has w' k2 (.cells #[.int .i64 7, Z.n q.a, .string q.t, .int .i64 0, .slice none 0 0] 24)) (fun w12 x9 zw12 => ?_)))
  have y7 := ((b4.ext x7).upd1 x8).ext x9
  refine Z.h y7 (fun hS3 => ?_)
  refine Z.tl 0 0 (.agg #[.int .i64 7, Z.n q.a, .string q.t, .int .i64 0, .slice none 0 0]) (fun _ hs => hs) hS3 ?_
  refine Z.t 1 (Z.P b 0) hS3 ?_
  have y8 := gb_ext (gb_upd y5 x8) x9
  refine Z.oP 2 (fun R hR hE => (ih kk (by omega)).f_expr b S q3 _ R (b9.ext x9) ok3 f3 (by omega) (fun w13 q4 e4 f4 x10 => hE _ _ (And.intro rfl (hP _ q4 (by rw [run_succ]; simp only [stepN, paramsS, paramS, maps, y6, e3, kbq3, h_c13, Z.ifs, reduceIte, e4, idl f4]) f4 (gb_upd y8 x10)))) (fun w13 t2 A4 c4 q4 e4 f4 x10 b10 kv3 => hR _ _ ⟨(y7.upd1 x10), ?_⟩))
  have zw13 := x10.size
  have tb10 := b10.lt
  have kbq4 := (okB_iff q4).2 f4
  obtain ⟨ok4, ok4m, ok4x, ok4y⟩ : Tr S q3 q4 := run_facts ok3 e4
  refine Z.oR 3 (.cells (Z.T t2 A4 c4) 24) 1 1 (fun k5 w14 l5 x11 b11 => ⟨((y7.upd1 x10).ext x11), ?_⟩)
  have zw14 := x11.size
  have tb11 := b11.lt
  have ow3 : w14.ownsRow w12.heap.size 24 5 (.slice none 0 0) Z.nl.length (flat Z.nl) := ⟨by simp [flat], .inl ⟨rfl, rfl⟩⟩
  refine Z.o 4 (fun R hR => with_p w12.heap.size k5 1 Z.nl [(t2, A4, c4)] none 0 (Z.T t2 A4 c4) (7 : Int) ((q.a : Nat) : Int) (0 : Int) q.t _ R ow3 b11 rfl (by simp only [List.length_append, List.length_cons, List.length_nil]; omega) (by omega) (fun A5 c5 w15 nk2 ow4 nl2 hnk2 g2 => hR _ _ ⟨(((y7.upd1 x10).ext x11).upd g2 (fun e => by cases e)), fun hS4 => ?_⟩))
  have zw15 := g2.size
  have hb2 : ∀ j, ((.slice A5 (Z.nl ++ [(t2, A4, c4)]).length c5 : Value) : Value).ownBlock = some j → (j = nk2 ∧ j < w15.heap.size) := fun j e => by have l := (ow4).lt j e; rcases nl2 with q | q; (rw [q] at e; cases e); (rw [q] at e; cases e; omega)
  have hkx2 : Z.ks (InV w12.heap.size w15.heap.size [k1, k2] (.slice A5 (Z.nl ++ [(t2, A4, c4)]).length c5 : Value)) w15 (Z.nl ++ [(t2, A4, c4)]) := Z.m0 (KV.topV (KV.ofIn ((kv3.ext x11).app g2 (fun j e => by cases e)) (fun j e => by have z := hb2 j e; first | (left; omega) | (right; omega) | omega)))
  refine Z.oSa 5 #[.int .i64 7, Z.n q.a, .string q.t, .int .i64 0, (.slice A5 (Z.nl ++ [(t2, A4, c4)]).length c5 : Value)] (((((((((b1.upd1 x2).ext x3).upd1 u1).ext x7).upd1 x8).ext x9).upd1 x10).ext x11).upd g2 (fun e => by cases e)) (fun w16 u3 b12 => ⟨((((y7.upd1 x10).ext x11).upd g2 (fun e => by cases e)).upd1 u3), ?_⟩)
  have zw16 := u3.size
  refine Z.q ?_
  refine Z.x (wp_ret (Gx.ret (Gx.res_c (u := .agg #[.int .i64 7, Z.n q.a, .string q.t, .int .i64 0, (.slice A5 (Z.nl ++ [(t2, A4, c4)]).length c5 : Value)]) rfl (by kernel_rfl) b12 (by kernel_rfl)) ?_))
  have y9 := Gx.own_upd1 ow4 u3 (fun q e => by have z := hb2 q e; omega)
  obtain ⟨A6, c6, hvkv4, kv4⟩ := KV.of_own (Q := In w12.heap.size w16.heap.size [k1, k2]) (Z.nl ++ [(t2, A4, c4)]) y9 (fun j e => by have := (y9).lt j e; exact ⟨by omega, by omega, (by have z := hb2 j e; simp only [List.mem_cons, List.not_mem_nil, or_false, not_or]; omega)⟩) (fun p' h0 => (KV.topV ((hkx2 p' h0).updV u3)).noV)
  rw [nds_len] at hvkv4; cases hvkv4
  exact hK _ (Nd.mk 7 q.a q.t (0 : Int) (nds (Z.nl ++ [(t2, A4, c4)]))) A5 c5 q4 (by rw [run_succ]; simp only [stepN, paramsS, paramS, maps, y6, e3, kbq3, e4, kbq4, h_c13, Z.ifs, reduceIte]) f4 (gb_new (gb_app (gb_ext (gb_upd y8 x10) x11) g2 (fun j e => by have := (ow3).lt j e; omega)) u3) (((b10.ext x11).upd g2 (fun e => by cases e)).upd1 u3) (KV.top kv4)
theorem letN_p (k : Nat) (b : Nat) (S : ByteArray) (q : Rs) (at_ : Nat) (w : World) (K : Ending → World → Prop) (ih : ∀ j, j ≤ k → SpecP j) (hb : Gx.Has w b (rdP S q)) (hok : Ok S q) (f0 : q.fk = 0) (hmu : 16 * M S q + 13 ≤ k + 1) (hP : (PQ w b K ((run S (k + 1) (.letN at_) q).2))) (hK : ∀ w' t A c q', run S (k + 1) (.letN at_) q = (t, q') → q'.fk = 0 → Gx.G w w' (some b) → Gx.Has w' b (rdP S q') → KV (In w.heap.size w'.heap.size []) w' t.ks A c → K (.returned (.agg (Z.T t A c))) w') :
    Calls Tryd.prog 98 #[Z.P b 0, Z.n at_] w K := by
  refine Z.en 45 Tryd.func98 ?_
  have tbb := hb.lt
  have kbq := (okB_iff q).2 f0
  refine Z.r [0] ?_
  refine Z.N Z.c0 (fun k1 w1 l1 x1 b1 zw1 tb1 => ?_)
  refine Z.e (Z.r [0, 1, 2] ?_)
  refine Z.p [0] [1, 2] [(7, Z.P b 0)] ?_
  have y1 := gb_ext (gb_refl w b) x1
  refine Z.kP (fun R hR hE => eat_p b S q Z.k19 _ R (hb.ext x1) hok f0 (fun w2 q1 e1 f1 x2 => hE _ _ (And.intro rfl (hP _ q1 (by rw [run_succ]; simp only [stepN, letS, letT, maps, kbq, Z.ifs, reduceIte, e1, has_pan e1 f1 f0, idl f1]) f1 (gb_upd y1 x2)))) (fun w2 q1 e1 f1 x2 b2 => hR _ _ ?_))
  have zw2 := x2.size
  have tb2 := b2.lt
  obtain ⟨ok1, ok1m, ok1x, ok1y⟩ : Tr S q q1 := e1 ▸ has_tr hok
  have kbq1 := (okB_iff q1).2 f1
  refine Z.p [2] [] [(5, .bool (isB q Z.k19))] ?_
  refine Z.e (Gx.splitC (isB q Z.k19) (fun h_gf6_1 => ?_) (fun h_gf6_1 => ?_))
  · rw [h_gf6_1]
    have lt1 := (Z.lt hok h_gf6_1 e1)
    refine Z.r [0, 1, 2, 3] ?_
    refine Z.p [0] [1, 2, 3] [(9, Z.P b 0)] ?_
    have y2 := Z.a kbq (Z.a e1 kbq1)
    refine Z.kP (fun R hR hE => named_p b S q1 (9 : Int) _ R b2 ok1 f1 (fun w3 q2 e2 f2 x3 => hE _ _ (And.intro rfl (hP _ q2 (by rw [run_succ]; simp only [stepN, letS, letT, maps, y2, h_gf6_1, Z.ifs, reduceIte, e2, idl f2]) f2 (gb_upd (gb_upd y1 x2) x3)))) (fun w3 q2 e2 f2 x3 b3 => hR _ _ ?_))
    have zw3 := x3.size
    have tb3 := b3.lt
    have kbq2 := (okB_iff q2).2 f2
    obtain ⟨ok2, ok2m, ok2x, ok2y⟩ : Tr S q1 q2 := by have := name_tr ok1; rw [e2] at this; exact this
    have ok2l : M S q2 < M S q1 := by have := name_lt ok1 (by rw [e2]; exact kbq2); rw [e2] at this; exact this
    refine Z.N Z.c0 (fun k2 w4 l2 x4 b4 zw4 tb4 => ?_)
    refine Z.Sa #[.int .i64 9, Z.n q1.a, .string q1.t, .int .i64 0, .slice none 0 0] b4 (fun w5 u1 b5 zw5 => ?_)
    refine Z.e (Z.r [0, 1, 2] ?_)
    refine Z.p [0, 1] [2] [(12, Z.P k2 1), (11, Z.n at_)] ?_
    refine Z.S 1 (Z.n at_) b5 #[.int .i64 9, Z.n at_, .string q1.t, .int .i64 0, .slice none 0 0] (fun w6 u2 b6 zw6 => ?_)
    refine Z.e (wp_seq (Z.st [(13, .bool true)] ?_))
    refine Z.g [0, 1] ?_
    refine Z.p [0] [1] [(14, Z.P k2 3)] ?_
    refine Z.S 3 (.int .i64 1) b6 #[.int .i64 9, Z.n at_, .string q1.t, .int .i64 1, .slice none 0 0] (fun w7 u3 b7 zw7 => ?_)
    refine Gx.ops_nil (Z.x (wp_seq (Z.st [(23, .bool true), (22, undef), (21, undef), (20, undef), (19, undef), (18, undef), (17, undef), (16, .bool true), (15, .bool true)] ?_)))
    refine Gx.drawE (S := fun w' => Gx.Has w' k2 (.cells #[.int .i64 9, Z.n at_, .string q1.t, .int .i64 1, .slice none 0 0] 24)) [5] (by kernel_rfl) (fun w8 x5 => ?_)
    have zw8 := x5.size
    refine Z.es 0 [4, 5] 0 (.agg #[.int .i64 9, Z.n at_, .string q1.t, .int .i64 1, .slice none 0 0]) (fun _ hs => hs) (b7.ext x5) ?_
    refine Z.et 1 (Z.P b 0) (fun _ => (b7.ext x5)) ?_
    have y3 := gb_ext (gb_new (gb_new (gb_new (gb_ext (gb_upd (gb_upd y1 x2) x3) x4) u1) u2) u3) x5
    refine Z.eP 2 (fun R hR hE => (ih k (Nat.le_refl k)).f_params b S q2 Z.k7 _ R (((((b3.ext x4).upd1 u1).upd1 u2).upd1 u3).ext x5) ok2 f2 (by omega) (fun w9 q3 e3 f3 x6 => hE _ _ (And.intro rfl (hP _ q3 (by rw [run_succ]; simp only [stepN, letS, letT, maps, y2, e2, kbq2, h_gf6_1, Z.ifs, reduceIte, e3, idl f3]) f3 (gb_upd y3 x6)))) (fun w9 t1 A1 c1 q3 e3 f3 x6 b8 kv1 => hR _ _ ⟨(fun _ => ((b7.ext x5).upd1 x6)), ?_⟩))
    have zw9 := x6.size
    have tb8 := b8.lt
    have kbq3 := (okB_iff q3).2 f3
    obtain ⟨ok3, ok3m, ok3x, ok3y⟩ : Tr S q2 q3 := run_facts ok2 e3
    refine Z.eR 3 (.cells (Z.T t1 A1 c1) 24) 1 1 (fun k3 w10 l3 x7 b9 => ⟨(fun _ => (((b7.ext x5).upd1 x6).ext x7)), ?_⟩)
    have zw10 := x7.size
    have tb9 := b9.lt
    have ow1 : w10.ownsRow w8.heap.size 24 5 (.slice none 0 0) Z.nl.length (flat Z.nl) := ⟨by simp [flat], .inl ⟨rfl, rfl⟩⟩
    have y4 := ((b7.ext x5).upd1 x6).ext x7
    refine Z.eK 4 (fun R hR => with_p w8.heap.size k3 1 Z.nl [(t1, A1, c1)] none 0 (Z.T t1 A1 c1) (9 : Int) ((at_ : Nat) : Int) (1 : Int) q1.t _ R ow1 b9 rfl (by simp only [List.length_append, List.length_cons, List.length_nil]; omega) (by omega) (fun A2 c2 w11 nk1 ow2 nl1 hnk1 g1 => hR _ _ ⟨(fun _ => (y4.upd g1 (fun e => by cases e))), ?_⟩))
    have zw11 := g1.size
    have hb1 : ∀ j, ((.slice A2 (Z.nl ++ [(t1, A1, c1)]).length c2 : Value) : Value).ownBlock = some j → (j = nk1 ∧ j < w11.heap.size) := fun j e => by have l := (ow2).lt j e; rcases nl1 with q | q; (rw [q] at e; cases e); (rw [q] at e; cases e; omega)
    have hkx1 : Z.ks (InV w8.heap.size w11.heap.size [k1, k2] (.slice A2 (Z.nl ++ [(t1, A1, c1)]).length c2 : Value)) w11 (Z.nl ++ [(t1, A1, c1)]) := Z.m0 (KV.topV (KV.ofIn ((kv1.ext x7).app g1 (fun j e => by cases e)) (fun j e => by have z := hb1 j e; first | (left; omega) | (right; omega) | omega)))
    refine Z.eSa 5 #[.int .i64 9, Z.n at_, .string q1.t, .int .i64 1, (.slice A2 (Z.nl ++ [(t1, A1, c1)]).length c2 : Value)] (y4.upd g1 (fun e => by cases e)) (fun w12 u4 b10 => ⟨(Gx.not_clear (by kernel_rfl)), ?_⟩)
    have zw12 := u4.size
    refine Gx.anyE_done (by kernel_rfl) ?_ _
    refine Z.x (Z.r [0, 1, 2] ?_)
    refine Z.p [0] [1, 2] [(37, Z.P b 0)] ?_
    refine Z.R (.cells #[.string Z.k21] 9) 1 1 (fun k4 w13 l4 x8 b11 zw13 tb11 => ?_)
    have y5 := gb_ext (gb_new (gb_app (gb_ext (gb_upd y3 x6) x7) g1 (fun j e => by have := (ow1).lt j e; omega)) u4) x8
    refine Z.kP (fun R hR hE => need_p b S q3 [Z.k21] k4 1 _ R ((((b8.ext x7).upd g1 (fun e => by cases e)).upd1 u4).ext x8) ok3 f3 b11 (by omega) (Nat.le_of_ble_eq_true rfl) (fun w14 q4 e4 f4 x9 => hE _ _ (And.intro rfl (hP _ q4 (by rw [run_succ]; simp only [stepN, letS, letT, maps, y2, e2, kbq2, e3, kbq3, h_gf6_1, Z.ifs, reduceIte, (show mustR S q3 Z.k21 = q4 from e4), idl f4]) f4 (gb_upd y5 x9)))) (fun w14 q4 e4 f4 x9 b12 => hR _ _ ?_))
    have zw14 := x9.size
    have tb12 := b12.lt
    obtain ⟨ok4, ok4m, ok4x, ok4y⟩ : Tr S q3 q4 := e4 ▸ musts_tr _ ok3
    have e4 : mustR S q3 Z.k21 = q4 := e4
    have kbq4 := (okB_iff q4).2 f4
    refine Z.e (wp_seq (Z.D (fun w' => Gx.Has w' k2 (.cells #[.int .i64 9, Z.n at_, .string q1.t, .int .i64 1, (.slice A2 (Z.nl ++ [(t1, A1, c1)]).length c2 : Value)] 24)) (fun w15 x10 zw15 => ?_)))
    have y6 := ((b10.ext x8).upd1 x9).ext x10
    refine Z.h y6 (fun hS1 => ?_)
    refine Z.tl 0 0 (.agg #[.int .i64 9, Z.n at_, .string q1.t, .int .i64 1, (.slice A2 (Z.nl ++ [(t1, A1, c1)]).length c2 : Value)]) (fun _ hs => hs) hS1 ?_
    refine Z.t 1 (Z.P b 0) hS1 ?_
    have y7 := gb_ext (gb_upd y5 x9) x10
    refine Z.oP 2 (fun R hR hE => (ih k (Nat.le_refl k)).f_expr b S q4 _ R (b12.ext x10) ok4 f4 (by omega) (fun w16 q5 e5 f5 x11 => hE _ _ (And.intro rfl (hP _ q5 (by rw [run_succ]; simp only [stepN, letS, letT, maps, y2, e2, kbq2, e3, kbq3, e4, kbq4, h_gf6_1, Z.ifs, reduceIte, e5, idl f5]) f5 (gb_upd y7 x11)))) (fun w16 t2 A3 c3 q5 e5 f5 x11 b13 kv2 => hR _ _ ⟨(y6.upd1 x11), ?_⟩))
    have zw16 := x11.size
    have tb13 := b13.lt
    have kbq5 := (okB_iff q5).2 f5
    obtain ⟨ok5, ok5m, ok5x, ok5y⟩ : Tr S q4 q5 := run_facts ok4 e5
    refine Z.oR 3 (.cells (Z.T t2 A3 c3) 24) 1 1 (fun k5 w17 l5 x12 b14 => ⟨((y6.upd1 x11).ext x12), ?_⟩)
    have zw17 := x12.size
    have tb14 := b14.lt
    have y8 := Gx.own_ext (Gx.own_upd1 (Gx.own_ext (Gx.own_upd1 (Gx.own_ext (Gx.own_upd1 ow2 u4 (fun q e => by have z := hb1 q e; omega)) x8) x9 (fun q e => by have z := hb1 q e; omega)) x10) x11 (fun q e => by have z := hb1 q e; omega)) x12
    refine Z.o 4 (fun R hR => with_p w8.heap.size k5 1 (Z.nl ++ [(t1, A1, c1)]) [(t2, A3, c3)] A2 c2 (Z.T t2 A3 c3) (9 : Int) ((at_ : Nat) : Int) (1 : Int) q1.t _ R y8 b14 rfl (by simp only [List.length_append, List.length_cons, List.length_nil]; omega) (by omega) (fun A4 c4 w18 nk2 ow3 nl2 hnk2 g2 => hR _ _ ⟨(((y6.upd1 x11).ext x12).upd g2 (fun e => by have := hb1 _ e.symm; omega)), fun hS2 => ?_⟩))
    have zw18 := g2.size
    have hb2 : ∀ j, ((.slice A4 ((Z.nl ++ [(t1, A1, c1)]) ++ [(t2, A3, c3)]).length c4 : Value) : Value).ownBlock = some j → (j = nk1 ∧ j < w11.heap.size) ∨ (j = nk2 ∧ j < w18.heap.size) := fun j e => by have l := (ow3).lt j e; rcases nl2 with q | q; (rw [q] at e; have z := hb1 j e; omega); (rw [q] at e; cases e; omega)
    have hkx2 : Z.ks (InV w8.heap.size w18.heap.size [k1, k2] (.slice A4 ((Z.nl ++ [(t1, A1, c1)]) ++ [(t2, A3, c3)]).length c4 : Value)) w18 ((Z.nl ++ [(t1, A1, c1)]) ++ [(t2, A3, c3)]) := Z.m1 (Q' := fun _ => True) (w' := w18) (fun p' h0 => (KV.topV ((((((((((hkx1 p' h0).updV u4).extV x8).updV x9).extV x10).updV x11).extV x12)).appV g2).toV nl2 (by omega)))) (KV.topV (KV.ofIn ((kv2.ext x12).app g2 (fun j e => by have z := hb1 j e; first | (left; omega) | (right; left; omega) | omega)) (fun j e => by have z := hb2 j e; first | (left; omega) | (right; omega) | omega)))
    refine Z.oSa 5 #[.int .i64 9, Z.n at_, .string q1.t, .int .i64 1, (.slice A4 ((Z.nl ++ [(t1, A1, c1)]) ++ [(t2, A3, c3)]).length c4 : Value)] (((((((((((((((((b1.upd1 x2).upd1 x3).ext x4).upd1 u1).upd1 u2).upd1 u3).ext x5).upd1 x6).ext x7).upd g1 (fun e => by cases e)).upd1 u4).ext x8).upd1 x9).ext x10).upd1 x11).ext x12).upd g2 (fun e => by have := hb1 _ e.symm; omega)) (fun w19 u5 b15 => ⟨((((y6.upd1 x11).ext x12).upd g2 (fun e => by have := hb1 _ e.symm; omega)).upd1 u5), ?_⟩)
    have zw19 := u5.size
    refine Z.q ?_
    refine Z.x (wp_ret (Gx.ret (Gx.res_c (u := .agg #[.int .i64 9, Z.n at_, .string q1.t, .int .i64 1, (.slice A4 ((Z.nl ++ [(t1, A1, c1)]) ++ [(t2, A3, c3)]).length c4 : Value)]) rfl (by kernel_rfl) b15 (by kernel_rfl)) ?_))
    have y9 := Gx.own_upd1 ow3 u5 (fun q e => by have z := hb2 q e; omega)
    obtain ⟨A5, c5, hvkv3, kv3⟩ := KV.of_own (Q := In w8.heap.size w19.heap.size [k1, k2]) ((Z.nl ++ [(t1, A1, c1)]) ++ [(t2, A3, c3)]) y9 (fun j e => by have := (y9).lt j e; exact ⟨by omega, by omega, (by have z := hb2 j e; simp only [List.mem_cons, List.not_mem_nil, or_false, not_or]; omega)⟩) (fun p' h0 => (KV.topV ((hkx2 p' h0).updV u5)).noV)
    rw [nds_len] at hvkv3; cases hvkv3
    exact hK _ (Nd.mk 9 at_ q1.t (1 : Int) (nds ((Z.nl ++ [(t1, A1, c1)]) ++ [(t2, A3, c3)]))) A4 c4 q5 (by rw [run_succ]; simp only [stepN, letS, letT, maps, y2, e2, kbq2, e3, kbq3, e4, kbq4, e5, kbq5, h_gf6_1, Z.ifs, reduceIte]) f5 (gb_new (gb_app (gb_ext (gb_upd y7 x11) x12) g2 (fun j e => by have := (y8).lt j e; omega)) u5) (((b13.ext x12).upd g2 (fun e => by have := hb1 _ e.symm; omega)).upd1 u5) (KV.top kv3)
  rw [h_gf6_1]
  refine Z.r [0, 1, 2, 3] ?_
  refine Z.p [0] [1, 2, 3] [(9, Z.P b 0)] ?_
  have y10 := Z.a kbq (Z.a e1 kbq1)
  refine Z.kP (fun R hR hE => named_p b S q1 (9 : Int) _ R b2 ok1 f1 (fun w20 q6 e6 f6 x13 => hE _ _ (And.intro rfl (hP _ q6 (by rw [run_succ]; simp only [stepN, letS, letT, maps, y10, h_gf6_1, Z.ifs, reduceIte, e6, idl f6]) f6 (gb_upd (gb_upd y1 x2) x13)))) (fun w20 q6 e6 f6 x13 b16 => hR _ _ ?_))
  have zw20 := x13.size
  have tb16 := b16.lt
  have kbq6 := (okB_iff q6).2 f6
  obtain ⟨ok6, ok6m, ok6x, ok6y⟩ : Tr S q1 q6 := by have := name_tr ok1; rw [e6] at this; exact this
  have ok6l : M S q6 < M S q1 := by have := name_lt ok1 (by rw [e6]; exact kbq6); rw [e6] at this; exact this
  refine Z.N Z.c0 (fun k6 w21 l6 x14 b17 zw21 tb17 => ?_)
  refine Z.Sa #[.int .i64 9, Z.n q1.a, .string q1.t, .int .i64 0, .slice none 0 0] b17 (fun w22 u6 b18 zw22 => ?_)
  refine Z.e (Z.r [0, 1, 2] ?_)
  refine Z.p [0, 1] [2] [(12, Z.P k6 1), (11, Z.n at_)] ?_
  refine Z.S 1 (Z.n at_) b18 #[.int .i64 9, Z.n at_, .string q1.t, .int .i64 0, .slice none 0 0] (fun w23 u7 b19 zw23 => ?_)
  refine Z.e (wp_seq (Z.sf [(13, .bool false)] ?_))
  refine wp_skip (Z.x (wp_seq (Z.r [0, 1, 2, 3, 4, 5, 6, 7, 8] ?_)))
  refine Z.p [0, 1, 2, 3, 4, 5] [6, 7, 8] [(20, Z.P b 1), (19, Z.P b 1), (18, Z.P b 0), (17, Z.P b 0), (16, .bool false), (15, .bool false)] ?_
  have y11 := ((b16.ext x14).upd1 u6).upd1 u7
  refine Z.L 1 (Z.n q6.k) y11 ?_
  refine Z.p [7, 8] [] [(23, .bool (((q6.k : Nat) : Int) == (2 : Int))), (22, .bool (((q6.k : Nat) : Int) == (2 : Int)))] ?_
  refine Z.e (Z.c (((q6.k : Nat) : Int) == (2 : Int)) (fun h_c23 => ?_) (fun h_c23 => ?_))
  · skip
    have p_c23 := Gx.k1 h_c23
    have nb1 : isNameB q6 = true := by simp only [isNameB, (okB_iff q6).2 f6, Bool.true_and]; simpa using h_c23
    obtain ⟨kk, hkk⟩ : ∃ kk, k = kk + 1 := ⟨k - 1, by omega⟩
    have hpn : run S k (.params Z.k7 false) q6 = run S k (.params Z.k7 true) q6 := by rw [hkk]; exact par_nm nb1
    refine Gx.drawE (S := fun w' => Gx.Has w' k6 (.cells #[.int .i64 9, Z.n at_, .string q1.t, .int .i64 0, .slice none 0 0] 24)) [5] (by kernel_rfl) (fun w24 x15 => ?_)
    have zw24 := x15.size
    refine Z.eh (b19.ext x15) (fun hS3 => ?_)
    refine Z.es 0 [4, 5] 0 (.agg #[.int .i64 9, Z.n at_, .string q1.t, .int .i64 0, .slice none 0 0]) (fun _ hs => hs) hS3 ?_
    refine Z.et 1 (Z.P b 0) (fun _ => hS3) ?_
    have y12 := gb_ext (gb_new (gb_new (gb_ext (gb_upd (gb_upd y1 x2) x13) x14) u6) u7) x15
    have y13 := Z.a y10 (Z.a e6 (Z.a kbq6 (Z.a nb1 hpn)))
    have y14 := Z.a h_gf6_1 h_c23
    refine Z.eP 2 (fun R hR hE => (ih k (Nat.le_refl k)).f_params b S q6 Z.k7 _ R (y11.ext x15) ok6 f6 (by omega) (fun w25 q7 e7 f7 x16 => hE _ _ (And.intro rfl (hP _ q7 (by rw [run_succ]; simp only [stepN, letS, letT, maps, y13, y14, Z.ifs, reduceIte, e7, idl f7]) f7 (gb_upd y12 x16)))) (fun w25 t3 A6 c6 q7 e7 f7 x16 b20 kv4 => hR _ _ ⟨(fun _ => ((b19.ext x15).upd1 x16)), ?_⟩))
    have zw25 := x16.size
    have tb20 := b20.lt
    have kbq7 := (okB_iff q7).2 f7
    obtain ⟨ok7, ok7m, ok7x, ok7y⟩ : Tr S q6 q7 := run_facts ok6 e7
    have y15 := (b19.ext x15).upd1 x16
    refine Z.eR 3 (.cells (Z.T t3 A6 c6) 24) 1 1 (fun k7 w26 l7 x17 b21 => ⟨(fun _ => (y15.ext x17)), ?_⟩)
    have zw26 := x17.size
    have tb21 := b21.lt
    have ow4 : w26.ownsRow w24.heap.size 24 5 (.slice none 0 0) Z.nl.length (flat Z.nl) := ⟨by simp [flat], .inl ⟨rfl, rfl⟩⟩
    refine Z.eK 4 (fun R hR => with_p w24.heap.size k7 1 Z.nl [(t3, A6, c6)] none 0 (Z.T t3 A6 c6) (9 : Int) ((at_ : Nat) : Int) (0 : Int) q1.t _ R ow4 b21 rfl (by simp only [List.length_append, List.length_cons, List.length_nil]; omega) (by omega) (fun A7 c7 w27 nk3 ow5 nl3 hnk3 g3 => hR _ _ ⟨(fun _ => ((y15.ext x17).upd g3 (fun e => by cases e))), ?_⟩))
    have zw27 := g3.size
    have hb3 : ∀ j, ((.slice A7 (Z.nl ++ [(t3, A6, c6)]).length c7 : Value) : Value).ownBlock = some j → (j = nk3 ∧ j < w27.heap.size) := fun j e => by have l := (ow5).lt j e; rcases nl3 with q | q; (rw [q] at e; cases e); (rw [q] at e; cases e; omega)
    have hkx3 : Z.ks (InV w24.heap.size w27.heap.size [k1, k6] (.slice A7 (Z.nl ++ [(t3, A6, c6)]).length c7 : Value)) w27 (Z.nl ++ [(t3, A6, c6)]) := Z.m0 (KV.topV (KV.ofIn ((kv4.ext x17).app g3 (fun j e => by cases e)) (fun j e => by have z := hb3 j e; first | (left; omega) | (right; omega) | omega)))
    refine Z.eSa 5 #[.int .i64 9, Z.n at_, .string q1.t, .int .i64 0, (.slice A7 (Z.nl ++ [(t3, A6, c6)]).length c7 : Value)] ((y15.ext x17).upd g3 (fun e => by cases e)) (fun w28 u8 b22 => ⟨(Gx.not_clear (by kernel_rfl)), ?_⟩)
    have zw28 := u8.size
    refine Gx.anyE_done (by kernel_rfl) ?_ _
    refine Z.x (Z.r [0, 1, 2] ?_)
    refine Z.p [0] [1, 2] [(37, Z.P b 0)] ?_
    refine Z.R (.cells #[.string Z.k21] 9) 1 1 (fun k8 w29 l8 x18 b23 zw29 tb23 => ?_)
    have y16 := gb_ext (gb_new (gb_app (gb_ext (gb_upd y12 x16) x17) g3 (fun j e => by have := (ow4).lt j e; omega)) u8) x18
    refine Z.kP (fun R hR hE => need_p b S q7 [Z.k21] k8 1 _ R ((((b20.ext x17).upd g3 (fun e => by cases e)).upd1 u8).ext x18) ok7 f7 b23 (by omega) (Nat.le_of_ble_eq_true rfl) (fun w30 q8 e8 f8 x19 => hE _ _ (And.intro rfl (hP _ q8 (by rw [run_succ]; simp only [stepN, letS, letT, maps, y13, e7, kbq7, y14, Z.ifs, reduceIte, (show mustR S q7 Z.k21 = q8 from e8), idl f8]) f8 (gb_upd y16 x19)))) (fun w30 q8 e8 f8 x19 b24 => hR _ _ ?_))
    have zw30 := x19.size
    have tb24 := b24.lt
    obtain ⟨ok8, ok8m, ok8x, ok8y⟩ : Tr S q7 q8 := e8 ▸ musts_tr _ ok7
    have e8 : mustR S q7 Z.k21 = q8 := e8
    have kbq8 := (okB_iff q8).2 f8
    refine Z.e (wp_seq (Z.D (fun w' => Gx.Has w' k6 (.cells #[.int .i64 9, Z.n at_, .string q1.t, .int .i64 0, (.slice A7 (Z.nl ++ [(t3, A6, c6)]).length c7 : Value)] 24)) (fun w31 x20 zw31 => ?_)))
    have y17 := ((b22.ext x18).upd1 x19).ext x20
    refine Z.h y17 (fun hS4 => ?_)
    refine Z.tl 0 0 (.agg #[.int .i64 9, Z.n at_, .string q1.t, .int .i64 0, (.slice A7 (Z.nl ++ [(t3, A6, c6)]).length c7 : Value)]) (fun _ hs => hs) hS4 ?_
    refine Z.t 1 (Z.P b 0) hS4 ?_
    have y18 := gb_ext (gb_upd y16 x19) x20
    refine Z.oP 2 (fun R hR hE => (ih k (Nat.le_refl k)).f_expr b S q8 _ R (b24.ext x20) ok8 f8 (by omega) (fun w32 q9 e9 f9 x21 => hE _ _ (And.intro rfl (hP _ q9 (by rw [run_succ]; simp only [stepN, letS, letT, maps, y13, e7, kbq7, e8, kbq8, y14, Z.ifs, reduceIte, e9, idl f9]) f9 (gb_upd y18 x21)))) (fun w32 t4 A8 c8 q9 e9 f9 x21 b25 kv5 => hR _ _ ⟨(y17.upd1 x21), ?_⟩))
    have zw32 := x21.size
    have tb25 := b25.lt
    have kbq9 := (okB_iff q9).2 f9
    obtain ⟨ok9, ok9m, ok9x, ok9y⟩ : Tr S q8 q9 := run_facts ok8 e9
    refine Z.oR 3 (.cells (Z.T t4 A8 c8) 24) 1 1 (fun k9 w33 l9 x22 b26 => ⟨((y17.upd1 x21).ext x22), ?_⟩)
    have zw33 := x22.size
    have tb26 := b26.lt
    have y19 := Gx.own_ext (Gx.own_upd1 (Gx.own_ext (Gx.own_upd1 (Gx.own_ext (Gx.own_upd1 ow5 u8 (fun q e => by have z := hb3 q e; omega)) x18) x19 (fun q e => by have z := hb3 q e; omega)) x20) x21 (fun q e => by have z := hb3 q e; omega)) x22
    refine Z.o 4 (fun R hR => with_p w24.heap.size k9 1 (Z.nl ++ [(t3, A6, c6)]) [(t4, A8, c8)] A7 c7 (Z.T t4 A8 c8) (9 : Int) ((at_ : Nat) : Int) (0 : Int) q1.t _ R y19 b26 rfl (by simp only [List.length_append, List.length_cons, List.length_nil]; omega) (by omega) (fun A9 c9 w34 nk4 ow6 nl4 hnk4 g4 => hR _ _ ⟨(((y17.upd1 x21).ext x22).upd g4 (fun e => by have := hb3 _ e.symm; omega)), fun hS5 => ?_⟩))
    have zw34 := g4.size
    have hb4 : ∀ j, ((.slice A9 ((Z.nl ++ [(t3, A6, c6)]) ++ [(t4, A8, c8)]).length c9 : Value) : Value).ownBlock = some j → (j = nk3 ∧ j < w27.heap.size) ∨ (j = nk4 ∧ j < w34.heap.size) := fun j e => by have l := (ow6).lt j e; rcases nl4 with q | q; (rw [q] at e; have z := hb3 j e; omega); (rw [q] at e; cases e; omega)
    have hkx4 : Z.ks (InV w24.heap.size w34.heap.size [k1, k6] (.slice A9 ((Z.nl ++ [(t3, A6, c6)]) ++ [(t4, A8, c8)]).length c9 : Value)) w34 ((Z.nl ++ [(t3, A6, c6)]) ++ [(t4, A8, c8)]) := Z.m1 (Q' := fun _ => True) (w' := w34) (fun p' h0 => (KV.topV ((((((((((hkx3 p' h0).updV u8).extV x18).updV x19).extV x20).updV x21).extV x22)).appV g4).toV nl4 (by omega)))) (KV.topV (KV.ofIn ((kv5.ext x22).app g4 (fun j e => by have z := hb3 j e; first | (left; omega) | (right; left; omega) | omega)) (fun j e => by have z := hb4 j e; first | (left; omega) | (right; omega) | omega)))
    refine Z.oSa 5 #[.int .i64 9, Z.n at_, .string q1.t, .int .i64 0, (.slice A9 ((Z.nl ++ [(t3, A6, c6)]) ++ [(t4, A8, c8)]).length c9 : Value)] ((((((((((((((((b1.upd1 x2).upd1 x13).ext x14).upd1 u6).upd1 u7).ext x15).upd1 x16).ext x17).upd g3 (fun e => by cases e)).upd1 u8).ext x18).upd1 x19).ext x20).upd1 x21).ext x22).upd g4 (fun e => by have := hb3 _ e.symm; omega)) (fun w35 u9 b27 => ⟨((((y17.upd1 x21).ext x22).upd g4 (fun e => by have := hb3 _ e.symm; omega)).upd1 u9), ?_⟩)
    have zw35 := u9.size
    refine Z.q ?_
    refine Z.x (wp_ret (Gx.ret (Gx.res_c (u := .agg #[.int .i64 9, Z.n at_, .string q1.t, .int .i64 0, (.slice A9 ((Z.nl ++ [(t3, A6, c6)]) ++ [(t4, A8, c8)]).length c9 : Value)]) rfl (by kernel_rfl) b27 (by kernel_rfl)) ?_))
    have y20 := Gx.own_upd1 ow6 u9 (fun q e => by have z := hb4 q e; omega)
    obtain ⟨A10, c10, hvkv6, kv6⟩ := KV.of_own (Q := In w24.heap.size w35.heap.size [k1, k6]) ((Z.nl ++ [(t3, A6, c6)]) ++ [(t4, A8, c8)]) y20 (fun j e => by have := (y20).lt j e; exact ⟨by omega, by omega, (by have z := hb4 j e; simp only [List.mem_cons, List.not_mem_nil, or_false, not_or]; omega)⟩) (fun p' h0 => (KV.topV ((hkx4 p' h0).updV u9)).noV)
    rw [nds_len] at hvkv6; cases hvkv6
    exact hK _ (Nd.mk 9 at_ q1.t (0 : Int) (nds ((Z.nl ++ [(t3, A6, c6)]) ++ [(t4, A8, c8)]))) A9 c9 q9 (by rw [run_succ]; simp only [stepN, letS, letT, maps, y13, e7, kbq7, e8, kbq8, e9, kbq9, y14, Z.ifs, reduceIte]) f9 (gb_new (gb_app (gb_ext (gb_upd y18 x21) x22) g4 (fun j e => by have := (y19).lt j e; omega)) u9) (((b25.ext x22).upd g4 (fun e => by have := hb3 _ e.symm; omega)).upd1 u9) (KV.top kv6)
  have p_c23 := Gx.k0 h_c23
  have nb2 : isNameB q6 = false := by simp only [isNameB, (okB_iff q6).2 f6, Bool.true_and]; simpa using h_c23
  obtain ⟨kk, hkk⟩ : ∃ kk, k = kk + 1 := ⟨k - 1, by omega⟩
  have hpn : run S k (.params Z.k7 false) q6 = run S kk .expr (mustR S q6 Z.k7) := by rw [hkk]; exact par_no nb2
  refine Z.r [0, 1, 2] ?_
  refine Z.p [0] [1, 2] [(29, Z.P b 0)] ?_
  refine Z.R (.cells #[.string Z.k7] 9) 1 1 (fun k10 w36 l10 x23 b28 zw36 tb28 => ?_)
  have y21 := gb_ext (gb_new (gb_new (gb_ext (gb_upd (gb_upd y1 x2) x13) x14) u6) u7) x23
  have y22 := Z.a y10 (Z.a e6 (Z.a kbq6 (Z.a nb2 hpn)))
  have y23 := Z.a h_gf6_1 h_c23
  refine Z.kP (fun R hR hE => need_p b S q6 [Z.k7] k10 1 _ R (y11.ext x23) ok6 f6 b28 (by omega) (Nat.le_of_ble_eq_true rfl) (fun w37 q10 e10 f10 x24 => hE _ _ (And.intro rfl (hP _ q10 (by rw [run_succ]; simp only [stepN, letS, letT, maps, y22, y23, Z.ifs, reduceIte, (show mustR S q6 Z.k7 = q10 from e10), idl f10]) f10 (gb_upd y21 x24)))) (fun w37 q10 e10 f10 x24 b29 => hR _ _ ?_))
  have zw37 := x24.size
  have tb29 := b29.lt
  obtain ⟨ok10, ok10m, ok10x, ok10y⟩ : Tr S q6 q10 := e10 ▸ musts_tr _ ok6
  have e10 : mustR S q6 Z.k7 = q10 := e10
  have kbq10 := (okB_iff q10).2 f10
  refine Z.e (Gx.drawE (S := fun w' => Gx.Has w' k6 (.cells #[.int .i64 9, Z.n at_, .string q1.t, .int .i64 0, .slice none 0 0] 24)) [5] (by kernel_rfl) (fun w38 x25 => ?_))
  have zw38 := x25.size
  have y24 := ((b19.ext x23).upd1 x24).ext x25
  refine Z.eh y24 (fun hS6 => ?_)
  refine Z.es 0 [4, 5] 0 (.agg #[.int .i64 9, Z.n at_, .string q1.t, .int .i64 0, .slice none 0 0]) (fun _ hs => hs) hS6 ?_
  refine Z.et 1 (Z.P b 0) (fun _ => hS6) ?_
  have y25 := gb_ext (gb_upd y21 x24) x25
  have y26 := Z.a y22 (Z.a e10 kbq10)
  refine Z.eP 2 (fun R hR hE => (ih kk (by omega)).f_expr b S q10 _ R (b29.ext x25) ok10 f10 (by omega) (fun w39 q11 e11 f11 x26 => hE _ _ (And.intro rfl (hP _ q11 (by rw [run_succ]; simp only [stepN, letS, letT, maps, y26, y23, Z.ifs, reduceIte, e11, idl f11]) f11 (gb_upd y25 x26)))) (fun w39 t5 A11 c11 q11 e11 f11 x26 b30 kv7 => hR _ _ ⟨(fun _ => (y24.upd1 x26)), ?_⟩))
  have zw39 := x26.size
  have tb30 := b30.lt
  have kbq11 := (okB_iff q11).2 f11
  obtain ⟨ok11, ok11m, ok11x, ok11y⟩ : Tr S q10 q11 := run_facts ok10 e11
  refine Z.eR 3 (.cells (Z.T t5 A11 c11) 24) 1 1 (fun k11 w40 l11 x27 b31 => ⟨(fun _ => ((y24.upd1 x26).ext x27)), ?_⟩)
  have zw40 := x27.size
  have tb31 := b31.lt
  have ow7 : w40.ownsRow w38.heap.size 24 5 (.slice none 0 0) Z.nl.length (flat Z.nl) := ⟨by simp [flat], .inl ⟨rfl, rfl⟩⟩
  refine Z.eK 4 (fun R hR => with_p w38.heap.size k11 1 Z.nl [(t5, A11, c11)] none 0 (Z.T t5 A11 c11) (9 : Int) ((at_ : Nat) : Int) (0 : Int) q1.t _ R ow7 b31 rfl (by simp only [List.length_append, List.length_cons, List.length_nil]; omega) (by omega) (fun A12 c12 w41 nk5 ow8 nl5 hnk5 g5 => hR _ _ ⟨(fun _ => (((y24.upd1 x26).ext x27).upd g5 (fun e => by cases e))), ?_⟩))
  have zw41 := g5.size
  have hb5 : ∀ j, ((.slice A12 (Z.nl ++ [(t5, A11, c11)]).length c12 : Value) : Value).ownBlock = some j → (j = nk5 ∧ j < w41.heap.size) := fun j e => by have l := (ow8).lt j e; rcases nl5 with q | q; (rw [q] at e; cases e); (rw [q] at e; cases e; omega)
  have hkx5 : Z.ks (InV w38.heap.size w41.heap.size [k1, k6] (.slice A12 (Z.nl ++ [(t5, A11, c11)]).length c12 : Value)) w41 (Z.nl ++ [(t5, A11, c11)]) := Z.m0 (KV.topV (KV.ofIn ((kv7.ext x27).app g5 (fun j e => by cases e)) (fun j e => by have z := hb5 j e; first | (left; omega) | (right; omega) | omega)))
  refine Z.eSa 5 #[.int .i64 9, Z.n at_, .string q1.t, .int .i64 0, (.slice A12 (Z.nl ++ [(t5, A11, c11)]).length c12 : Value)] (((y24.upd1 x26).ext x27).upd g5 (fun e => by cases e)) (fun w42 u10 b32 => ⟨(Gx.not_clear (by kernel_rfl)), ?_⟩)
  have zw42 := u10.size
  refine Gx.anyE_done (by kernel_rfl) ?_ _
  refine Z.x (Z.r [0, 1, 2] ?_)
  refine Z.p [0] [1, 2] [(37, Z.P b 0)] ?_
  refine Z.R (.cells #[.string Z.k21] 9) 1 1 (fun k12 w43 l12 x28 b33 zw43 tb33 => ?_)
  have y27 := gb_ext (gb_new (gb_app (gb_ext (gb_upd y25 x26) x27) g5 (fun j e => by have := (ow7).lt j e; omega)) u10) x28
  refine Z.kP (fun R hR hE => need_p b S q11 [Z.k21] k12 1 _ R ((((b30.ext x27).upd g5 (fun e => by cases e)).upd1 u10).ext x28) ok11 f11 b33 (by omega) (Nat.le_of_ble_eq_true rfl) (fun w44 q12 e12 f12 x29 => hE _ _ (And.intro rfl (hP _ q12 (by rw [run_succ]; simp only [stepN, letS, letT, maps, y26, e11, kbq11, y23, Z.ifs, reduceIte, (show mustR S q11 Z.k21 = q12 from e12), idl f12]) f12 (gb_upd y27 x29)))) (fun w44 q12 e12 f12 x29 b34 => hR _ _ ?_))
  have zw44 := x29.size
  have tb34 := b34.lt
  obtain ⟨ok12, ok12m, ok12x, ok12y⟩ : Tr S q11 q12 := e12 ▸ musts_tr _ ok11
  have e12 : mustR S q11 Z.k21 = q12 := e12
  have kbq12 := (okB_iff q12).2 f12
  refine Z.e (wp_seq (Z.D (fun w' => Gx.Has w' k6 (.cells #[.int .i64 9, Z.n at_, .string q1.t, .int .i64 0, (.slice A12 (Z.nl ++ [(t5, A11, c11)]).length c12 : Value)] 24)) (fun w45 x30 zw45 => ?_)))
  have y28 := ((b32.ext x28).upd1 x29).ext x30
  refine Z.h y28 (fun hS7 => ?_)
  refine Z.tl 0 0 (.agg #[.int .i64 9, Z.n at_, .string q1.t, .int .i64 0, (.slice A12 (Z.nl ++ [(t5, A11, c11)]).length c12 : Value)]) (fun _ hs => hs) hS7 ?_
  refine Z.t 1 (Z.P b 0) hS7 ?_
  have y29 := gb_ext (gb_upd y27 x29) x30
  refine Z.oP 2 (fun R hR hE => (ih k (Nat.le_refl k)).f_expr b S q12 _ R (b34.ext x30) ok12 f12 (by omega) (fun w46 q13 e13 f13 x31 => hE _ _ (And.intro rfl (hP _ q13 (by rw [run_succ]; simp only [stepN, letS, letT, maps, y26, e11, kbq11, e12, kbq12, y23, Z.ifs, reduceIte, e13, idl f13]) f13 (gb_upd y29 x31)))) (fun w46 t6 A13 c13 q13 e13 f13 x31 b35 kv8 => hR _ _ ⟨(y28.upd1 x31), ?_⟩))
  have zw46 := x31.size
  have tb35 := b35.lt
  have kbq13 := (okB_iff q13).2 f13
  obtain ⟨ok13, ok13m, ok13x, ok13y⟩ : Tr S q12 q13 := run_facts ok12 e13
  refine Z.oR 3 (.cells (Z.T t6 A13 c13) 24) 1 1 (fun k13 w47 l13 x32 b36 => ⟨((y28.upd1 x31).ext x32), ?_⟩)
  have zw47 := x32.size
  have tb36 := b36.lt
  have y30 := Gx.own_ext (Gx.own_upd1 (Gx.own_ext (Gx.own_upd1 (Gx.own_ext (Gx.own_upd1 ow8 u10 (fun q e => by have z := hb5 q e; omega)) x28) x29 (fun q e => by have z := hb5 q e; omega)) x30) x31 (fun q e => by have z := hb5 q e; omega)) x32
  refine Z.o 4 (fun R hR => with_p w38.heap.size k13 1 (Z.nl ++ [(t5, A11, c11)]) [(t6, A13, c13)] A12 c12 (Z.T t6 A13 c13) (9 : Int) ((at_ : Nat) : Int) (0 : Int) q1.t _ R y30 b36 rfl (by simp only [List.length_append, List.length_cons, List.length_nil]; omega) (by omega) (fun A14 c14 w48 nk6 ow9 nl6 hnk6 g6 => hR _ _ ⟨(((y28.upd1 x31).ext x32).upd g6 (fun e => by have := hb5 _ e.symm; omega)), fun hS8 => ?_⟩))
  have zw48 := g6.size
  have hb6 : ∀ j, ((.slice A14 ((Z.nl ++ [(t5, A11, c11)]) ++ [(t6, A13, c13)]).length c14 : Value) : Value).ownBlock = some j → (j = nk5 ∧ j < w41.heap.size) ∨ (j = nk6 ∧ j < w48.heap.size) := fun j e => by have l := (ow9).lt j e; rcases nl6 with q | q; (rw [q] at e; have z := hb5 j e; omega); (rw [q] at e; cases e; omega)
  have hkx6 : Z.ks (InV w38.heap.size w48.heap.size [k1, k6] (.slice A14 ((Z.nl ++ [(t5, A11, c11)]) ++ [(t6, A13, c13)]).length c14 : Value)) w48 ((Z.nl ++ [(t5, A11, c11)]) ++ [(t6, A13, c13)]) := Z.m1 (Q' := fun _ => True) (w' := w48) (fun p' h0 => (KV.topV ((((((((((hkx5 p' h0).updV u10).extV x28).updV x29).extV x30).updV x31).extV x32)).appV g6).toV nl6 (by omega)))) (KV.topV (KV.ofIn ((kv8.ext x32).app g6 (fun j e => by have z := hb5 j e; first | (left; omega) | (right; left; omega) | omega)) (fun j e => by have z := hb6 j e; first | (left; omega) | (right; omega) | omega)))
  refine Z.oSa 5 #[.int .i64 9, Z.n at_, .string q1.t, .int .i64 0, (.slice A14 ((Z.nl ++ [(t5, A11, c11)]) ++ [(t6, A13, c13)]).length c14 : Value)] ((((((((((((((((((b1.upd1 x2).upd1 x13).ext x14).upd1 u6).upd1 u7).ext x23).upd1 x24).ext x25).upd1 x26).ext x27).upd g5 (fun e => by cases e)).upd1 u10).ext x28).upd1 x29).ext x30).upd1 x31).ext x32).upd g6 (fun e => by have := hb5 _ e.symm; omega)) (fun w49 u11 b37 => ⟨((((y28.upd1 x31).ext x32).upd g6 (fun e => by have := hb5 _ e.symm; omega)).upd1 u11), ?_⟩)
  have zw49 := u11.size
  refine Z.q ?_
  refine Z.x (wp_ret (Gx.ret (Gx.res_c (u := .agg #[.int .i64 9, Z.n at_, .string q1.t, .int .i64 0, (.slice A14 ((Z.nl ++ [(t5, A11, c11)]) ++ [(t6, A13, c13)]).length c14 : Value)]) rfl (by kernel_rfl) b37 (by kernel_rfl)) ?_))
  have y31 := Gx.own_upd1 ow9 u11 (fun q e => by have z := hb6 q e; omega)
  obtain ⟨A15, c15, hvkv9, kv9⟩ := KV.of_own (Q := In w38.heap.size w49.heap.size [k1, k6]) ((Z.nl ++ [(t5, A11, c11)]) ++ [(t6, A13, c13)]) y31 (fun j e => by have := (y31).lt j e; exact ⟨by omega, by omega, (by have z := hb6 j e; simp only [List.mem_cons, List.not_mem_nil, or_false, not_or]; omega)⟩) (fun p' h0 => (KV.topV ((hkx6 p' h0).updV u11)).noV)
  rw [nds_len] at hvkv9; cases hvkv9
  exact hK _ (Nd.mk 9 at_ q1.t (0 : Int) (nds ((Z.nl ++ [(t5, A11, c11)]) ++ [(t6, A13, c13)]))) A14 c14 q13 (by rw [run_succ]; simp only [stepN, letS, letT, maps, y26, e11, kbq11, e12, kbq12, e13, kbq13, y23, Z.ifs, reduceIte]) f13 (gb_new (gb_app (gb_ext (gb_upd y29 x31) x32) g6 (fun j e => by have := (y30).lt j e; omega)) u11) (((b35.ext x32).upd g6 (fun e => by have := hb5 _ e.symm; omega)).upd1 u11) (KV.top kv9)
theorem cases_p (k : Nat) (b : Nat) (S : ByteArray) (q : Rs) (at_ : Nat) (w : World) (K : Ending → World → Prop) (ih : ∀ j, j ≤ k → SpecP j) (hb : Gx.Has w b (rdP S q)) (hok : Ok S q) (f0 : q.fk = 0) (hmu : 16 * M S q + 13 ≤ k + 1) (hP : (PQ w b K ((run S (k + 1) (.cases at_) q).2))) (hK : ∀ w' t A c q', run S (k + 1) (.cases at_) q = (t, q') → q'.fk = 0 → Gx.G w w' (some b) → Gx.Has w' b (rdP S q') → KV (In w.heap.size w'.heap.size []) w' t.ks A c → K (.returned (.agg (Z.T t A c))) w') :
    Calls Tryd.prog 101 #[Z.P b 0, Z.n at_] w K := by
  refine Z.en 48 Tryd.func101 ?_
  have tbb := hb.lt
  have kbq := (okB_iff q).2 f0
  refine Z.r [0] ?_
  refine Z.N Z.c0 (fun k1 w1 l1 x1 b1 zw1 tb1 => ?_)
  refine Z.e (Z.r [0, 1, 2, 3, 4, 5, 6, 7] ?_)
  refine Z.p [0, 1, 2] [3, 4, 5, 6, 7] [(8, Z.P b 0), (7, .agg #[.int .i64 17, Z.n at_, .string Z.E, .int .i64 0, .slice none 0 0]), (6, Z.n at_)] ?_
  have y1 := gb_ext (gb_refl w b) x1
  refine Z.kP (fun R hR hE => (ih k (Nat.le_refl k)).f_expr b S q _ R (hb.ext x1) hok f0 (by omega) (fun w2 q1 e1 f1 x2 => hE _ _ (And.intro rfl (hP _ q1 (by rw [run_succ]; simp only [stepN, casesS, maps, kbq, Z.ifs, reduceIte, e1, idl f1]) f1 (gb_upd y1 x2)))) (fun w2 t1 A1 c1 q1 e1 f1 x2 b2 kv1 => hR _ _ ?_))
  have zw2 := x2.size
  have tb2 := b2.lt
  have kbq1 := (okB_iff q1).2 f1
  obtain ⟨ok1, ok1m, ok1x, ok1y⟩ : Tr S q q1 := run_facts hok e1
  refine Z.R (.cells (Z.T t1 A1 c1) 24) 1 1 (fun k2 w3 l2 x3 b3 zw3 tb3 => ?_)
  have ow1 : w3.ownsRow w1.heap.size 24 5 (.slice none 0 0) Z.nl.length (flat Z.nl) := ⟨by simp [flat], .inl ⟨rfl, rfl⟩⟩
  refine Z.k (fun R hR => with_p w1.heap.size k2 1 Z.nl [(t1, A1, c1)] none 0 (Z.T t1 A1 c1) (17 : Int) ((at_ : Nat) : Int) (0 : Int) Z.E _ R ow1 b3 rfl (by simp only [List.length_append, List.length_cons, List.length_nil]; omega) (by omega) (fun A2 c2 w4 nk1 ow2 nl1 hnk1 g1 => hR _ _ ?_))
  have zw4 := g1.size
  have hb1 : ∀ j, ((.slice A2 (Z.nl ++ [(t1, A1, c1)]).length c2 : Value) : Value).ownBlock = some j → (j = nk1 ∧ j < w4.heap.size) := fun j e => by have l := (ow2).lt j e; rcases nl1 with q | q; (rw [q] at e; cases e); (rw [q] at e; cases e; omega)
  have hkx1 : Z.ks (InV w1.heap.size w4.heap.size [k1] (.slice A2 (Z.nl ++ [(t1, A1, c1)]).length c2 : Value)) w4 (Z.nl ++ [(t1, A1, c1)]) := Z.m0 (KV.topV (KV.ofIn ((kv1.ext x3).app g1 (fun j e => by cases e)) (fun j e => by have z := hb1 j e; first | (left; omega) | (right; omega) | omega)))
  refine Z.N Z.c0 (fun k3 w5 l3 x4 b4 zw5 tb4 => ?_)
  refine Z.Sa #[.int .i64 17, Z.n at_, .string Z.E, .int .i64 0, (.slice A2 (Z.nl ++ [(t1, A1, c1)]).length c2 : Value)] b4 (fun w6 u1 b5 zw6 => ?_)
  refine Z.e (Z.r [0, 1, 2] ?_)
  refine Z.p [0] [1, 2] [(12, Z.P b 0)] ?_
  refine Z.R (.cells #[.string Z.k49, .string Z.k18, .string Z.k22, .string Z.k1] 9) 4 4 (fun k4 w7 l4 x5 b6 zw7 tb6 => ?_)
  have y2 := gb_ext (gb_new (gb_ext (gb_app (gb_ext (gb_upd y1 x2) x3) g1 (fun j e => by have := (ow1).lt j e; omega)) x4) u1) x5
  have y3 := Z.a kbq (Z.a e1 kbq1)
  refine Z.kP (fun R hR hE => need_p b S q1 [Z.k49, Z.k18, Z.k22, Z.k1] k4 4 _ R (((((b2.ext x3).upd g1 (fun e => by cases e)).ext x4).upd1 u1).ext x5) ok1 f1 b6 (by omega) (Nat.le_of_ble_eq_true rfl) (fun w8 q2 e2 f2 x6 => hE _ _ (And.intro rfl (hP _ q2 (by rw [run_succ]; simp only [stepN, casesS, maps, y3, Z.ifs, reduceIte, (show mustR S (mustR S (mustR S (mustR S q1 Z.k49) Z.k18) Z.k22) Z.k1 = q2 from e2), idl f2]) f2 (gb_upd y2 x6)))) (fun w8 q2 e2 f2 x6 b7 => hR _ _ ?_))
  have zw8 := x6.size
  have tb7 := b7.lt
  obtain ⟨ok2, ok2m, ok2x, ok2y⟩ : Tr S q1 q2 := e2 ▸ musts_tr _ ok1
  have e2 : mustR S (mustR S (mustR S (mustR S q1 Z.k49) Z.k18) Z.k22) Z.k1 = q2 := e2
  have kbq2 := (okB_iff q2).2 f2
  refine Z.e (wp_seq (Gx.drawE (S := fun w' => Gx.Has w' k3 (.cells #[.int .i64 17, Z.n at_, .string Z.E, .int .i64 0, (.slice A2 (Z.nl ++ [(t1, A1, c1)]).length c2 : Value)] 24)) [5] (by kernel_rfl) (fun w9 x7 => ?_)))
  have zw9 := x7.size
  have y4 := ((b5.ext x5).upd1 x6).ext x7
  refine Z.eh y4 (fun hS1 => ?_)
  refine Z.es 0 [4, 5] 0 (.agg #[.int .i64 17, Z.n at_, .string Z.E, .int .i64 0, (.slice A2 (Z.nl ++ [(t1, A1, c1)]).length c2 : Value)]) (fun _ hs => hs) hS1 ?_
  refine Z.et 1 (Z.P b 0) (fun _ => hS1) ?_
  have y5 := gb_ext (gb_upd y2 x6) x7
  have y6 := Z.a y3 (Z.a e2 kbq2)
  refine Z.eP 2 (fun R hR hE => (ih k (Nat.le_refl k)).f_expr b S q2 _ R (b7.ext x7) ok2 f2 (by omega) (fun w10 q3 e3 f3 x8 => hE _ _ (And.intro rfl (hP _ q3 (by rw [run_succ]; simp only [stepN, casesS, maps, y6, Z.ifs, reduceIte, e3, idl f3]) f3 (gb_upd y5 x8)))) (fun w10 t2 A3 c3 q3 e3 f3 x8 b8 kv2 => hR _ _ ⟨(fun _ => (y4.upd1 x8)), ?_⟩))
  have zw10 := x8.size
  have tb8 := b8.lt
  have kbq3 := (okB_iff q3).2 f3
  obtain ⟨ok3, ok3m, ok3x, ok3y⟩ : Tr S q2 q3 := run_facts ok2 e3
  refine Z.eR 3 (.cells (Z.T t2 A3 c3) 24) 1 1 (fun k5 w11 l5 x9 b9 => ⟨(fun _ => ((y4.upd1 x8).ext x9)), ?_⟩)
  have zw11 := x9.size
  have tb9 := b9.lt
  have y7 := Gx.own_ext (Gx.own_upd1 (Gx.own_ext (Gx.own_upd1 (Gx.own_ext (Gx.own_upd1 (Gx.own_ext ow2 x4) u1 (fun q e => by have z := hb1 q e; omega)) x5) x6 (fun q e => by have z := hb1 q e; omega)) x7) x8 (fun q e => by have z := hb1 q e; omega)) x9
  refine Z.eK 4 (fun R hR => with_p w1.heap.size k5 1 (Z.nl ++ [(t1, A1, c1)]) [(t2, A3, c3)] A2 c2 (Z.T t2 A3 c3) (17 : Int) ((at_ : Nat) : Int) (0 : Int) Z.E _ R y7 b9 rfl (by simp only [List.length_append, List.length_cons, List.length_nil]; omega) (by omega) (fun A4 c4 w12 nk2 ow3 nl2 hnk2 g2 => hR _ _ ⟨(fun _ => (((y4.upd1 x8).ext x9).upd g2 (fun e => by have := hb1 _ e.symm; omega))), ?_⟩))
  have zw12 := g2.size
  have hb2 : ∀ j, ((.slice A4 ((Z.nl ++ [(t1, A1, c1)]) ++ [(t2, A3, c3)]).length c4 : Value) : Value).ownBlock = some j → (j = nk1 ∧ j < w4.heap.size) ∨ (j = nk2 ∧ j < w12.heap.size) := fun j e => by have l := (ow3).lt j e; rcases nl2 with q | q; (rw [q] at e; have z := hb1 j e; omega); (rw [q] at e; cases e; omega)
  have hkx2 : Z.ks (InV w1.heap.size w12.heap.size [k1, k3] (.slice A4 ((Z.nl ++ [(t1, A1, c1)]) ++ [(t2, A3, c3)]).length c4 : Value)) w12 ((Z.nl ++ [(t1, A1, c1)]) ++ [(t2, A3, c3)]) := Z.m1 (Q' := fun _ => True) (w' := w12) (fun p' h0 => (KV.topV (((((((((((hkx1 p' h0).extV x4).updV u1).extV x5).updV x6).extV x7).updV x8).extV x9)).appV g2).toV nl2 (by omega)))) (KV.topV (KV.ofIn ((kv2.ext x9).app g2 (fun j e => by have z := hb1 j e; first | (left; omega) | (right; left; omega) | omega)) (fun j e => by have z := hb2 j e; first | (left; omega) | (right; omega) | omega)))
  refine Z.eSa 5 #[.int .i64 17, Z.n at_, .string Z.E, .int .i64 0, (.slice A4 ((Z.nl ++ [(t1, A1, c1)]) ++ [(t2, A3, c3)]).length c4 : Value)] (((y4.upd1 x8).ext x9).upd g2 (fun e => by have := hb1 _ e.symm; omega)) (fun w13 u2 b10 => ⟨(Gx.not_clear (by kernel_rfl)), ?_⟩)
  have zw13 := u2.size
  refine Gx.anyE_done (by kernel_rfl) ?_ _
  refine Z.x (Z.r [0, 1, 2] ?_)
  refine Z.p [0] [1, 2] [(20, Z.P b 0)] ?_
  refine Z.R (.cells #[.string Z.k24] 9) 1 1 (fun k6 w14 l6 x10 b11 zw14 tb11 => ?_)
  have y8 := gb_ext (gb_new (gb_app (gb_ext (gb_upd y5 x8) x9) g2 (fun j e => by have := (y7).lt j e; omega)) u2) x10
  have y9 := Z.a y6 (Z.a e3 kbq3)
  refine Z.kP (fun R hR hE => need_p b S q3 [Z.k24] k6 1 _ R ((((b8.ext x9).upd g2 (fun e => by have := hb1 _ e.symm; omega)).upd1 u2).ext x10) ok3 f3 b11 (by omega) (Nat.le_of_ble_eq_true rfl) (fun w15 q4 e4 f4 x11 => hE _ _ (And.intro rfl (hP _ q4 (by rw [run_succ]; simp only [stepN, casesS, maps, y9, Z.ifs, reduceIte, (show mustR S q3 Z.k24 = q4 from e4), idl f4]) f4 (gb_upd y8 x11)))) (fun w15 q4 e4 f4 x11 b12 => hR _ _ ?_))
  have zw15 := x11.size
  have tb12 := b12.lt
  obtain ⟨ok4, ok4m, ok4x, ok4y⟩ : Tr S q3 q4 := e4 ▸ musts_tr _ ok3
  have e4 : mustR S q3 Z.k24 = q4 := e4
  have kbq4 := (okB_iff q4).2 f4
  refine Z.e (wp_seq (Gx.drawE (S := fun w' => Gx.Has w' k3 (.cells #[.int .i64 17, Z.n at_, .string Z.E, .int .i64 0, (.slice A4 ((Z.nl ++ [(t1, A1, c1)]) ++ [(t2, A3, c3)]).length c4 : Value)] 24)) [5] (by kernel_rfl) (fun w16 x12 => ?_)))
  have zw16 := x12.size
  have y10 := ((b10.ext x10).upd1 x11).ext x12
  refine Z.eh y10 (fun hS2 => ?_)
  refine Z.es 0 [4, 5] 0 (.agg #[.int .i64 17, Z.n at_, .string Z.E, .int .i64 0, (.slice A4 ((Z.nl ++ [(t1, A1, c1)]) ++ [(t2, A3, c3)]).length c4 : Value)]) (fun _ hs => hs) hS2 ?_
  refine Z.et 1 (Z.P b 0) (fun _ => hS2) ?_
  have y11 := gb_ext (gb_upd y8 x11) x12
  have y12 := Z.a y9 (Z.a e4 kbq4)
  refine Z.eP 2 (fun R hR hE => named_p b S q4 (23 : Int) _ R (b12.ext x12) ok4 f4 (fun w17 q5 e5 f5 x13 => hE _ _ (And.intro rfl (hP _ q5 (by rw [run_succ]; simp only [stepN, casesS, maps, y12, Z.ifs, reduceIte, e5, idl f5]) f5 (gb_upd y11 x13)))) (fun w17 q5 e5 f5 x13 b13 => hR _ _ ⟨(fun _ => (y10.upd1 x13)), ?_⟩))
  have zw17 := x13.size
  have tb13 := b13.lt
  have kbq5 := (okB_iff q5).2 f5
  obtain ⟨ok5, ok5m, ok5x, ok5y⟩ : Tr S q4 q5 := by have := name_tr ok4; rw [e5] at this; exact this
  have ok5l : M S q5 < M S q4 := by have := name_lt ok4 (by rw [e5]; exact kbq5); rw [e5] at this; exact this
  refine Z.eR 3 (.cells #[.int .i64 23, Z.n q4.a, .string q4.t, .int .i64 0, .slice none 0 0] 24) 1 1 (fun k7 w18 l7 x14 b14 => ⟨(fun _ => ((y10.upd1 x13).ext x14)), ?_⟩)
  have zw18 := x14.size
  have tb14 := b14.lt
  have y13 := Gx.own_ext (Gx.own_upd1 (Gx.own_ext (Gx.own_upd1 (Gx.own_ext (Gx.own_upd1 ow3 u2 (fun q e => by have z := hb2 q e; omega)) x10) x11 (fun q e => by have z := hb2 q e; omega)) x12) x13 (fun q e => by have z := hb2 q e; omega)) x14
  refine Z.eK 4 (fun R hR => with_p w1.heap.size k7 1 ((Z.nl ++ [(t1, A1, c1)]) ++ [(t2, A3, c3)]) [((Nd.mk 23 q4.a q4.t (0 : Int) []), none, 0)] A4 c4 #[.int .i64 23, Z.n q4.a, .string q4.t, .int .i64 0, .slice none 0 0] (17 : Int) ((at_ : Nat) : Int) (0 : Int) Z.E _ R y13 b14 rfl (by simp only [List.length_append, List.length_cons, List.length_nil]; omega) (by omega) (fun A5 c5 w19 nk3 ow4 nl3 hnk3 g3 => hR _ _ ⟨(fun _ => (((y10.upd1 x13).ext x14).upd g3 (fun e => by have := hb2 _ e.symm; omega))), ?_⟩))
  have zw19 := g3.size
  have hb3 : ∀ j, ((.slice A5 (((Z.nl ++ [(t1, A1, c1)]) ++ [(t2, A3, c3)]) ++ [((Nd.mk 23 q4.a q4.t (0 : Int) []), none, 0)]).length c5 : Value) : Value).ownBlock = some j → (j = nk1 ∧ j < w4.heap.size) ∨ (j = nk2 ∧ j < w12.heap.size) ∨ (j = nk3 ∧ j < w19.heap.size) := fun j e => by have l := (ow4).lt j e; rcases nl3 with q | q; (rw [q] at e; have z := hb2 j e; omega); (rw [q] at e; cases e; omega)
  have hkx3 : Z.ks (InV w1.heap.size w19.heap.size [k1, k3] (.slice A5 (((Z.nl ++ [(t1, A1, c1)]) ++ [(t2, A3, c3)]) ++ [((Nd.mk 23 q4.a q4.t (0 : Int) []), none, 0)]).length c5 : Value)) w19 (((Z.nl ++ [(t1, A1, c1)]) ++ [(t2, A3, c3)]) ++ [((Nd.mk 23 q4.a q4.t (0 : Int) []), none, 0)]) := Z.m1 (Q' := fun _ => True) (w' := w19) (fun p' h0 => (KV.topV ((((((((((hkx2 p' h0).updV u2).extV x10).updV x11).extV x12).updV x13).extV x14)).appV g3).toV nl3 (by omega)))) KV.nil
  refine Z.eSa 5 #[.int .i64 17, Z.n at_, .string Z.E, .int .i64 0, (.slice A5 (((Z.nl ++ [(t1, A1, c1)]) ++ [(t2, A3, c3)]) ++ [((Nd.mk 23 q4.a q4.t (0 : Int) []), none, 0)]).length c5 : Value)] (((y10.upd1 x13).ext x14).upd g3 (fun e => by have := hb2 _ e.symm; omega)) (fun w20 u3 b15 => ⟨(Gx.not_clear (by kernel_rfl)), ?_⟩)
  have zw20 := u3.size
  refine Gx.anyE_done (by kernel_rfl) ?_ _
  refine Z.x (Z.r [0, 1, 2] ?_)
  refine Z.p [0] [1, 2] [(28, Z.P b 0)] ?_
  refine Z.R (.cells #[.string Z.k9] 9) 1 1 (fun k8 w21 l8 x15 b16 zw21 tb16 => ?_)
  have y14 := gb_ext (gb_new (gb_app (gb_ext (gb_upd y11 x13) x14) g3 (fun j e => by have := (y13).lt j e; omega)) u3) x15
  have y15 := Z.a y12 (Z.a e5 kbq5)
  refine Z.kP (fun R hR hE => need_p b S q5 [Z.k9] k8 1 _ R ((((b13.ext x14).upd g3 (fun e => by have := hb2 _ e.symm; omega)).upd1 u3).ext x15) ok5 f5 b16 (by omega) (Nat.le_of_ble_eq_true rfl) (fun w22 q6 e6 f6 x16 => hE _ _ (And.intro rfl (hP _ q6 (by rw [run_succ]; simp only [stepN, casesS, maps, y15, Z.ifs, reduceIte, (show mustR S q5 Z.k9 = q6 from e6), idl f6]) f6 (gb_upd y14 x16)))) (fun w22 q6 e6 f6 x16 b17 => hR _ _ ?_))
  have zw22 := x16.size
  have tb17 := b17.lt
  obtain ⟨ok6, ok6m, ok6x, ok6y⟩ : Tr S q5 q6 := e6 ▸ musts_tr _ ok5
  have e6 : mustR S q5 Z.k9 = q6 := e6
  have kbq6 := (okB_iff q6).2 f6
  refine Z.e (wp_seq (Gx.drawE (S := fun w' => Gx.Has w' k3 (.cells #[.int .i64 17, Z.n at_, .string Z.E, .int .i64 0, (.slice A5 (((Z.nl ++ [(t1, A1, c1)]) ++ [(t2, A3, c3)]) ++ [((Nd.mk 23 q4.a q4.t (0 : Int) []), none, 0)]).length c5 : Value)] 24)) [5] (by kernel_rfl) (fun w23 x17 => ?_)))
  have zw23 := x17.size
  have y16 := ((b15.ext x15).upd1 x16).ext x17
  refine Z.eh y16 (fun hS3 => ?_)
  refine Z.es 0 [4, 5] 0 (.agg #[.int .i64 17, Z.n at_, .string Z.E, .int .i64 0, (.slice A5 (((Z.nl ++ [(t1, A1, c1)]) ++ [(t2, A3, c3)]) ++ [((Nd.mk 23 q4.a q4.t (0 : Int) []), none, 0)]).length c5 : Value)]) (fun _ hs => hs) hS3 ?_
  refine Z.et 1 (Z.P b 0) (fun _ => hS3) ?_
  have y17 := gb_ext (gb_upd y14 x16) x17
  have y18 := Z.a y15 (Z.a e6 kbq6)
  refine Z.eP 2 (fun R hR hE => named_p b S q6 (23 : Int) _ R (b17.ext x17) ok6 f6 (fun w24 q7 e7 f7 x18 => hE _ _ (And.intro rfl (hP _ q7 (by rw [run_succ]; simp only [stepN, casesS, maps, y18, Z.ifs, reduceIte, e7, idl f7]) f7 (gb_upd y17 x18)))) (fun w24 q7 e7 f7 x18 b18 => hR _ _ ⟨(fun _ => (y16.upd1 x18)), ?_⟩))
  have zw24 := x18.size
  have tb18 := b18.lt
  have kbq7 := (okB_iff q7).2 f7
  obtain ⟨ok7, ok7m, ok7x, ok7y⟩ : Tr S q6 q7 := by have := name_tr ok6; rw [e7] at this; exact this
  have ok7l : M S q7 < M S q6 := by have := name_lt ok6 (by rw [e7]; exact kbq7); rw [e7] at this; exact this
  refine Z.eR 3 (.cells #[.int .i64 23, Z.n q6.a, .string q6.t, .int .i64 0, .slice none 0 0] 24) 1 1 (fun k9 w25 l9 x19 b19 => ⟨(fun _ => ((y16.upd1 x18).ext x19)), ?_⟩)
  have zw25 := x19.size
  have tb19 := b19.lt
  have y19 := Gx.own_ext (Gx.own_upd1 (Gx.own_ext (Gx.own_upd1 (Gx.own_ext (Gx.own_upd1 ow4 u3 (fun q e => by have z := hb3 q e; omega)) x15) x16 (fun q e => by have z := hb3 q e; omega)) x17) x18 (fun q e => by have z := hb3 q e; omega)) x19
  refine Z.eK 4 (fun R hR => with_p w1.heap.size k9 1 (((Z.nl ++ [(t1, A1, c1)]) ++ [(t2, A3, c3)]) ++ [((Nd.mk 23 q4.a q4.t (0 : Int) []), none, 0)]) [((Nd.mk 23 q6.a q6.t (0 : Int) []), none, 0)] A5 c5 #[.int .i64 23, Z.n q6.a, .string q6.t, .int .i64 0, .slice none 0 0] (17 : Int) ((at_ : Nat) : Int) (0 : Int) Z.E _ R y19 b19 rfl (by simp only [List.length_append, List.length_cons, List.length_nil]; omega) (by omega) (fun A6 c6 w26 nk4 ow5 nl4 hnk4 g4 => hR _ _ ⟨(fun _ => (((y16.upd1 x18).ext x19).upd g4 (fun e => by have := hb3 _ e.symm; omega))), ?_⟩))
  have zw26 := g4.size
  have hb4 : ∀ j, ((.slice A6 ((((Z.nl ++ [(t1, A1, c1)]) ++ [(t2, A3, c3)]) ++ [((Nd.mk 23 q4.a q4.t (0 : Int) []), none, 0)]) ++ [((Nd.mk 23 q6.a q6.t (0 : Int) []), none, 0)]).length c6 : Value) : Value).ownBlock = some j → (j = nk1 ∧ j < w4.heap.size) ∨ (j = nk2 ∧ j < w12.heap.size) ∨ (j = nk3 ∧ j < w19.heap.size) ∨ (j = nk4 ∧ j < w26.heap.size) := fun j e => by have l := (ow5).lt j e; rcases nl4 with q | q; (rw [q] at e; have z := hb3 j e; omega); (rw [q] at e; cases e; omega)
  have hkx4 : Z.ks (InV w1.heap.size w26.heap.size [k1, k3] (.slice A6 ((((Z.nl ++ [(t1, A1, c1)]) ++ [(t2, A3, c3)]) ++ [((Nd.mk 23 q4.a q4.t (0 : Int) []), none, 0)]) ++ [((Nd.mk 23 q6.a q6.t (0 : Int) []), none, 0)]).length c6 : Value)) w26 ((((Z.nl ++ [(t1, A1, c1)]) ++ [(t2, A3, c3)]) ++ [((Nd.mk 23 q4.a q4.t (0 : Int) []), none, 0)]) ++ [((Nd.mk 23 q6.a q6.t (0 : Int) []), none, 0)]) := Z.m1 (Q' := fun _ => True) (w' := w26) (fun p' h0 => (KV.topV ((((((((((hkx3 p' h0).updV u3).extV x15).updV x16).extV x17).updV x18).extV x19)).appV g4).toV nl4 (by omega)))) KV.nil
  refine Z.eSa 5 #[.int .i64 17, Z.n at_, .string Z.E, .int .i64 0, (.slice A6 ((((Z.nl ++ [(t1, A1, c1)]) ++ [(t2, A3, c3)]) ++ [((Nd.mk 23 q4.a q4.t (0 : Int) []), none, 0)]) ++ [((Nd.mk 23 q6.a q6.t (0 : Int) []), none, 0)]).length c6 : Value)] (((y16.upd1 x18).ext x19).upd g4 (fun e => by have := hb3 _ e.symm; omega)) (fun w27 u4 b20 => ⟨(Gx.not_clear (by kernel_rfl)), ?_⟩)
  have zw27 := u4.size
  refine Gx.anyE_done (by kernel_rfl) ?_ _
  refine Z.x (Z.r [0, 1, 2] ?_)
  refine Z.p [0] [1, 2] [(36, Z.P b 0)] ?_
  refine Z.R (.cells #[.string Z.k1] 9) 1 1 (fun k10 w28 l10 x20 b21 zw28 tb21 => ?_)
  have y20 := gb_ext (gb_new (gb_app (gb_ext (gb_upd y17 x18) x19) g4 (fun j e => by have := (y19).lt j e; omega)) u4) x20
  refine Z.kP (fun R hR hE => need_p b S q7 [Z.k1] k10 1 _ R ((((b18.ext x19).upd g4 (fun e => by have := hb3 _ e.symm; omega)).upd1 u4).ext x20) ok7 f7 b21 (by omega) (Nat.le_of_ble_eq_true rfl) (fun w29 q8 e8 f8 x21 => hE _ _ (And.intro rfl (hP _ q8 (by rw [run_succ]; simp only [stepN, casesS, maps, y18, e7, kbq7, Z.ifs, reduceIte, (show mustR S q7 Z.k1 = q8 from e8), idl f8]) f8 (gb_upd y20 x21)))) (fun w29 q8 e8 f8 x21 b22 => hR _ _ ?_))
  have zw29 := x21.size
  have tb22 := b22.lt
  obtain ⟨ok8, ok8m, ok8x, ok8y⟩ : Tr S q7 q8 := e8 ▸ musts_tr _ ok7
  have e8 : mustR S q7 Z.k1 = q8 := e8
  have kbq8 := (okB_iff q8).2 f8
  refine Z.e (wp_seq (Gx.drawE (S := fun w' => Gx.Has w' k3 (.cells #[.int .i64 17, Z.n at_, .string Z.E, .int .i64 0, (.slice A6 ((((Z.nl ++ [(t1, A1, c1)]) ++ [(t2, A3, c3)]) ++ [((Nd.mk 23 q4.a q4.t (0 : Int) []), none, 0)]) ++ [((Nd.mk 23 q6.a q6.t (0 : Int) []), none, 0)]).length c6 : Value)] 24)) [5] (by kernel_rfl) (fun w30 x22 => ?_)))
  have zw30 := x22.size
  have y21 := ((b20.ext x20).upd1 x21).ext x22
  refine Z.eh y21 (fun hS4 => ?_)
  refine Z.es 0 [4, 5] 0 (.agg #[.int .i64 17, Z.n at_, .string Z.E, .int .i64 0, (.slice A6 ((((Z.nl ++ [(t1, A1, c1)]) ++ [(t2, A3, c3)]) ++ [((Nd.mk 23 q4.a q4.t (0 : Int) []), none, 0)]) ++ [((Nd.mk 23 q6.a q6.t (0 : Int) []), none, 0)]).length c6 : Value)]) (fun _ hs => hs) hS4 ?_
  refine Z.et 1 (Z.P b 0) (fun _ => hS4) ?_
  have y22 := gb_ext (gb_upd y20 x21) x22
  refine Z.eP 2 (fun R hR hE => (ih k (Nat.le_refl k)).f_expr b S q8 _ R (b22.ext x22) ok8 f8 (by omega) (fun w31 q9 e9 f9 x23 => hE _ _ (And.intro rfl (hP _ q9 (by rw [run_succ]; simp only [stepN, casesS, maps, y18, e7, kbq7, e8, kbq8, Z.ifs, reduceIte, e9, idl f9]) f9 (gb_upd y22 x23)))) (fun w31 t3 A7 c7 q9 e9 f9 x23 b23 kv3 => hR _ _ ⟨(fun _ => (y21.upd1 x23)), ?_⟩))
  have zw31 := x23.size
  have tb23 := b23.lt
  have kbq9 := (okB_iff q9).2 f9
  obtain ⟨ok9, ok9m, ok9x, ok9y⟩ : Tr S q8 q9 := run_facts ok8 e9
  refine Z.eR 3 (.cells (Z.T t3 A7 c7) 24) 1 1 (fun k11 w32 l11 x24 b24 => ⟨(fun _ => ((y21.upd1 x23).ext x24)), ?_⟩)
  have zw32 := x24.size
  have tb24 := b24.lt
  have y23 := Gx.own_ext (Gx.own_upd1 (Gx.own_ext (Gx.own_upd1 (Gx.own_ext (Gx.own_upd1 ow5 u4 (fun q e => by have z := hb4 q e; omega)) x20) x21 (fun q e => by have z := hb4 q e; omega)) x22) x23 (fun q e => by have z := hb4 q e; omega)) x24
  refine Z.eK 4 (fun R hR => with_p w1.heap.size k11 1 ((((Z.nl ++ [(t1, A1, c1)]) ++ [(t2, A3, c3)]) ++ [((Nd.mk 23 q4.a q4.t (0 : Int) []), none, 0)]) ++ [((Nd.mk 23 q6.a q6.t (0 : Int) []), none, 0)]) [(t3, A7, c7)] A6 c6 (Z.T t3 A7 c7) (17 : Int) ((at_ : Nat) : Int) (0 : Int) Z.E _ R y23 b24 rfl (by simp only [List.length_append, List.length_cons, List.length_nil]; omega) (by omega) (fun A8 c8 w33 nk5 ow6 nl5 hnk5 g5 => hR _ _ ⟨(fun _ => (((y21.upd1 x23).ext x24).upd g5 (fun e => by have := hb4 _ e.symm; omega))), ?_⟩))
  have zw33 := g5.size
  have hb5 : ∀ j, ((.slice A8 (((((Z.nl ++ [(t1, A1, c1)]) ++ [(t2, A3, c3)]) ++ [((Nd.mk 23 q4.a q4.t (0 : Int) []), none, 0)]) ++ [((Nd.mk 23 q6.a q6.t (0 : Int) []), none, 0)]) ++ [(t3, A7, c7)]).length c8 : Value) : Value).ownBlock = some j → (j = nk1 ∧ j < w4.heap.size) ∨ (j = nk2 ∧ j < w12.heap.size) ∨ (j = nk3 ∧ j < w19.heap.size) ∨ (j = nk4 ∧ j < w26.heap.size) ∨ (j = nk5 ∧ j < w33.heap.size) := fun j e => by have l := (ow6).lt j e; rcases nl5 with q | q; (rw [q] at e; have z := hb4 j e; omega); (rw [q] at e; cases e; omega)
  have hkx5 : Z.ks (InV w1.heap.size w33.heap.size [k1, k3] (.slice A8 (((((Z.nl ++ [(t1, A1, c1)]) ++ [(t2, A3, c3)]) ++ [((Nd.mk 23 q4.a q4.t (0 : Int) []), none, 0)]) ++ [((Nd.mk 23 q6.a q6.t (0 : Int) []), none, 0)]) ++ [(t3, A7, c7)]).length c8 : Value)) w33 (((((Z.nl ++ [(t1, A1, c1)]) ++ [(t2, A3, c3)]) ++ [((Nd.mk 23 q4.a q4.t (0 : Int) []), none, 0)]) ++ [((Nd.mk 23 q6.a q6.t (0 : Int) []), none, 0)]) ++ [(t3, A7, c7)]) := Z.m1 (Q' := fun _ => True) (w' := w33) (fun p' h0 => (KV.topV ((((((((((hkx4 p' h0).updV u4).extV x20).updV x21).extV x22).updV x23).extV x24)).appV g5).toV nl5 (by omega)))) (KV.topV (KV.ofIn ((kv3.ext x24).app g5 (fun j e => by have z := hb4 j e; first | (left; omega) | (right; left; omega) | omega)) (fun j e => by have z := hb5 j e; first | (left; omega) | (right; omega) | omega)))
  refine Z.eSa 5 #[.int .i64 17, Z.n at_, .string Z.E, .int .i64 0, (.slice A8 (((((Z.nl ++ [(t1, A1, c1)]) ++ [(t2, A3, c3)]) ++ [((Nd.mk 23 q4.a q4.t (0 : Int) []), none, 0)]) ++ [((Nd.mk 23 q6.a q6.t (0 : Int) []), none, 0)]) ++ [(t3, A7, c7)]).length c8 : Value)] (((y21.upd1 x23).ext x24).upd g5 (fun e => by have := hb4 _ e.symm; omega)) (fun w34 u5 b25 => ⟨(Gx.not_clear (by kernel_rfl)), ?_⟩)
  have zw34 := u5.size
  refine Gx.anyE_done (by kernel_rfl) ?_ _
  refine Z.x (Z.r [0, 1, 2] ?_)
  refine Z.p [0] [1, 2] [(44, Z.P b 0)] ?_
  refine Z.R (.cells #[.string Z.k50] 9) 1 1 (fun k12 w35 l12 x25 b26 zw35 tb26 => ?_)
  have y24 := gb_ext (gb_new (gb_app (gb_ext (gb_upd y22 x23) x24) g5 (fun j e => by have := (y23).lt j e; omega)) u5) x25
  refine Z.kP (fun R hR hE => need_p b S q9 [Z.k50] k12 1 _ R ((((b23.ext x24).upd g5 (fun e => by have := hb4 _ e.symm; omega)).upd1 u5).ext x25) ok9 f9 b26 (by omega) (Nat.le_of_ble_eq_true rfl) (fun w36 q10 e10 f10 x26 => hE _ _ (And.intro rfl (hP _ q10 (by rw [run_succ]; simp only [stepN, casesS, maps, y18, e7, kbq7, e8, kbq8, e9, kbq9, Z.ifs, reduceIte, (show mustR S q9 Z.k50 = q10 from e10), idl f10]) f10 (gb_upd y24 x26)))) (fun w36 q10 e10 f10 x26 b27 => hR _ _ ?_))
  have zw36 := x26.size
  have tb27 := b27.lt
  obtain ⟨ok10, ok10m, ok10x, ok10y⟩ : Tr S q9 q10 := e10 ▸ musts_tr _ ok9
  have e10 : mustR S q9 Z.k50 = q10 := e10
  have kbq10 := (okB_iff q10).2 f10
  refine Z.e (Z.r [0, 1] ?_)
  refine Z.L 0 (.agg #[.int .i64 17, Z.n at_, .string Z.E, .int .i64 0, (.slice A8 (((((Z.nl ++ [(t1, A1, c1)]) ++ [(t2, A3, c3)]) ++ [((Nd.mk 23 q4.a q4.t (0 : Int) []), none, 0)]) ++ [((Nd.mk 23 q6.a q6.t (0 : Int) []), none, 0)]) ++ [(t3, A7, c7)]).length c8 : Value)]) ((b25.ext x25).upd1 x26) ?_
  refine Z.Sa #[.int .i64 17, Z.n at_, .string Z.E, .int .i64 0, (.slice A8 (((((Z.nl ++ [(t1, A1, c1)]) ++ [(t2, A3, c3)]) ++ [((Nd.mk 23 q4.a q4.t (0 : Int) []), none, 0)]) ++ [((Nd.mk 23 q6.a q6.t (0 : Int) []), none, 0)]) ++ [(t3, A7, c7)]).length c8 : Value)] (((((((((((((((((((((((((((((((((((b1.upd1 x2).ext x3).upd g1 (fun e => by cases e)).ext x4).upd1 u1).ext x5).upd1 x6).ext x7).upd1 x8).ext x9).upd g2 (fun e => by have := hb1 _ e.symm; omega)).upd1 u2).ext x10).upd1 x11).ext x12).upd1 x13).ext x14).upd g3 (fun e => by have := hb2 _ e.symm; omega)).upd1 u3).ext x15).upd1 x16).ext x17).upd1 x18).ext x19).upd g4 (fun e => by have := hb3 _ e.symm; omega)).upd1 u4).ext x20).upd1 x21).ext x22).upd1 x23).ext x24).upd g5 (fun e => by have := hb4 _ e.symm; omega)).upd1 u5).ext x25).upd1 x26) (fun w37 u6 b28 zw37 => ?_)
  refine Z.e (wp_ret (Gx.ret (Gx.res_c (u := .agg #[.int .i64 17, Z.n at_, .string Z.E, .int .i64 0, (.slice A8 (((((Z.nl ++ [(t1, A1, c1)]) ++ [(t2, A3, c3)]) ++ [((Nd.mk 23 q4.a q4.t (0 : Int) []), none, 0)]) ++ [((Nd.mk 23 q6.a q6.t (0 : Int) []), none, 0)]) ++ [(t3, A7, c7)]).length c8 : Value)]) rfl (by kernel_rfl) b28 (by kernel_rfl)) ?_))
  have y25 := Gx.own_upd1 (Gx.own_upd1 (Gx.own_ext (Gx.own_upd1 ow6 u5 (fun q e => by have z := hb5 q e; omega)) x25) x26 (fun q e => by have z := hb5 q e; omega)) u6 (fun q e => by have z := hb5 q e; omega)
  obtain ⟨A9, c9, hvkv4, kv4⟩ := KV.of_own (Q := In w1.heap.size w37.heap.size [k1, k3]) (((((Z.nl ++ [(t1, A1, c1)]) ++ [(t2, A3, c3)]) ++ [((Nd.mk 23 q4.a q4.t (0 : Int) []), none, 0)]) ++ [((Nd.mk 23 q6.a q6.t (0 : Int) []), none, 0)]) ++ [(t3, A7, c7)]) y25 (fun j e => by have := (y25).lt j e; exact ⟨by omega, by omega, (by have z := hb5 j e; simp only [List.mem_cons, List.not_mem_nil, or_false, not_or]; omega)⟩) (fun p' h0 => (KV.topV (((((hkx5 p' h0).updV u5).extV x25).updV x26).updV u6)).noV)
  rw [nds_len] at hvkv4; cases hvkv4
  exact hK _ (Nd.mk 17 at_ Z.E (0 : Int) (nds (((((Z.nl ++ [(t1, A1, c1)]) ++ [(t2, A3, c3)]) ++ [((Nd.mk 23 q4.a q4.t (0 : Int) []), none, 0)]) ++ [((Nd.mk 23 q6.a q6.t (0 : Int) []), none, 0)]) ++ [(t3, A7, c7)]))) A8 c8 q10 (by rw [run_succ]; simp only [stepN, casesS, maps, y18, e7, kbq7, e8, kbq8, e9, kbq9, e10, kbq10, Z.ifs, reduceIte]) f10 (gb_new (gb_upd y24 x26) u6) (b27.upd1 u6) (KV.top kv4)
theorem choice_p (k : Nat) (b : Nat) (S : ByteArray) (q : Rs) (at_ : Nat) (w : World) (K : Ending → World → Prop) (ih : ∀ j, j ≤ k → SpecP j) (hb : Gx.Has w b (rdP S q)) (hok : Ok S q) (f0 : q.fk = 0) (hmu : 16 * M S q + 11 ≤ k) (hP : (PQ w b K ((ifR S (run S k) at_ q).2))) (hK : ∀ w' t A c q', ifR S (run S k) at_ q = (t, q') → q'.fk = 0 → Gx.G w w' (some b) → Gx.Has w' b (rdP S q') → KV (In w.heap.size w'.heap.size []) w' t.ks A c → K (.returned (.agg (Z.T t A c))) w') :
    Calls Tryd.prog 100 #[Z.P b 0, Z.n at_] w K := by
  refine Z.en 29 Tryd.func100 ?_
  have tbb := hb.lt
  have kbq := (okB_iff q).2 f0
  refine Z.r [0] ?_
  refine Z.N Z.c0 (fun k1 w1 l1 x1 b1 zw1 tb1 => ?_)
  refine Z.e (Z.r [0, 1, 2, 3] ?_)
  refine Z.p [0, 1] [2, 3] [(7, .agg #[.int .i64 11, Z.n at_, .string Z.E, .int .i64 0, .slice none 0 0]), (6, Z.n at_)] ?_
  refine Z.N Z.c0 (fun k2 w2 l2 x2 b2 zw2 tb2 => ?_)
  refine Z.Sa #[.int .i64 11, Z.n at_, .string Z.E, .int .i64 0, .slice none 0 0] b2 (fun w3 u1 b3 zw3 => ?_)
  refine Z.e (wp_seq (Gx.drawE (S := fun w' => Gx.Has w' k2 (.cells #[.int .i64 11, Z.n at_, .string Z.E, .int .i64 0, .slice none 0 0] 24)) [5] (by kernel_rfl) (fun w4 x3 => ?_)))
  have zw4 := x3.size
  refine Z.es 0 [4, 5] 0 (.agg #[.int .i64 11, Z.n at_, .string Z.E, .int .i64 0, .slice none 0 0]) (fun _ hs => hs) (b3.ext x3) ?_
  refine Z.et 1 (Z.P b 0) (fun _ => (b3.ext x3)) ?_
  have y1 := gb_ext (gb_new (gb_ext (gb_ext (gb_refl w b) x1) x2) u1) x3
  refine Z.eP 2 (fun R hR hE => (ih k (Nat.le_refl k)).f_expr b S q _ R ((((hb.ext x1).ext x2).upd1 u1).ext x3) hok f0 (by omega) (fun w5 q1 e1 f1 x4 => hE _ _ (And.intro rfl (hP _ q1 (by simp only [stepN, ifR, maps, kbq, Z.ifs, reduceIte, e1, idl f1]) f1 (gb_upd y1 x4)))) (fun w5 t1 A1 c1 q1 e1 f1 x4 b4 kv1 => hR _ _ ⟨(fun _ => ((b3.ext x3).upd1 x4)), ?_⟩))
  have zw5 := x4.size
  have tb4 := b4.lt
  have kbq1 := (okB_iff q1).2 f1
  obtain ⟨ok1, ok1m, ok1x, ok1y⟩ : Tr S q q1 := run_facts hok e1
  refine Z.eR 3 (.cells (Z.T t1 A1 c1) 24) 1 1 (fun k3 w6 l3 x5 b5 => ⟨(fun _ => (((b3.ext x3).upd1 x4).ext x5)), ?_⟩)
  have zw6 := x5.size
  have tb5 := b5.lt
  have ow1 : w6.ownsRow w4.heap.size 24 5 (.slice none 0 0) Z.nl.length (flat Z.nl) := ⟨by simp [flat], .inl ⟨rfl, rfl⟩⟩
  have y2 := ((b3.ext x3).upd1 x4).ext x5
  refine Z.eK 4 (fun R hR => with_p w4.heap.size k3 1 Z.nl [(t1, A1, c1)] none 0 (Z.T t1 A1 c1) (11 : Int) ((at_ : Nat) : Int) (0 : Int) Z.E _ R ow1 b5 rfl (by simp only [List.length_append, List.length_cons, List.length_nil]; omega) (by omega) (fun A2 c2 w7 nk1 ow2 nl1 hnk1 g1 => hR _ _ ⟨(fun _ => (y2.upd g1 (fun e => by cases e))), ?_⟩))
  have zw7 := g1.size
  have hb1 : ∀ j, ((.slice A2 (Z.nl ++ [(t1, A1, c1)]).length c2 : Value) : Value).ownBlock = some j → (j = nk1 ∧ j < w7.heap.size) := fun j e => by have l := (ow2).lt j e; rcases nl1 with q | q; (rw [q] at e; cases e); (rw [q] at e; cases e; omega)
  have hkx1 : Z.ks (InV w4.heap.size w7.heap.size [k1, k2] (.slice A2 (Z.nl ++ [(t1, A1, c1)]).length c2 : Value)) w7 (Z.nl ++ [(t1, A1, c1)]) := Z.m0 (KV.topV (KV.ofIn ((kv1.ext x5).app g1 (fun j e => by cases e)) (fun j e => by have z := hb1 j e; first | (left; omega) | (right; omega) | omega)))
  refine Z.eSa 5 #[.int .i64 11, Z.n at_, .string Z.E, .int .i64 0, (.slice A2 (Z.nl ++ [(t1, A1, c1)]).length c2 : Value)] (y2.upd g1 (fun e => by cases e)) (fun w8 u2 b6 => ⟨(Gx.not_clear (by kernel_rfl)), ?_⟩)
  have zw8 := u2.size
  refine Gx.anyE_done (by kernel_rfl) ?_ _
  refine Z.x (Z.r [0, 1, 2] ?_)
  refine Z.p [0] [1, 2] [(13, Z.P b 0)] ?_
  refine Z.R (.cells #[.string Z.k45] 9) 1 1 (fun k4 w9 l4 x6 b7 zw9 tb7 => ?_)
  have y3 := gb_ext (gb_new (gb_app (gb_ext (gb_upd y1 x4) x5) g1 (fun j e => by have := (ow1).lt j e; omega)) u2) x6
  have y4 := Z.a kbq (Z.a e1 kbq1)
  refine Z.kP (fun R hR hE => need_p b S q1 [Z.k45] k4 1 _ R ((((b4.ext x5).upd g1 (fun e => by cases e)).upd1 u2).ext x6) ok1 f1 b7 (by omega) (Nat.le_of_ble_eq_true rfl) (fun w10 q2 e2 f2 x7 => hE _ _ (And.intro rfl (hP _ q2 (by simp only [stepN, ifR, maps, y4, Z.ifs, reduceIte, (show mustR S q1 Z.k45 = q2 from e2), idl f2]) f2 (gb_upd y3 x7)))) (fun w10 q2 e2 f2 x7 b8 => hR _ _ ?_))
  have zw10 := x7.size
  have tb8 := b8.lt
  obtain ⟨ok2, ok2m, ok2x, ok2y⟩ : Tr S q1 q2 := e2 ▸ musts_tr _ ok1
  have e2 : mustR S q1 Z.k45 = q2 := e2
  have kbq2 := (okB_iff q2).2 f2
  refine Z.e (wp_seq (Gx.drawE (S := fun w' => Gx.Has w' k2 (.cells #[.int .i64 11, Z.n at_, .string Z.E, .int .i64 0, (.slice A2 (Z.nl ++ [(t1, A1, c1)]).length c2 : Value)] 24)) [5] (by kernel_rfl) (fun w11 x8 => ?_)))
  have zw11 := x8.size
  have y5 := ((b6.ext x6).upd1 x7).ext x8
  refine Z.eh y5 (fun hS1 => ?_)
  refine Z.es 0 [4, 5] 0 (.agg #[.int .i64 11, Z.n at_, .string Z.E, .int .i64 0, (.slice A2 (Z.nl ++ [(t1, A1, c1)]).length c2 : Value)]) (fun _ hs => hs) hS1 ?_
  refine Z.et 1 (Z.P b 0) (fun _ => hS1) ?_
  have y6 := gb_ext (gb_upd y3 x7) x8
  have y7 := Z.a y4 (Z.a e2 kbq2)
  refine Z.eP 2 (fun R hR hE => (ih k (Nat.le_refl k)).f_expr b S q2 _ R (b8.ext x8) ok2 f2 (by omega) (fun w12 q3 e3 f3 x9 => hE _ _ (And.intro rfl (hP _ q3 (by simp only [stepN, ifR, maps, y7, Z.ifs, reduceIte, e3, idl f3]) f3 (gb_upd y6 x9)))) (fun w12 t2 A3 c3 q3 e3 f3 x9 b9 kv2 => hR _ _ ⟨(fun _ => (y5.upd1 x9)), ?_⟩))
  have zw12 := x9.size
  have tb9 := b9.lt
  have kbq3 := (okB_iff q3).2 f3
  obtain ⟨ok3, ok3m, ok3x, ok3y⟩ : Tr S q2 q3 := run_facts ok2 e3
  refine Z.eR 3 (.cells (Z.T t2 A3 c3) 24) 1 1 (fun k5 w13 l5 x10 b10 => ⟨(fun _ => ((y5.upd1 x9).ext x10)), ?_⟩)
  have zw13 := x10.size
  have tb10 := b10.lt
  have y8 := Gx.own_ext (Gx.own_upd1 (Gx.own_ext (Gx.own_upd1 (Gx.own_ext (Gx.own_upd1 ow2 u2 (fun q e => by have z := hb1 q e; omega)) x6) x7 (fun q e => by have z := hb1 q e; omega)) x8) x9 (fun q e => by have z := hb1 q e; omega)) x10
  refine Z.eK 4 (fun R hR => with_p w4.heap.size k5 1 (Z.nl ++ [(t1, A1, c1)]) [(t2, A3, c3)] A2 c2 (Z.T t2 A3 c3) (11 : Int) ((at_ : Nat) : Int) (0 : Int) Z.E _ R y8 b10 rfl (by simp only [List.length_append, List.length_cons, List.length_nil]; omega) (by omega) (fun A4 c4 w14 nk2 ow3 nl2 hnk2 g2 => hR _ _ ⟨(fun _ => (((y5.upd1 x9).ext x10).upd g2 (fun e => by have := hb1 _ e.symm; omega))), ?_⟩))
  have zw14 := g2.size
  have hb2 : ∀ j, ((.slice A4 ((Z.nl ++ [(t1, A1, c1)]) ++ [(t2, A3, c3)]).length c4 : Value) : Value).ownBlock = some j → (j = nk1 ∧ j < w7.heap.size) ∨ (j = nk2 ∧ j < w14.heap.size) := fun j e => by have l := (ow3).lt j e; rcases nl2 with q | q; (rw [q] at e; have z := hb1 j e; omega); (rw [q] at e; cases e; omega)
  have hkx2 : Z.ks (InV w4.heap.size w14.heap.size [k1, k2] (.slice A4 ((Z.nl ++ [(t1, A1, c1)]) ++ [(t2, A3, c3)]).length c4 : Value)) w14 ((Z.nl ++ [(t1, A1, c1)]) ++ [(t2, A3, c3)]) := Z.m1 (Q' := fun _ => True) (w' := w14) (fun p' h0 => (KV.topV ((((((((((hkx1 p' h0).updV u2).extV x6).updV x7).extV x8).updV x9).extV x10)).appV g2).toV nl2 (by omega)))) (KV.topV (KV.ofIn ((kv2.ext x10).app g2 (fun j e => by have z := hb1 j e; first | (left; omega) | (right; left; omega) | omega)) (fun j e => by have z := hb2 j e; first | (left; omega) | (right; omega) | omega)))
  refine Z.eSa 5 #[.int .i64 11, Z.n at_, .string Z.E, .int .i64 0, (.slice A4 ((Z.nl ++ [(t1, A1, c1)]) ++ [(t2, A3, c3)]).length c4 : Value)] (((y5.upd1 x9).ext x10).upd g2 (fun e => by have := hb1 _ e.symm; omega)) (fun w15 u3 b11 => ⟨(Gx.not_clear (by kernel_rfl)), ?_⟩)
  have zw15 := u3.size
  refine Gx.anyE_done (by kernel_rfl) ?_ _
  refine Z.x (Z.r [0, 1, 2] ?_)
  refine Z.p [0] [1, 2] [(21, Z.P b 0)] ?_
  refine Z.R (.cells #[.string Z.k46] 9) 1 1 (fun k6 w16 l6 x11 b12 zw16 tb12 => ?_)
  have y9 := gb_ext (gb_new (gb_app (gb_ext (gb_upd y6 x9) x10) g2 (fun j e => by have := (y8).lt j e; omega)) u3) x11
  refine Z.kP (fun R hR hE => need_p b S q3 [Z.k46] k6 1 _ R ((((b9.ext x10).upd g2 (fun e => by have := hb1 _ e.symm; omega)).upd1 u3).ext x11) ok3 f3 b12 (by omega) (Nat.le_of_ble_eq_true rfl) (fun w17 q4 e4 f4 x12 => hE _ _ (And.intro rfl (hP _ q4 (by simp only [stepN, ifR, maps, y7, e3, kbq3, Z.ifs, reduceIte, (show mustR S q3 Z.k46 = q4 from e4), idl f4]) f4 (gb_upd y9 x12)))) (fun w17 q4 e4 f4 x12 b13 => hR _ _ ?_))
  have zw17 := x12.size
  have tb13 := b13.lt
  obtain ⟨ok4, ok4m, ok4x, ok4y⟩ : Tr S q3 q4 := e4 ▸ musts_tr _ ok3
  have e4 : mustR S q3 Z.k46 = q4 := e4
  have kbq4 := (okB_iff q4).2 f4
  refine Z.e (wp_seq (Z.D (fun w' => Gx.Has w' k2 (.cells #[.int .i64 11, Z.n at_, .string Z.E, .int .i64 0, (.slice A4 ((Z.nl ++ [(t1, A1, c1)]) ++ [(t2, A3, c3)]).length c4 : Value)] 24)) (fun w18 x13 zw18 => ?_)))
  have y10 := ((b11.ext x11).upd1 x12).ext x13
  refine Z.h y10 (fun hS2 => ?_)
  refine Z.tl 0 0 (.agg #[.int .i64 11, Z.n at_, .string Z.E, .int .i64 0, (.slice A4 ((Z.nl ++ [(t1, A1, c1)]) ++ [(t2, A3, c3)]).length c4 : Value)]) (fun _ hs => hs) hS2 ?_
  refine Z.t 1 (Z.P b 0) hS2 ?_
  have y11 := gb_ext (gb_upd y9 x12) x13
  refine Z.oP 2 (fun R hR hE => (ih k (Nat.le_refl k)).f_expr b S q4 _ R (b13.ext x13) ok4 f4 (by omega) (fun w19 q5 e5 f5 x14 => hE _ _ (And.intro rfl (hP _ q5 (by simp only [stepN, ifR, maps, y7, e3, kbq3, e4, kbq4, Z.ifs, reduceIte, e5, idl f5]) f5 (gb_upd y11 x14)))) (fun w19 t3 A5 c5 q5 e5 f5 x14 b14 kv3 => hR _ _ ⟨(y10.upd1 x14), ?_⟩))
  have zw19 := x14.size
  have tb14 := b14.lt
  have kbq5 := (okB_iff q5).2 f5
  obtain ⟨ok5, ok5m, ok5x, ok5y⟩ : Tr S q4 q5 := run_facts ok4 e5
  refine Z.oR 3 (.cells (Z.T t3 A5 c5) 24) 1 1 (fun k7 w20 l7 x15 b15 => ⟨((y10.upd1 x14).ext x15), ?_⟩)
  have zw20 := x15.size
  have tb15 := b15.lt
  have y12 := Gx.own_ext (Gx.own_upd1 (Gx.own_ext (Gx.own_upd1 (Gx.own_ext (Gx.own_upd1 ow3 u3 (fun q e => by have z := hb2 q e; omega)) x11) x12 (fun q e => by have z := hb2 q e; omega)) x13) x14 (fun q e => by have z := hb2 q e; omega)) x15
  refine Z.o 4 (fun R hR => with_p w4.heap.size k7 1 ((Z.nl ++ [(t1, A1, c1)]) ++ [(t2, A3, c3)]) [(t3, A5, c5)] A4 c4 (Z.T t3 A5 c5) (11 : Int) ((at_ : Nat) : Int) (0 : Int) Z.E _ R y12 b15 rfl (by simp only [List.length_append, List.length_cons, List.length_nil]; omega) (by omega) (fun A6 c6 w21 nk3 ow4 nl3 hnk3 g3 => hR _ _ ⟨(((y10.upd1 x14).ext x15).upd g3 (fun e => by have := hb2 _ e.symm; omega)), fun hS3 => ?_⟩))
  have zw21 := g3.size
  have hb3 : ∀ j, ((.slice A6 (((Z.nl ++ [(t1, A1, c1)]) ++ [(t2, A3, c3)]) ++ [(t3, A5, c5)]).length c6 : Value) : Value).ownBlock = some j → (j = nk1 ∧ j < w7.heap.size) ∨ (j = nk2 ∧ j < w14.heap.size) ∨ (j = nk3 ∧ j < w21.heap.size) := fun j e => by have l := (ow4).lt j e; rcases nl3 with q | q; (rw [q] at e; have z := hb2 j e; omega); (rw [q] at e; cases e; omega)
  have hkx3 : Z.ks (InV w4.heap.size w21.heap.size [k1, k2] (.slice A6 (((Z.nl ++ [(t1, A1, c1)]) ++ [(t2, A3, c3)]) ++ [(t3, A5, c5)]).length c6 : Value)) w21 (((Z.nl ++ [(t1, A1, c1)]) ++ [(t2, A3, c3)]) ++ [(t3, A5, c5)]) := Z.m1 (Q' := fun _ => True) (w' := w21) (fun p' h0 => (KV.topV ((((((((((hkx2 p' h0).updV u3).extV x11).updV x12).extV x13).updV x14).extV x15)).appV g3).toV nl3 (by omega)))) (KV.topV (KV.ofIn ((kv3.ext x15).app g3 (fun j e => by have z := hb2 j e; first | (left; omega) | (right; left; omega) | omega)) (fun j e => by have z := hb3 j e; first | (left; omega) | (right; omega) | omega)))
  refine Z.oSa 5 #[.int .i64 11, Z.n at_, .string Z.E, .int .i64 0, (.slice A6 (((Z.nl ++ [(t1, A1, c1)]) ++ [(t2, A3, c3)]) ++ [(t3, A5, c5)]).length c6 : Value)] ((((((((((((((((((((b1.ext x2).upd1 u1).ext x3).upd1 x4).ext x5).upd g1 (fun e => by cases e)).upd1 u2).ext x6).upd1 x7).ext x8).upd1 x9).ext x10).upd g2 (fun e => by have := hb1 _ e.symm; omega)).upd1 u3).ext x11).upd1 x12).ext x13).upd1 x14).ext x15).upd g3 (fun e => by have := hb2 _ e.symm; omega)) (fun w22 u4 b16 => ⟨((((y10.upd1 x14).ext x15).upd g3 (fun e => by have := hb2 _ e.symm; omega)).upd1 u4), ?_⟩)
  have zw22 := u4.size
  refine Z.q ?_
  refine Z.x (wp_ret (Gx.ret (Gx.res_c (u := .agg #[.int .i64 11, Z.n at_, .string Z.E, .int .i64 0, (.slice A6 (((Z.nl ++ [(t1, A1, c1)]) ++ [(t2, A3, c3)]) ++ [(t3, A5, c5)]).length c6 : Value)]) rfl (by kernel_rfl) b16 (by kernel_rfl)) ?_))
  have y13 := Gx.own_upd1 ow4 u4 (fun q e => by have z := hb3 q e; omega)
  obtain ⟨A7, c7, hvkv4, kv4⟩ := KV.of_own (Q := In w4.heap.size w22.heap.size [k1, k2]) (((Z.nl ++ [(t1, A1, c1)]) ++ [(t2, A3, c3)]) ++ [(t3, A5, c5)]) y13 (fun j e => by have := (y13).lt j e; exact ⟨by omega, by omega, (by have z := hb3 j e; simp only [List.mem_cons, List.not_mem_nil, or_false, not_or]; omega)⟩) (fun p' h0 => (KV.topV ((hkx3 p' h0).updV u4)).noV)
  rw [nds_len] at hvkv4; cases hvkv4
  exact hK _ (Nd.mk 11 at_ Z.E (0 : Int) (nds (((Z.nl ++ [(t1, A1, c1)]) ++ [(t2, A3, c3)]) ++ [(t3, A5, c5)]))) A6 c6 q5 (by simp only [stepN, ifR, maps, y7, e3, kbq3, e4, kbq4, e5, kbq5, Z.ifs, reduceIte]) f5 (gb_new (gb_app (gb_ext (gb_upd y11 x14) x15) g3 (fun j e => by have := (y12).lt j e; omega)) u4) (((b14.ext x15).upd g3 (fun e => by have := hb2 _ e.symm; omega)).upd1 u4) (KV.top kv4)
def fnR (S : ByteArray) (k : Nat) (at_ : Nat) (q : Rs) : Nd × Rs := (.mk (run S k (.params Z.k1 true) q).1.k at_ (run S k (.params Z.k1 true) q).1.nm (run S k (.params Z.k1 true) q).1.n (run S k (.params Z.k1 true) q).1.ks, (run S k (.params Z.k1 true) q).2)
theorem fn_p (k : Nat) (b : Nat) (S : ByteArray) (q : Rs) (at_ : Nat) (w : World) (K : Ending → World → Prop) (ih : ∀ j, j ≤ k → SpecP j) (hb : Gx.Has w b (rdP S q)) (hok : Ok S q) (f0 : q.fk = 0) (hmu : 16 * M S q + 12 ≤ k) (hP : (PQ w b K ((fnR S k at_ q).2))) (hK : ∀ w' t A c q', fnR S k at_ q = (t, q') → q'.fk = 0 → Gx.G w w' (some b) → Gx.Has w' b (rdP S q') → KV (In w.heap.size w'.heap.size []) w' t.ks A c → K (.returned (.agg (Z.T t A c))) w') :
    Calls Tryd.prog 99 #[Z.P b 0, Z.n at_] w K := by
  refine Z.en 11 Tryd.func99 ?_
  have tbb := hb.lt
  have kbq := (okB_iff q).2 f0
  refine Z.r [0] ?_
  refine Z.N Z.c0 (fun k1 w1 l1 x1 b1 zw1 tb1 => ?_)
  refine Z.e (Z.r [0, 1, 2, 3] ?_)
  refine Z.p [0] [1, 2, 3] [(6, Z.P b 0)] ?_
  have y1 := gb_ext (gb_refl w b) x1
  refine Z.kP (fun R hR hE => (ih k (Nat.le_refl k)).f_params b S q Z.k1 _ R (hb.ext x1) hok f0 (by omega) (fun w2 q1 e1 f1 x2 => hE _ _ (And.intro rfl (hP _ q1 (by simp only [stepN, fnR, kbq, Z.ifs, reduceIte, e1, idl f1]) f1 (gb_upd y1 x2)))) (fun w2 t1 A1 c1 q1 e1 f1 x2 b2 kv1 => hR _ _ ?_))
  have zw2 := x2.size
  have tb2 := b2.lt
  have kbq1 := (okB_iff q1).2 f1
  obtain ⟨ok1, ok1m, ok1x, ok1y⟩ : Tr S q q1 := run_facts hok e1
  refine Z.N Z.c0 (fun k2 w3 l2 x3 b3 zw3 tb3 => ?_)
  refine Z.Sa (Z.T t1 A1 c1) b3 (fun w4 u1 b4 zw4 => ?_)
  refine Z.e (Z.r [0, 1, 2] ?_)
  refine Z.p [0, 1] [2] [(9, Z.P k2 1), (8, Z.n at_)] ?_
  refine Z.S 1 (Z.n at_) b4 #[Z.n t1.k, Z.n at_, .string t1.nm, .int .i64 t1.n, .slice A1 t1.ks.length c1] (fun w5 u2 b5 zw5 => ?_)
  refine Z.e (Z.r [0, 1] ?_)
  refine Z.L 0 (.agg #[Z.n t1.k, Z.n at_, .string t1.nm, .int .i64 t1.n, .slice A1 t1.ks.length c1]) b5 ?_
  refine Z.Sa #[Z.n t1.k, Z.n at_, .string t1.nm, .int .i64 t1.n, .slice A1 t1.ks.length c1] ((((b1.upd1 x2).ext x3).upd1 u1).upd1 u2) (fun w6 u3 b6 zw6 => ?_)
  refine Z.e (wp_ret (Gx.ret (Gx.res_c (u := .agg #[Z.n t1.k, Z.n at_, .string t1.nm, .int .i64 t1.n, .slice A1 t1.ks.length c1]) rfl (by kernel_rfl) b6 (by kernel_rfl)) ?_))
  exact hK _ (Nd.mk t1.k at_ t1.nm t1.n t1.ks) A1 c1 q1 (by simp only [fnR, kbq, e1, kbq1, Z.ifs, reduceIte]) f1 (gb_new (gb_new (gb_new (gb_ext (gb_upd y1 x2) x3) u1) u2) u3) ((((b2.ext x3).upd1 u1).upd1 u2).upd1 u3) (KV.top ((((kv1.ext x3).upd u1).upd u2).upd u3))
end Par
end Go.Proofs.YtinilkomfggjiaaDoor
