/- The walks, written by a program of ours (wip/gx/gx.py, parsegen.py). -/
import Derived.Test.YtinilkomfggjiaaDoorRows
import Derived.Test.YtinilkomfggjiaaDoorGs
import Derived.Test.YtinilkomfggjiaaDoorGp
import Derived.Test.YtinilkomfggjiaaDoorZs
import Derived.Test.YtinilkomfggjiaaDoorLexWalks4
import Derived.Test.YtinilkomfggjiaaDoorParWalks5
set_option linter.unusedVariables false
set_option linter.unusedSimpArgs false
set_option maxHeartbeats 4000000
set_option maxRecDepth 20000
namespace Go.Proofs.YtinilkomfggjiaaDoor
namespace Par
open Go.RowKit Go.Lex Go.Syn
attribute [local irreducible] Go.wpOps Go.Code.wp Go.wpOp Go.wpAnyH Go.Calls
theorem handle_p (k : Nat) (b : Nat) (S : ByteArray) (q : Rs) (at_ : Nat) (w : World) (K : Ending → World → Prop) (ih : ∀ j, j ≤ k → SpecP j) (hb : Gx.Has w b (rdP S q)) (hok : Ok S q) (f0 : q.fk = 0) (hmu : 16 * M S q + 11 ≤ k) (hP : (PQ w b K ((handT S (run S k) at_ 0 q).2))) (hK : ∀ w' t A c q', handT S (run S k) at_ 0 q = (t, q') → q'.fk = 0 → Gx.G w w' (some b) → Gx.Has w' b (rdP S q') → KV (In w.heap.size w'.heap.size []) w' t.ks A c → K (.returned (.agg (Z.T t A c))) w') :
    Calls Tryd.prog 102 #[Z.P b 0, Z.n at_] w K := by
  refine Z.en 70 Tryd.func102 ?_
  have tbb := hb.lt
  have kbq := (okB_iff q).2 f0
  refine Z.r [0] ?_
  refine Z.N Z.c0 (fun k1 w1 l1 x1 b1 zw1 tb1 => ?_)
  refine Z.e (Z.r [0, 1, 2, 3, 4, 5, 6, 7] ?_)
  refine Z.p [0, 1, 2] [3, 4, 5, 6, 7] [(11, Z.P b 0), (10, .agg #[.int .i64 20, Z.n at_, .string Z.E, .int .i64 0, .slice none 0 0]), (9, Z.n at_)] ?_
  have y1 := gb_ext (gb_refl w b) x1
  refine Z.kP (fun R hR hE => (ih k (Nat.le_refl k)).f_expr b S q _ R (hb.ext x1) hok f0 (by omega) (fun w2 q1 e1 f1 x2 => hE _ _ (And.intro rfl (hP _ q1 (by simp only [stepN, handT, Nd.ks, maps, kbq, Z.ifs, reduceIte, e1, idl f1]) f1 (gb_upd y1 x2)))) (fun w2 t1 A1 c1 q1 e1 f1 x2 b2 kv1 => hR _ _ ?_))
  have zw2 := x2.size
  have tb2 := b2.lt
  have kbq1 := (okB_iff q1).2 f1
  obtain ⟨ok1, ok1m, ok1x, ok1y⟩ : Tr S q q1 := run_facts hok e1
  refine Z.R (.cells (Z.T t1 A1 c1) 24) 1 1 (fun k2 w3 l2 x3 b3 zw3 tb3 => ?_)
  have ow1 : w3.ownsRow w1.heap.size 24 5 (.slice none 0 0) Z.nl.length (flat Z.nl) := ⟨by simp [flat], .inl ⟨rfl, rfl⟩⟩
  refine Z.k (fun R hR => with_p w1.heap.size k2 1 Z.nl [(t1, A1, c1)] none 0 (Z.T t1 A1 c1) (20 : Int) ((at_ : Nat) : Int) (0 : Int) Z.E _ R ow1 b3 rfl (by simp only [List.length_append, List.length_cons, List.length_nil]; omega) (by omega) (fun A2 c2 w4 nk1 ow2 nl1 hnk1 g1 => hR _ _ ?_))
  have zw4 := g1.size
  have hb1 : ∀ j, ((.slice A2 (Z.nl ++ [(t1, A1, c1)]).length c2 : Value) : Value).ownBlock = some j → (j = nk1 ∧ j < w4.heap.size) := fun j e => by have l := (ow2).lt j e; rcases nl1 with q | q; (rw [q] at e; cases e); (rw [q] at e; cases e; omega)
  have hkx1 : Z.ks (InV w1.heap.size w4.heap.size [k1] (.slice A2 (Z.nl ++ [(t1, A1, c1)]).length c2 : Value)) w4 (Z.nl ++ [(t1, A1, c1)]) := Z.m0 (KV.topV (KV.ofIn ((kv1.ext x3).app g1 (fun j e => by cases e)) (fun j e => by have z := hb1 j e; first | (left; omega) | (right; omega) | omega)))
  refine Z.N Z.c0 (fun k3 w5 l3 x4 b4 zw5 tb4 => ?_)
  refine Z.Sa #[.int .i64 20, Z.n at_, .string Z.E, .int .i64 0, (.slice A2 (Z.nl ++ [(t1, A1, c1)]).length c2 : Value)] b4 (fun w6 u1 b5 zw6 => ?_)
  refine Z.e (Z.r [0, 1, 2] ?_)
  refine Z.p [0] [1, 2] [(15, Z.P b 0)] ?_
  refine Z.R (.cells #[.string Z.k34, .string Z.k20] 9) 2 2 (fun k4 w7 l4 x5 b6 zw7 tb6 => ?_)
  have y2 := gb_ext (gb_new (gb_ext (gb_app (gb_ext (gb_upd y1 x2) x3) g1 (fun j e => by have := (ow1).lt j e; omega)) x4) u1) x5
  have y3 := Z.a kbq (Z.a e1 kbq1)
  refine Z.kP (fun R hR hE => need_p b S q1 [Z.k34, Z.k20] k4 2 _ R (((((b2.ext x3).upd g1 (fun e => by cases e)).ext x4).upd1 u1).ext x5) ok1 f1 b6 (by omega) (Nat.le_of_ble_eq_true rfl) (fun w8 q2 e2 f2 x6 => hE _ _ (And.intro rfl (hP _ q2 (by simp only [stepN, handT, Nd.ks, maps, y3, Z.ifs, reduceIte, (show mustR S (mustR S q1 Z.k34) Z.k20 = q2 from e2), idl f2]) f2 (gb_upd y2 x6)))) (fun w8 q2 e2 f2 x6 b7 => hR _ _ ?_))
  have zw8 := x6.size
  have tb7 := b7.lt
  obtain ⟨ok2, ok2m, ok2x, ok2y⟩ : Tr S q1 q2 := e2 ▸ musts_tr _ ok1
  have e2 : mustR S (mustR S q1 Z.k34) Z.k20 = q2 := e2
  have kbq2 := (okB_iff q2).2 f2
  refine Z.e (Z.r [0, 1, 2, 3, 4, 5] ?_)
  refine Z.p [0, 1, 2, 3] [4, 5] [(21, Z.P b 2), (20, Z.P b 1), (19, Z.P b 0), (18, Z.P b 0)] ?_
  refine Z.L 2 (Z.n q2.a) b7 ?_
  refine Z.p [5] [] [(6, Z.n q2.a)] ?_
  refine Z.e (Z.r [0, 1, 2] ?_)
  refine Z.p [0] [1, 2] [(23, Z.P b 0)] ?_
  refine Z.R (.cells #[.string Z.k35] 9) 1 1 (fun k5 w9 l5 x7 b8 zw9 tb8 => ?_)
  have y4 := gb_ext (gb_upd y2 x6) x7
  have y5 := Z.a y3 (Z.a e2 kbq2)
  refine Z.kP (fun R hR hE => need_p b S q2 [Z.k35] k5 1 _ R (b7.ext x7) ok2 f2 b8 (by omega) (Nat.le_of_ble_eq_true rfl) (fun w10 q3 e3 f3 x8 => hE _ _ (And.intro rfl (hP _ q3 (by simp only [stepN, handT, Nd.ks, maps, y5, Z.ifs, reduceIte, (show mustR S q2 Z.k35 = q3 from e3), idl f3]) f3 (gb_upd y4 x8)))) (fun w10 q3 e3 f3 x8 b9 => hR _ _ ?_))
  have zw10 := x8.size
  have tb9 := b9.lt
  obtain ⟨ok3, ok3m, ok3x, ok3y⟩ : Tr S q2 q3 := e3 ▸ musts_tr _ ok2
  have e3 : mustR S q2 Z.k35 = q3 := e3
  have kbq3 := (okB_iff q3).2 f3
  refine Z.e (Z.r [0, 1, 2, 3] ?_)
  refine Z.p [0] [1, 2, 3] [(26, Z.P b 0)] ?_
  have y6 := Z.a y5 (Z.a e3 kbq3)
  refine Z.kP (fun R hR hE => named_p b S q3 (21 : Int) _ R b9 ok3 f3 (fun w11 q4 e4 f4 x9 => hE _ _ (And.intro rfl (hP _ q4 (by simp only [stepN, handT, Nd.ks, maps, y6, Z.ifs, reduceIte, e4, idl f4]) f4 (gb_upd (gb_upd y4 x8) x9)))) (fun w11 q4 e4 f4 x9 b10 => hR _ _ ?_))
  have zw11 := x9.size
  have tb10 := b10.lt
  have kbq4 := (okB_iff q4).2 f4
  obtain ⟨ok4, ok4m, ok4x, ok4y⟩ : Tr S q3 q4 := by have := name_tr ok3; rw [e4] at this; exact this
  have ok4l : M S q4 < M S q3 := by have := name_lt ok3 (by rw [e4]; exact kbq4); rw [e4] at this; exact this
  refine Z.N Z.c0 (fun k6 w12 l6 x10 b11 zw12 tb11 => ?_)
  refine Z.Sa #[.int .i64 21, Z.n q3.a, .string q3.t, .int .i64 0, .slice none 0 0] b11 (fun w13 u2 b12 zw13 => ?_)
  refine Z.e (Z.r [0, 1, 2] ?_)
  refine Z.p [0, 1] [2] [(29, Z.P k6 1), (28, Z.n q2.a)] ?_
  refine Z.S 1 (Z.n q2.a) b12 #[.int .i64 21, Z.n q2.a, .string q3.t, .int .i64 0, .slice none 0 0] (fun w14 u3 b13 zw14 => ?_)
  refine Z.e (Z.r [0, 1, 2] ?_)
  refine Z.p [0] [1, 2] [(30, Z.P b 0)] ?_
  refine Z.R (.cells #[.string Z.k1] 9) 1 1 (fun k7 w15 l7 x11 b14 zw15 tb14 => ?_)
  have y7 := gb_ext (gb_new (gb_new (gb_ext (gb_upd (gb_upd y4 x8) x9) x10) u2) u3) x11
  have y8 := Z.a y6 (Z.a e4 kbq4)
  refine Z.kP (fun R hR hE => need_p b S q4 [Z.k1] k7 1 _ R ((((b10.ext x10).upd1 u2).upd1 u3).ext x11) ok4 f4 b14 (by omega) (Nat.le_of_ble_eq_true rfl) (fun w16 q5 e5 f5 x12 => hE _ _ (And.intro rfl (hP _ q5 (by simp only [stepN, handT, Nd.ks, maps, y8, Z.ifs, reduceIte, (show mustR S q4 Z.k1 = q5 from e5), idl f5]) f5 (gb_upd y7 x12)))) (fun w16 q5 e5 f5 x12 b15 => hR _ _ ?_))
  have zw16 := x12.size
  have tb15 := b15.lt
  obtain ⟨ok5, ok5m, ok5x, ok5y⟩ : Tr S q4 q5 := e5 ▸ musts_tr _ ok4
  have e5 : mustR S q4 Z.k1 = q5 := e5
  have kbq5 := (okB_iff q5).2 f5
  refine Z.e (wp_seq (Gx.drawE (S := fun w' => Gx.Has w' k3 (.cells #[.int .i64 20, Z.n at_, .string Z.E, .int .i64 0, (.slice A2 (Z.nl ++ [(t1, A1, c1)]).length c2 : Value)] 24) ∧ Gx.Has w' k6 (.cells #[.int .i64 21, Z.n q2.a, .string q3.t, .int .i64 0, .slice none 0 0] 24)) [8] (by kernel_rfl) (fun w17 x13 => ?_)))
  have zw17 := x13.size
  have y9 := ((((((((((b5.ext x5).upd1 x6).ext x7).upd1 x8).upd1 x9).ext x10).upd1 u2).upd1 u3).ext x11).upd1 x12).ext x13
  have y10 := ((b13.ext x11).upd1 x12).ext x13
  refine Z.eh ⟨y9, y10⟩ (fun hS1 => ?_)
  refine Z.es 0 [7, 8] 0 (.agg #[.int .i64 20, Z.n at_, .string Z.E, .int .i64 0, (.slice A2 (Z.nl ++ [(t1, A1, c1)]).length c2 : Value)]) (fun _ hs => hs.1) hS1 ?_
  refine Z.es 1 [5, 6, 7, 8] 0 (.agg #[.int .i64 21, Z.n q2.a, .string q3.t, .int .i64 0, .slice none 0 0]) (fun _ hs => hs.2) hS1 ?_
  refine Z.et 2 (Z.P b 0) (fun _ => hS1) ?_
  have y11 := gb_ext (gb_upd y7 x12) x13
  have y12 := Z.a y8 (Z.a e5 kbq5)
  refine Z.eP 3 (fun R hR hE => (ih k (Nat.le_refl k)).f_expr b S q5 _ R (b15.ext x13) ok5 f5 (by omega) (fun w18 q6 e6 f6 x14 => hE _ _ (And.intro rfl (hP _ q6 (by simp only [stepN, handT, Nd.ks, maps, y12, Z.ifs, reduceIte, e6, idl f6]) f6 (gb_upd y11 x14)))) (fun w18 t2 A3 c3 q6 e6 f6 x14 b16 kv2 => hR _ _ ⟨(fun _ => ⟨(y9.upd1 x14), (y10.upd1 x14)⟩), ?_⟩))
  have zw18 := x14.size
  have tb16 := b16.lt
  have kbq6 := (okB_iff q6).2 f6
  obtain ⟨ok6, ok6m, ok6x, ok6y⟩ : Tr S q5 q6 := run_facts ok5 e6
  refine Z.eR 4 (.cells (Z.T t2 A3 c3) 24) 1 1 (fun k8 w19 l8 x15 b17 => ⟨(fun _ => ⟨((y9.upd1 x14).ext x15), ((y10.upd1 x14).ext x15)⟩), ?_⟩)
  have zw19 := x15.size
  have tb17 := b17.lt
  have ow3 : w19.ownsRow w17.heap.size 24 5 (.slice none 0 0) Z.nl.length (flat Z.nl) := ⟨by simp [flat], .inl ⟨rfl, rfl⟩⟩
  refine Z.eK 5 (fun R hR => with_p w17.heap.size k8 1 Z.nl [(t2, A3, c3)] none 0 (Z.T t2 A3 c3) (21 : Int) ((q2.a : Nat) : Int) (0 : Int) q3.t _ R ow3 b17 rfl (by simp only [List.length_append, List.length_cons, List.length_nil]; omega) (by omega) (fun A4 c4 w20 nk2 ow4 nl2 hnk2 g2 => hR _ _ ⟨(fun _ => ⟨(((y9.upd1 x14).ext x15).upd g2 (fun e => by cases e)), (((y10.upd1 x14).ext x15).upd g2 (fun e => by cases e))⟩), ?_⟩))
  have zw20 := g2.size
  have hb2 : ∀ j, ((.slice A4 (Z.nl ++ [(t2, A3, c3)]).length c4 : Value) : Value).ownBlock = some j → (j = nk2 ∧ j < w20.heap.size) := fun j e => by have l := (ow4).lt j e; rcases nl2 with q | q; (rw [q] at e; cases e); (rw [q] at e; cases e; omega)
  have hkx2 : Z.ks (InV w17.heap.size w20.heap.size [k1, k3, k6] (.slice A4 (Z.nl ++ [(t2, A3, c3)]).length c4 : Value)) w20 (Z.nl ++ [(t2, A3, c3)]) := Z.m0 (KV.topV (KV.ofIn ((kv2.ext x15).app g2 (fun j e => by cases e)) (fun j e => by have z := hb2 j e; first | (left; omega) | (right; omega) | omega)))
  refine Z.eR 6 (.cells #[.int .i64 21, Z.n q2.a, .string q3.t, .int .i64 0, (.slice A4 (Z.nl ++ [(t2, A3, c3)]).length c4 : Value)] 24) 1 1 (fun k9 w21 l9 x16 b18 => ⟨(fun _ => ⟨((((y9.upd1 x14).ext x15).upd g2 (fun e => by cases e)).ext x16), ((((y10.upd1 x14).ext x15).upd g2 (fun e => by cases e)).ext x16)⟩), ?_⟩)
  have zw21 := x16.size
  have tb18 := b18.lt
  obtain ⟨A5, c5, hvkv3, kv3⟩ := KV.of_own (Q := In w17.heap.size w21.heap.size [k1, k3, k6]) (Z.nl ++ [(t2, A3, c3)]) (Gx.own_ext ow4 x16) (fun j e => by have := ((Gx.own_ext ow4 x16)).lt j e; exact ⟨by omega, by omega, (by have z := hb2 j e; simp only [List.mem_cons, List.not_mem_nil, or_false, not_or]; omega)⟩) (fun p' h0 => (KV.topV ((hkx2 p' h0).extV x16)).noV)
  rw [nds_len] at hvkv3; cases hvkv3
  have y13 := Gx.own_ext (Gx.own_updr (Gx.own_ext (Gx.own_upd1 (Gx.own_ext (Gx.own_upd1 (Gx.own_ext (Gx.own_upd1 (Gx.own_upd1 (Gx.own_ext (Gx.own_upd1 (Gx.own_upd1 (Gx.own_ext (Gx.own_upd1 (Gx.own_ext (Gx.own_upd1 (Gx.own_ext ow2 x4) u1 (fun q e => by have z := hb1 q e; omega)) x5) x6 (fun q e => by have z := hb1 q e; omega)) x7) x8 (fun q e => by have z := hb1 q e; omega)) x9 (fun q e => by have z := hb1 q e; omega)) x10) u2 (fun q e => by have z := hb1 q e; omega)) u3 (fun q e => by have z := hb1 q e; omega)) x11) x12 (fun q e => by have z := hb1 q e; omega)) x13) x14 (fun q e => by have z := hb1 q e; omega)) x15) g2 (fun q e j e' => by have z := hb1 q e; have := (ow3).lt j e'; omega)) x16
  refine Z.eK 7 (fun R hR => with_p w1.heap.size k9 1 (Z.nl ++ [(t1, A1, c1)]) [((Nd.mk 21 q2.a q3.t (0 : Int) (nds (Z.nl ++ [(t2, A3, c3)]))), A4, c4)] A2 c2 #[.int .i64 21, Z.n q2.a, .string q3.t, .int .i64 0, .slice A4 ((Z.nl ++ [(t2, A3, c3)]).length) c4] (20 : Int) ((at_ : Nat) : Int) (0 : Int) Z.E _ R y13 b18 rfl (by simp only [List.length_append, List.length_cons, List.length_nil]; omega) (by omega) (fun A6 c6 w22 nk3 ow5 nl3 hnk3 g3 => hR _ _ ⟨(fun _ => ⟨(((((y9.upd1 x14).ext x15).upd g2 (fun e => by cases e)).ext x16).upd g3 (fun e => by have := hb1 _ e.symm; omega)), (((((y10.upd1 x14).ext x15).upd g2 (fun e => by cases e)).ext x16).upd g3 (fun e => by have := hb1 _ e.symm; omega))⟩), ?_⟩))
  have zw22 := g3.size
  have hb3 : ∀ j, ((.slice A6 ((Z.nl ++ [(t1, A1, c1)]) ++ [((Nd.mk 21 q2.a q3.t (0 : Int) (nds (Z.nl ++ [(t2, A3, c3)]))), A4, c4)]).length c6 : Value) : Value).ownBlock = some j → (j = nk1 ∧ j < w4.heap.size) ∨ (j = nk3 ∧ j < w22.heap.size) := fun j e => by have l := (ow5).lt j e; rcases nl3 with q | q; (rw [q] at e; have z := hb1 j e; omega); (rw [q] at e; cases e; omega)
  have hkx3 : Z.ks (InV w1.heap.size w22.heap.size [k1, k3, k6] (.slice A6 ((Z.nl ++ [(t1, A1, c1)]) ++ [((Nd.mk 21 q2.a q3.t (0 : Int) (nds (Z.nl ++ [(t2, A3, c3)]))), A4, c4)]).length c6 : Value)) w22 ((Z.nl ++ [(t1, A1, c1)]) ++ [((Nd.mk 21 q2.a q3.t (0 : Int) (nds (Z.nl ++ [(t2, A3, c3)]))), A4, c4)]) := Z.m1 (Q' := fun _ => True) (w' := w22) (fun p' h0 => (KV.topV (((((((((((((((((((((hkx1 p' h0).extV x4).updV u1).extV x5).updV x6).extV x7).updV x8).updV x9).extV x10).updV u2).updV u3).extV x11).updV x12).extV x13).updV x14).extV x15).otherV g2 (fun j e => by have := (ow3).lt j e; first | (left; omega) | (right; omega))).extV x16)).appV g3).toV nl3 (by omega)))) (KV.topV (KV.ofIn (kv3.app g3 (fun j e => by have z := hb1 j e; first | (left; omega) | (right; left; omega) | omega)) (fun j e => by have z := hb3 j e; first | (left; omega) | (right; omega) | omega)))
  refine Z.eSa 8 #[.int .i64 20, Z.n at_, .string Z.E, .int .i64 0, (.slice A6 ((Z.nl ++ [(t1, A1, c1)]) ++ [((Nd.mk 21 q2.a q3.t (0 : Int) (nds (Z.nl ++ [(t2, A3, c3)]))), A4, c4)]).length c6 : Value)] (((((y9.upd1 x14).ext x15).upd g2 (fun e => by cases e)).ext x16).upd g3 (fun e => by have := hb1 _ e.symm; omega)) (fun w23 u4 b19 => ⟨(Gx.not_clear (by kernel_rfl)), ?_⟩)
  have zw23 := u4.size
  refine Gx.anyE_done (by kernel_rfl) ?_ _
  refine Z.x (wp_seq (wp_block ?_))
  have hbz : w1.heap.size ≤ w23.heap.size := by omega
  refine Gx.loop (n' := 70) (d' := []) (fun mz l' w' => ∃ (j : Nat) (p : Rs) (A : Option Addr) (c : Nat) (L : List (Nd × Option Addr × Nat)), l' = [(0, Z.P b 0), (4, Z.P k1 0), (5, Z.P k3 0)] ∧ mz = M S p ∧ Gx.G w w' (some b) ∧ Gx.Has w' b (.cells #[.string S, Z.n p.k, Z.n p.a, .string p.t, Z.n p.n, Z.n p.e, Z.n p.x, Z.n p.y] 54) ∧ Gx.Has w' k1 Z.c0 ∧ Gx.Has w' k3 (.cells #[.int .i64 20, Z.n at_, .string Z.E, .int .i64 0, (.slice A L.length c : Value)] 24) ∧ (j ≤ k) ∧ (16 * M S p + 12 ≤ j) ∧ (run S j (.handL (nds L)) p = run S k (.handL (nds ((Z.nl ++ [(t1, A1, c1)]) ++ [((Nd.mk 21 q2.a q3.t (0 : Int) (nds (Z.nl ++ [(t2, A3, c3)]))), A4, c4)]))) q6) ∧ (Ok S p) ∧ (w'.ownsRow w1.heap.size 24 5 (.slice A L.length c : Value) L.length (flat L)) ∧ (∀ p' ∈ L, KV (InV w1.heap.size w'.heap.size [k1, k3] (.slice A L.length c : Value)) w' p'.1.ks p'.2.1 p'.2.2) ∧ (L.length + M S p ≤ 4000) ∧ (M S p ≤ M S q6) ∧ (p.x = q6.x ∧ p.y = q6.y) ∧ (w1.heap.size ≤ w'.heap.size) ∧ (p.fk = 0) ∧ (∀ j, (.slice A L.length c : Value).ownBlock = some j → w1.heap.size ≤ j ∧ j ≠ k1 ∧ j ≠ k3)) _ _ [(0, Z.P b 0), (4, Z.P k1 0), (5, Z.P k3 0)] (Gx.forget [(0, Z.P b 0), (4, Z.P k1 0), (5, Z.P k3 0)] (by kernel_rfl)) ⟨k, q6, A6, c6, ((Z.nl ++ [(t1, A1, c1)]) ++ [((Nd.mk 21 q2.a q3.t (0 : Int) (nds (Z.nl ++ [(t2, A3, c3)]))), A4, c4)]), rfl, rfl, (gb_new (gb_app (gb_ext (gb_app (gb_ext (gb_upd y11 x14) x15) g2 (fun j e => by have := (ow3).lt j e; omega)) x16) g3 (fun j e => by have := (y13).lt j e; omega)) u4), (((((b16.ext x15).upd g2 (fun e => by cases e)).ext x16).upd g3 (fun e => by have := hb1 _ e.symm; omega)).upd1 u4), ((((((((((((((((((((((b1.upd1 x2).ext x3).upd g1 (fun e => by cases e)).ext x4).upd1 u1).ext x5).upd1 x6).ext x7).upd1 x8).upd1 x9).ext x10).upd1 u2).upd1 u3).ext x11).upd1 x12).ext x13).upd1 x14).ext x15).upd g2 (fun e => by cases e)).ext x16).upd g3 (fun e => by have := hb1 _ e.symm; omega)).upd1 u4), b19, (by omega), (by omega), rfl, ok6, (Gx.own_upd1 ow5 u4 (fun q e => by have z := hb3 q e; omega)), (fun p' h0 => KV.topV ((hkx3 p' h0).updV u4)), (by have := M_le ok6; simp only [List.length_append, List.length_cons, List.length_nil]; omega), (Nat.le_refl _), ⟨rfl, rfl⟩, (by omega), f6, (fun j e => by have z := hb3 j e; omega)⟩ (fun bb1 m1 ll1 w24 hI1 K1 hK1 => ?_)
  obtain ⟨j, p, A, c, L, rfl, rfl, x17, b20, b21, b22, hj, hm, hr, ho, how, hks, hlen, hM, hxy, hbs, hf, hnx⟩ := hI1
  have zw24 := x17.size
  have tb20 := b20.lt
  have tb21 := b21.lt
  have tb22 := b22.lt
  have hbl : ∀ j, (.slice A L.length c : Value).ownBlock = some j → (w1.heap.size ≤ j ∧ j < w24.heap.size ∧ j ≠ k1 ∧ j ≠ k3) := fun j e => by have z := how.lt j e; have z' := hnx j e; omega
  obtain ⟨i, rfl⟩ : ∃ i, j = i + 1 := ⟨j - 1, by omega⟩
  have kbp := (okB_iff p).2 hf
  refine wp_seq (Z.r [0, 1] ?_)
  refine Z.p [0] [1] [(41, Z.P b 0)] ?_
  have y14 := gb_upd (gb_refl w b) x17
  have y15 := Z.a y12 (Z.a e6 kbq6)
  refine Z.kP (fun R hR hE => eat_p b S p Z.k24 _ R b20 ho hf (fun w25 q7 e7 f7 x18 => hE _ _ (And.intro rfl (hP _ q7 (by have zl : (run S k (.handL (nds ((Z.nl ++ [(t1, A1, c1)]) ++ [((Nd.mk 21 q2.a q3.t (0 : Int) (nds (Z.nl ++ [(t2, A3, c3)]))), A4, c4)]))) q6).2 = q7 := (by rw [← hr]; simp only [run_succ, stepN, handLS, kbp, Z.ifs, reduceIte, e7, has_pan e7 f7 hf, idl f7]); (try simp only [maps] at zl); simp only [stepN, handT, Nd.ks, maps, y15, Z.ifs, reduceIte, zl, idl f7]) f7 (gb_upd y14 x18)))) (fun w25 q7 e7 f7 x18 b23 => hR _ _ ?_))
  have zw25 := x18.size
  have tb23 := b23.lt
  obtain ⟨ok7, ok7m, ok7x, ok7y⟩ : Tr S p q7 := e7 ▸ has_tr ho
  have kbq7 := (okB_iff q7).2 f7
  refine Z.e (Z.c (isB p Z.k24) (fun h_c42 => ?_) (fun h_c42 => ?_))
  · skip
    refine wp_skip (Z.x (wp_block (Z.r [0, 1, 2, 3] ?_)))
    refine Z.p [0] [1, 2, 3] [(43, Z.P b 0)] ?_
    have lt1 := (Z.lt ho h_c42 e7)
    have y16 := Z.a kbp (Z.a e7 kbq7)
    refine Z.kP (fun R hR hE => named_p b S q7 (22 : Int) _ R b23 ok7 f7 (fun w26 q8 e8 f8 x19 => hE _ _ (And.intro rfl (hP _ q8 (by have zl : (run S k (.handL (nds ((Z.nl ++ [(t1, A1, c1)]) ++ [((Nd.mk 21 q2.a q3.t (0 : Int) (nds (Z.nl ++ [(t2, A3, c3)]))), A4, c4)]))) q6).2 = q8 := (by rw [← hr]; simp only [run_succ, stepN, handLS, y16, h_c42, Z.ifs, reduceIte, e8, idl f8]); (try simp only [maps] at zl); simp only [stepN, handT, Nd.ks, maps, y15, h_c42, Z.ifs, reduceIte, zl, idl f8]) f8 (gb_upd (gb_upd y14 x18) x19)))) (fun w26 q8 e8 f8 x19 b24 => hR _ _ ?_))
    have zw26 := x19.size
    have tb24 := b24.lt
    have kbq8 := (okB_iff q8).2 f8
    obtain ⟨ok8, ok8m, ok8x, ok8y⟩ : Tr S q7 q8 := by have := name_tr ok7; rw [e8] at this; exact this
    have ok8l : M S q8 < M S q7 := by have := name_lt ok7 (by rw [e8]; exact kbq8); rw [e8] at this; exact this
    refine Z.N Z.c0 (fun k10 w27 l10 x20 b25 zw27 tb25 => ?_)
    refine Z.Sa #[.int .i64 22, Z.n q7.a, .string q7.t, .int .i64 0, .slice none 0 0] b25 (fun w28 u5 b26 zw28 => ?_)
    refine Z.e (wp_seq (Gx.drawE (S := fun w' => Gx.Has w' k10 (.cells #[.int .i64 22, Z.n q7.a, .string q7.t, .int .i64 0, .slice none 0 0] 24)) [5] (by kernel_rfl) (fun w29 x21 => ?_)))
    have zw29 := x21.size
    refine Z.eh (b26.ext x21) (fun hS2 => ?_)
    refine Z.es 0 [4, 5] 0 (.agg #[.int .i64 22, Z.n q7.a, .string q7.t, .int .i64 0, .slice none 0 0]) (fun _ hs => hs) hS2 ?_
    refine Z.et 1 (Z.P b 0) (fun _ => hS2) ?_
    have y17 := gb_ext (gb_new (gb_ext (gb_upd (gb_upd y14 x18) x19) x20) u5) x21
    have y18 := Z.a y16 (Z.a e8 kbq8)
    refine Z.eP 2 (fun R hR hE => named_p b S q8 (23 : Int) _ R (((b24.ext x20).upd1 u5).ext x21) ok8 f8 (fun w30 q9 e9 f9 x22 => hE _ _ (And.intro rfl (hP _ q9 (by have zl : (run S k (.handL (nds ((Z.nl ++ [(t1, A1, c1)]) ++ [((Nd.mk 21 q2.a q3.t (0 : Int) (nds (Z.nl ++ [(t2, A3, c3)]))), A4, c4)]))) q6).2 = q9 := (by rw [← hr]; simp only [run_succ, stepN, handLS, y18, h_c42, Z.ifs, reduceIte, e9, idl f9]); (try simp only [maps] at zl); simp only [stepN, handT, Nd.ks, maps, y15, h_c42, Z.ifs, reduceIte, zl, idl f9]) f9 (gb_upd y17 x22)))) (fun w30 q9 e9 f9 x22 b27 => hR _ _ ⟨(fun _ => ((b26.ext x21).upd1 x22)), ?_⟩))
    have zw30 := x22.size
    have tb27 := b27.lt
    have kbq9 := (okB_iff q9).2 f9
    obtain ⟨ok9, ok9m, ok9x, ok9y⟩ : Tr S q8 q9 := by have := name_tr ok8; rw [e9] at this; exact this
    have ok9l : M S q9 < M S q8 := by have := name_lt ok8 (by rw [e9]; exact kbq9); rw [e9] at this; exact this
    have y19 := (b26.ext x21).upd1 x22
    refine Z.eR 3 (.cells #[.int .i64 23, Z.n q8.a, .string q8.t, .int .i64 0, .slice none 0 0] 24) 1 1 (fun k11 w31 l11 x23 b28 => ⟨(fun _ => (y19.ext x23)), ?_⟩)
    have zw31 := x23.size
    have tb28 := b28.lt
    have ow6 : w31.ownsRow w31.heap.size 24 5 (.slice none 0 0) Z.nl.length (flat Z.nl) := ⟨by simp [flat], .inl ⟨rfl, rfl⟩⟩
    refine Z.eK 4 (fun R hR => with_p w31.heap.size k11 1 Z.nl [((Nd.mk 23 q8.a q8.t (0 : Int) []), none, 0)] none 0 #[.int .i64 23, Z.n q8.a, .string q8.t, .int .i64 0, .slice none 0 0] (22 : Int) ((q7.a : Nat) : Int) (0 : Int) q7.t _ R ow6 b28 rfl (by simp only [List.length_append, List.length_cons, List.length_nil]; omega) (by omega) (fun A7 c7 w32 nk4 ow7 nl4 hnk4 g4 => hR _ _ ⟨(fun _ => ((y19.ext x23).upd g4 (fun e => by cases e))), ?_⟩))
    have zw32 := g4.size
    have hb4 : ∀ j, ((.slice A7 (Z.nl ++ [((Nd.mk 23 q8.a q8.t (0 : Int) []), none, 0)]).length c7 : Value) : Value).ownBlock = some j → (j = nk4 ∧ j < w32.heap.size) := fun j e => by have l := (ow7).lt j e; rcases nl4 with q | q; (rw [q] at e; cases e); (rw [q] at e; cases e; omega)
    have hkx4 : Z.ks (InV w31.heap.size w32.heap.size [k1, k3, k10] (.slice A7 (Z.nl ++ [((Nd.mk 23 q8.a q8.t (0 : Int) []), none, 0)]).length c7 : Value)) w32 (Z.nl ++ [((Nd.mk 23 q8.a q8.t (0 : Int) []), none, 0)]) := Z.m0 KV.nil
    refine Z.eSa 5 #[.int .i64 22, Z.n q7.a, .string q7.t, .int .i64 0, (.slice A7 (Z.nl ++ [((Nd.mk 23 q8.a q8.t (0 : Int) []), none, 0)]).length c7 : Value)] ((y19.ext x23).upd g4 (fun e => by cases e)) (fun w33 u6 b29 => ⟨(Gx.not_clear (by kernel_rfl)), ?_⟩)
    have zw33 := u6.size
    refine Gx.anyE_done (by kernel_rfl) ?_ _
    refine Z.x (wp_seq (Gx.drawE (S := fun w' => Gx.Has w' k10 (.cells #[.int .i64 22, Z.n q7.a, .string q7.t, .int .i64 0, (.slice A7 (Z.nl ++ [((Nd.mk 23 q8.a q8.t (0 : Int) []), none, 0)]).length c7 : Value)] 24)) [5] (by kernel_rfl) (fun w34 x24 => ?_)))
    have zw34 := x24.size
    refine Z.eh (b29.ext x24) (fun hS3 => ?_)
    refine Z.es 0 [4, 5] 0 (.agg #[.int .i64 22, Z.n q7.a, .string q7.t, .int .i64 0, (.slice A7 (Z.nl ++ [((Nd.mk 23 q8.a q8.t (0 : Int) []), none, 0)]).length c7 : Value)]) (fun _ hs => hs) hS3 ?_
    refine Z.et 1 (Z.P b 0) (fun _ => hS3) ?_
    have y20 := gb_ext (gb_new (gb_app (gb_ext (gb_upd y17 x22) x23) g4 (fun j e => by have := (ow6).lt j e; omega)) u6) x24
    refine Z.eP 2 (fun R hR hE => named_p b S q9 (23 : Int) _ R ((((b27.ext x23).upd g4 (fun e => by cases e)).upd1 u6).ext x24) ok9 f9 (fun w35 q10 e10 f10 x25 => hE _ _ (And.intro rfl (hP _ q10 (by have zl : (run S k (.handL (nds ((Z.nl ++ [(t1, A1, c1)]) ++ [((Nd.mk 21 q2.a q3.t (0 : Int) (nds (Z.nl ++ [(t2, A3, c3)]))), A4, c4)]))) q6).2 = q10 := (by rw [← hr]; simp only [run_succ, stepN, handLS, y18, e9, kbq9, h_c42, Z.ifs, reduceIte, e10, idl f10]); (try simp only [maps] at zl); simp only [stepN, handT, Nd.ks, maps, y15, h_c42, Z.ifs, reduceIte, zl, idl f10]) f10 (gb_upd y20 x25)))) (fun w35 q10 e10 f10 x25 b30 => hR _ _ ⟨(fun _ => ((b29.ext x24).upd1 x25)), ?_⟩))
    have zw35 := x25.size
    have tb30 := b30.lt
    have kbq10 := (okB_iff q10).2 f10
    obtain ⟨ok10, ok10m, ok10x, ok10y⟩ : Tr S q9 q10 := by have := name_tr ok9; rw [e10] at this; exact this
    have ok10l : M S q10 < M S q9 := by have := name_lt ok9 (by rw [e10]; exact kbq10); rw [e10] at this; exact this
    have y21 := (b29.ext x24).upd1 x25
    refine Z.eR 3 (.cells #[.int .i64 23, Z.n q9.a, .string q9.t, .int .i64 0, .slice none 0 0] 24) 1 1 (fun k12 w36 l12 x26 b31 => ⟨(fun _ => (y21.ext x26)), ?_⟩)
    have zw36 := x26.size
    have tb31 := b31.lt
    have y22 := Gx.own_ext (Gx.own_upd1 (Gx.own_ext (Gx.own_upd1 ow7 u6 (fun q e => by have z := hb4 q e; omega)) x24) x25 (fun q e => by have z := hb4 q e; omega)) x26
    refine Z.eK 4 (fun R hR => with_p w31.heap.size k12 1 (Z.nl ++ [((Nd.mk 23 q8.a q8.t (0 : Int) []), none, 0)]) [((Nd.mk 23 q9.a q9.t (0 : Int) []), none, 0)] A7 c7 #[.int .i64 23, Z.n q9.a, .string q9.t, .int .i64 0, .slice none 0 0] (22 : Int) ((q7.a : Nat) : Int) (0 : Int) q7.t _ R y22 b31 rfl (by simp only [List.length_append, List.length_cons, List.length_nil]; omega) (by omega) (fun A8 c8 w37 nk5 ow8 nl5 hnk5 g5 => hR _ _ ⟨(fun _ => ((y21.ext x26).upd g5 (fun e => by have := hb4 _ e.symm; omega))), ?_⟩))
    have zw37 := g5.size
    have hb5 : ∀ j, ((.slice A8 ((Z.nl ++ [((Nd.mk 23 q8.a q8.t (0 : Int) []), none, 0)]) ++ [((Nd.mk 23 q9.a q9.t (0 : Int) []), none, 0)]).length c8 : Value) : Value).ownBlock = some j → (j = nk4 ∧ j < w32.heap.size) ∨ (j = nk5 ∧ j < w37.heap.size) := fun j e => by have l := (ow8).lt j e; rcases nl5 with q | q; (rw [q] at e; have z := hb4 j e; omega); (rw [q] at e; cases e; omega)
    have hkx5 : Z.ks (InV w31.heap.size w37.heap.size [k1, k3, k10] (.slice A8 ((Z.nl ++ [((Nd.mk 23 q8.a q8.t (0 : Int) []), none, 0)]) ++ [((Nd.mk 23 q9.a q9.t (0 : Int) []), none, 0)]).length c8 : Value)) w37 ((Z.nl ++ [((Nd.mk 23 q8.a q8.t (0 : Int) []), none, 0)]) ++ [((Nd.mk 23 q9.a q9.t (0 : Int) []), none, 0)]) := Z.m1 (Q' := fun _ => True) (w' := w37) (fun p' h0 => (KV.topV ((((((((hkx4 p' h0).updV u6).extV x24).updV x25).extV x26)).appV g5).toV nl5 (by omega)))) KV.nil
    refine Z.eSa 5 #[.int .i64 22, Z.n q7.a, .string q7.t, .int .i64 0, (.slice A8 ((Z.nl ++ [((Nd.mk 23 q8.a q8.t (0 : Int) []), none, 0)]) ++ [((Nd.mk 23 q9.a q9.t (0 : Int) []), none, 0)]).length c8 : Value)] ((y21.ext x26).upd g5 (fun e => by have := hb4 _ e.symm; omega)) (fun w38 u7 b32 => ⟨(Gx.not_clear (by kernel_rfl)), ?_⟩)
    have zw38 := u7.size
    refine Gx.anyE_done (by kernel_rfl) ?_ _
    refine Z.x (Z.r [0, 1, 2] ?_)
    refine Z.p [0] [1, 2] [(55, Z.P b 0)] ?_
    refine Z.R (.cells #[.string Z.k1] 9) 1 1 (fun k13 w39 l13 x27 b33 zw39 tb33 => ?_)
    have y23 := gb_ext (gb_new (gb_app (gb_ext (gb_upd y20 x25) x26) g5 (fun j e => by have := (y22).lt j e; omega)) u7) x27
    have y24 := Z.a y18 (Z.a e9 (Z.a kbq9 (Z.a e10 kbq10)))
    refine Z.kP (fun R hR hE => need_p b S q10 [Z.k1] k13 1 _ R ((((b30.ext x26).upd g5 (fun e => by have := hb4 _ e.symm; omega)).upd1 u7).ext x27) ok10 f10 b33 (by omega) (Nat.le_of_ble_eq_true rfl) (fun w40 q11 e11 f11 x28 => hE _ _ (And.intro rfl (hP _ q11 (by have zl : (run S k (.handL (nds ((Z.nl ++ [(t1, A1, c1)]) ++ [((Nd.mk 21 q2.a q3.t (0 : Int) (nds (Z.nl ++ [(t2, A3, c3)]))), A4, c4)]))) q6).2 = q11 := (by rw [← hr]; simp only [run_succ, stepN, handLS, y24, h_c42, Z.ifs, reduceIte, (show mustR S q10 Z.k1 = q11 from e11), idl f11]); (try simp only [maps] at zl); simp only [stepN, handT, Nd.ks, maps, y15, h_c42, Z.ifs, reduceIte, zl, idl f11]) f11 (gb_upd y23 x28)))) (fun w40 q11 e11 f11 x28 b34 => hR _ _ ?_))
    have zw40 := x28.size
    have tb34 := b34.lt
    obtain ⟨ok11, ok11m, ok11x, ok11y⟩ : Tr S q10 q11 := e11 ▸ musts_tr _ ok10
    have e11 : mustR S q10 Z.k1 = q11 := e11
    have kbq11 := (okB_iff q11).2 f11
    refine Z.e (Gx.drawE (S := fun w' => Gx.Has w' k3 (.cells #[.int .i64 20, Z.n at_, .string Z.E, .int .i64 0, (.slice A L.length c : Value)] 24) ∧ Gx.Has w' k10 (.cells #[.int .i64 22, Z.n q7.a, .string q7.t, .int .i64 0, (.slice A8 ((Z.nl ++ [((Nd.mk 23 q8.a q8.t (0 : Int) []), none, 0)]) ++ [((Nd.mk 23 q9.a q9.t (0 : Int) []), none, 0)]).length c8 : Value)] 24)) [8] (by kernel_rfl) (fun w41 x29 => ?_))
    have zw41 := x29.size
    have y25 := ((((((((((((((((b22.upd1 x18).upd1 x19).ext x20).upd1 u5).ext x21).upd1 x22).ext x23).upd g4 (fun e => by cases e)).upd1 u6).ext x24).upd1 x25).ext x26).upd g5 (fun e => by have := hb4 _ e.symm; omega)).upd1 u7).ext x27).upd1 x28).ext x29
    have y26 := ((b32.ext x27).upd1 x28).ext x29
    refine Z.eh ⟨y25, y26⟩ (fun hS4 => ?_)
    refine Z.es 0 [7, 8] 0 (.agg #[.int .i64 20, Z.n at_, .string Z.E, .int .i64 0, (.slice A L.length c : Value)]) (fun _ hs => hs.1) hS4 ?_
    refine Z.es 1 [5, 6, 7, 8] 0 (.agg #[.int .i64 22, Z.n q7.a, .string q7.t, .int .i64 0, (.slice A8 ((Z.nl ++ [((Nd.mk 23 q8.a q8.t (0 : Int) []), none, 0)]) ++ [((Nd.mk 23 q9.a q9.t (0 : Int) []), none, 0)]).length c8 : Value)]) (fun _ hs => hs.2) hS4 ?_
    refine Z.et 2 (Z.P b 0) (fun _ => hS4) ?_
    have y27 := gb_ext (gb_upd y23 x28) x29
    refine Z.eP 3 (fun R hR hE => (ih i (by omega)).f_expr b S q11 _ R (b34.ext x29) ok11 f11 (by omega) (fun w42 q12 e12 f12 x30 => hE _ _ (And.intro rfl (hP _ q12 (by have zl : (run S k (.handL (nds ((Z.nl ++ [(t1, A1, c1)]) ++ [((Nd.mk 21 q2.a q3.t (0 : Int) (nds (Z.nl ++ [(t2, A3, c3)]))), A4, c4)]))) q6).2 = q12 := (by rw [← hr]; simp only [run_succ, stepN, handLS, y24, e11, kbq11, h_c42, Z.ifs, reduceIte, e12, idl f12]); (try simp only [maps] at zl); simp only [stepN, handT, Nd.ks, maps, y15, h_c42, Z.ifs, reduceIte, zl, idl f12]) f12 (gb_upd y27 x30)))) (fun w42 t3 A9 c9 q12 e12 f12 x30 b35 kv4 => hR _ _ ⟨(fun _ => ⟨(y25.upd1 x30), (y26.upd1 x30)⟩), ?_⟩))
    have zw42 := x30.size
    have tb35 := b35.lt
    have kbq12 := (okB_iff q12).2 f12
    obtain ⟨ok12, ok12m, ok12x, ok12y⟩ : Tr S q11 q12 := run_facts ok11 e12
    refine Z.eR 4 (.cells (Z.T t3 A9 c9) 24) 1 1 (fun k14 w43 l14 x31 b36 => ⟨(fun _ => ⟨((y25.upd1 x30).ext x31), ((y26.upd1 x30).ext x31)⟩), ?_⟩)
    have zw43 := x31.size
    have tb36 := b36.lt
    have y28 := Gx.own_ext (Gx.own_upd1 (Gx.own_ext (Gx.own_upd1 (Gx.own_ext (Gx.own_upd1 ow8 u7 (fun q e => by have z := hb5 q e; omega)) x27) x28 (fun q e => by have z := hb5 q e; omega)) x29) x30 (fun q e => by have z := hb5 q e; omega)) x31
    refine Z.eK 5 (fun R hR => with_p w31.heap.size k14 1 ((Z.nl ++ [((Nd.mk 23 q8.a q8.t (0 : Int) []), none, 0)]) ++ [((Nd.mk 23 q9.a q9.t (0 : Int) []), none, 0)]) [(t3, A9, c9)] A8 c8 (Z.T t3 A9 c9) (22 : Int) ((q7.a : Nat) : Int) (0 : Int) q7.t _ R y28 b36 rfl (by simp only [List.length_append, List.length_cons, List.length_nil]; omega) (by omega) (fun A10 c10 w44 nk6 ow9 nl6 hnk6 g6 => hR _ _ ⟨(fun _ => ⟨(((y25.upd1 x30).ext x31).upd g6 (fun e => by have := hb5 _ e.symm; omega)), (((y26.upd1 x30).ext x31).upd g6 (fun e => by have := hb5 _ e.symm; omega))⟩), ?_⟩))
    have zw44 := g6.size
    have hb6 : ∀ j, ((.slice A10 (((Z.nl ++ [((Nd.mk 23 q8.a q8.t (0 : Int) []), none, 0)]) ++ [((Nd.mk 23 q9.a q9.t (0 : Int) []), none, 0)]) ++ [(t3, A9, c9)]).length c10 : Value) : Value).ownBlock = some j → (j = nk4 ∧ j < w32.heap.size) ∨ (j = nk5 ∧ j < w37.heap.size) ∨ (j = nk6 ∧ j < w44.heap.size) := fun j e => by have l := (ow9).lt j e; rcases nl6 with q | q; (rw [q] at e; have z := hb5 j e; omega); (rw [q] at e; cases e; omega)
    have hkx6 : Z.ks (InV w31.heap.size w44.heap.size [k1, k3, k10] (.slice A10 (((Z.nl ++ [((Nd.mk 23 q8.a q8.t (0 : Int) []), none, 0)]) ++ [((Nd.mk 23 q9.a q9.t (0 : Int) []), none, 0)]) ++ [(t3, A9, c9)]).length c10 : Value)) w44 (((Z.nl ++ [((Nd.mk 23 q8.a q8.t (0 : Int) []), none, 0)]) ++ [((Nd.mk 23 q9.a q9.t (0 : Int) []), none, 0)]) ++ [(t3, A9, c9)]) := Z.m1 (Q' := fun _ => True) (w' := w44) (fun p' h0 => (KV.topV ((((((((((hkx5 p' h0).updV u7).extV x27).updV x28).extV x29).updV x30).extV x31)).appV g6).toV nl6 (by omega)))) (KV.topV (KV.ofIn ((kv4.ext x31).app g6 (fun j e => by have z := hb5 j e; first | (left; omega) | (right; left; omega) | omega)) (fun j e => by have z := hb6 j e; first | (left; omega) | (right; omega) | omega)))
    refine Z.eR 6 (.cells #[.int .i64 22, Z.n q7.a, .string q7.t, .int .i64 0, (.slice A10 (((Z.nl ++ [((Nd.mk 23 q8.a q8.t (0 : Int) []), none, 0)]) ++ [((Nd.mk 23 q9.a q9.t (0 : Int) []), none, 0)]) ++ [(t3, A9, c9)]).length c10 : Value)] 24) 1 1 (fun k15 w45 l15 x32 b37 => ⟨(fun _ => ⟨((((y25.upd1 x30).ext x31).upd g6 (fun e => by have := hb5 _ e.symm; omega)).ext x32), ((((y26.upd1 x30).ext x31).upd g6 (fun e => by have := hb5 _ e.symm; omega)).ext x32)⟩), ?_⟩)
    have zw45 := x32.size
    have tb37 := b37.lt
    obtain ⟨A11, c11, hvkv5, kv5⟩ := KV.of_own (Q := In w31.heap.size w45.heap.size [k1, k3, k10]) (((Z.nl ++ [((Nd.mk 23 q8.a q8.t (0 : Int) []), none, 0)]) ++ [((Nd.mk 23 q9.a q9.t (0 : Int) []), none, 0)]) ++ [(t3, A9, c9)]) (Gx.own_ext ow9 x32) (fun j e => by have := ((Gx.own_ext ow9 x32)).lt j e; exact ⟨by omega, by omega, (by have z := hb6 j e; simp only [List.mem_cons, List.not_mem_nil, or_false, not_or]; omega)⟩) (fun p' h0 => (KV.topV ((hkx6 p' h0).extV x32)).noV)
    rw [nds_len] at hvkv5; cases hvkv5
    have y29 := Gx.own_ext (Gx.own_updr (Gx.own_ext (Gx.own_upd1 (Gx.own_ext (Gx.own_upd1 (Gx.own_ext (Gx.own_upd1 (Gx.own_updr (Gx.own_ext (Gx.own_upd1 (Gx.own_ext (Gx.own_upd1 (Gx.own_updr (Gx.own_ext (Gx.own_upd1 (Gx.own_ext (Gx.own_upd1 (Gx.own_ext (Gx.own_upd1 (Gx.own_upd1 how x18 (fun q e => by have z := hbl q e; omega)) x19 (fun q e => by have z := hbl q e; omega)) x20) u5 (fun q e => by have z := hbl q e; omega)) x21) x22 (fun q e => by have z := hbl q e; omega)) x23) g4 (fun q e j e' => by have z := hbl q e; have := (ow6).lt j e'; omega)) u6 (fun q e => by have z := hbl q e; omega)) x24) x25 (fun q e => by have z := hbl q e; omega)) x26) g5 (fun q e j e' => by have z := hbl q e; have := (ow7).lt j e'; omega)) u7 (fun q e => by have z := hbl q e; omega)) x27) x28 (fun q e => by have z := hbl q e; omega)) x29) x30 (fun q e => by have z := hbl q e; omega)) x31) g6 (fun q e j e' => by have z := hbl q e; have := (ow8).lt j e'; omega)) x32
    refine Z.eK 7 (fun R hR => with_p w1.heap.size k15 1 L [((Nd.mk 22 q7.a q7.t (0 : Int) (nds (((Z.nl ++ [((Nd.mk 23 q8.a q8.t (0 : Int) []), none, 0)]) ++ [((Nd.mk 23 q9.a q9.t (0 : Int) []), none, 0)]) ++ [(t3, A9, c9)]))), A10, c10)] A c #[.int .i64 22, Z.n q7.a, .string q7.t, .int .i64 0, .slice A10 ((((Z.nl ++ [((Nd.mk 23 q8.a q8.t (0 : Int) []), none, 0)]) ++ [((Nd.mk 23 q9.a q9.t (0 : Int) []), none, 0)]) ++ [(t3, A9, c9)]).length) c10] (20 : Int) ((at_ : Nat) : Int) (0 : Int) Z.E _ R y29 b37 rfl (by simp only [List.length_append, List.length_cons, List.length_nil]; omega) (by omega) (fun A12 c12 w46 nk7 ow10 nl7 hnk7 g7 => hR _ _ ⟨(fun _ => ⟨(((((y25.upd1 x30).ext x31).upd g6 (fun e => by have := hb5 _ e.symm; omega)).ext x32).upd g7 (fun e => by have := hbl _ e.symm; omega)), (((((y26.upd1 x30).ext x31).upd g6 (fun e => by have := hb5 _ e.symm; omega)).ext x32).upd g7 (fun e => by have := hbl _ e.symm; omega))⟩), ?_⟩))
    have zw46 := g7.size
    have hb7 : ∀ j, ((.slice A12 (L ++ [((Nd.mk 22 q7.a q7.t (0 : Int) (nds (((Z.nl ++ [((Nd.mk 23 q8.a q8.t (0 : Int) []), none, 0)]) ++ [((Nd.mk 23 q9.a q9.t (0 : Int) []), none, 0)]) ++ [(t3, A9, c9)]))), A10, c10)]).length c12 : Value) : Value).ownBlock = some j → (w1.heap.size ≤ j ∧ j < w24.heap.size ∧ j ≠ k1 ∧ j ≠ k3) ∨ (j = nk7 ∧ j < w46.heap.size) := fun j e => by have l := (ow10).lt j e; rcases nl7 with q | q; (rw [q] at e; have z := hbl j e; omega); (rw [q] at e; cases e; omega)
    have hkx7 : Z.ks (InV w1.heap.size w46.heap.size [k1, k3, k10] (.slice A12 (L ++ [((Nd.mk 22 q7.a q7.t (0 : Int) (nds (((Z.nl ++ [((Nd.mk 23 q8.a q8.t (0 : Int) []), none, 0)]) ++ [((Nd.mk 23 q9.a q9.t (0 : Int) []), none, 0)]) ++ [(t3, A9, c9)]))), A10, c10)]).length c12 : Value)) w46 (L ++ [((Nd.mk 22 q7.a q7.t (0 : Int) (nds (((Z.nl ++ [((Nd.mk 23 q8.a q8.t (0 : Int) []), none, 0)]) ++ [((Nd.mk 23 q9.a q9.t (0 : Int) []), none, 0)]) ++ [(t3, A9, c9)]))), A10, c10)]) := Z.m1 (Q' := fun _ => True) (w' := w46) (fun p' h0 => (KV.topV (((((((((((((((((((((((((hks p' h0).updV x18).updV x19).extV x20).updV u5).extV x21).updV x22).extV x23).otherV g4 (fun j e => by have := (ow6).lt j e; first | (left; omega) | (right; omega))).updV u6).extV x24).updV x25).extV x26).otherV g5 (fun j e => by have := (y22).lt j e; first | (left; omega) | (right; omega))).updV u7).extV x27).updV x28).extV x29).updV x30).extV x31).otherV g6 (fun j e => by have := (y28).lt j e; first | (left; omega) | (right; omega))).extV x32)).appV g7).toV nl7 (by omega)))) (KV.topV (KV.ofIn (kv5.app g7 (fun j e => by have z := hbl j e; first | (left; omega) | (right; left; omega) | omega)) (fun j e => by have z := hb7 j e; first | (left; omega) | (right; omega) | omega)))
    refine Z.eSa 8 #[.int .i64 20, Z.n at_, .string Z.E, .int .i64 0, (.slice A12 (L ++ [((Nd.mk 22 q7.a q7.t (0 : Int) (nds (((Z.nl ++ [((Nd.mk 23 q8.a q8.t (0 : Int) []), none, 0)]) ++ [((Nd.mk 23 q9.a q9.t (0 : Int) []), none, 0)]) ++ [(t3, A9, c9)]))), A10, c10)]).length c12 : Value)] (((((y25.upd1 x30).ext x31).upd g6 (fun e => by have := hb5 _ e.symm; omega)).ext x32).upd g7 (fun e => by have := hbl _ e.symm; omega)) (fun w47 u8 b38 => ⟨(Gx.not_clear (by kernel_rfl)), ?_⟩)
    have zw47 := u8.size
    refine Gx.anyE_done (by kernel_rfl) ?_ _
    refine Gx.block_normal (Z.x ?_)
    rw [Gx.forget [(0, Z.P b 0), (4, Z.P k1 0), (5, Z.P k3 0)] (by kernel_rfl)]
    exact hK1 _ _ _ _ (by omega) ⟨i, q12, A12, c12, (L ++ [((Nd.mk 22 q7.a q7.t (0 : Int) (nds (((Z.nl ++ [((Nd.mk 23 q8.a q8.t (0 : Int) []), none, 0)]) ++ [((Nd.mk 23 q9.a q9.t (0 : Int) []), none, 0)]) ++ [(t3, A9, c9)]))), A10, c10)]), rfl, rfl, (gb_new (gb_app (gb_ext (gb_app (gb_ext (gb_upd y27 x30) x31) g6 (fun j e => by have := (y28).lt j e; omega)) x32) g7 (fun j e => by have := (y29).lt j e; omega)) u8), (((((b35.ext x31).upd g6 (fun e => by have := hb5 _ e.symm; omega)).ext x32).upd g7 (fun e => by have := hbl _ e.symm; omega)).upd1 u8), (((((((((((((((((((((((b21.upd1 x18).upd1 x19).ext x20).upd1 u5).ext x21).upd1 x22).ext x23).upd g4 (fun e => by cases e)).upd1 u6).ext x24).upd1 x25).ext x26).upd g5 (fun e => by have := hb4 _ e.symm; omega)).upd1 u7).ext x27).upd1 x28).ext x29).upd1 x30).ext x31).upd g6 (fun e => by have := hb5 _ e.symm; omega)).ext x32).upd g7 (fun e => by have := hbl _ e.symm; omega)).upd1 u8), b38, (by omega), (by omega), (by rw [← hr]; simp only [run_succ, stepN, handLS, y24, e11, kbq11, e12, kbq12, h_c42, Z.ifs, reduceIte, maps]), ok12, (Gx.own_upd1 ow10 u8 (fun q e => by have z := hb7 q e; omega)), (fun p' h0 => KV.topV ((hkx7 p' h0).updV u8)), (by rw [List.length_append]; show L.length + 1 + _ ≤ _; omega), (by omega), ⟨by omega, by omega⟩, (by omega), f12, (fun j e => by have z := hb7 j e; omega)⟩
  refine wp_exit (Gx.then_exit (Gx.then_exit (Gx.block_exit (Z.x ?_))))
  have e13 : run S k (.handL (nds ((Z.nl ++ [(t1, A1, c1)]) ++ [((Nd.mk 21 q2.a q3.t (0 : Int) (nds (Z.nl ++ [(t2, A3, c3)]))), A4, c4)]))) q6 = ((Nd.mk 0 0 Z.E 0 (nds L)), q7) := by rw [← hr]; simp only [run_succ, stepN, handLS, kbp, e7, kbq7, h_c42, Z.ifs, reduceIte, maps]
  try simp only [maps] at e13
  refine Z.r [0, 1, 2] ?_
  refine Z.p [0] [1, 2] [(66, Z.P b 0)] ?_
  refine Z.R (.cells #[.string Z.k11] 9) 1 1 (fun k16 w48 l16 x33 b39 zw48 tb39 => ?_)
  have y30 := gb_ext (gb_upd y14 x18) x33
  refine Z.kP (fun R hR hE => need_p b S q7 [Z.k11] k16 1 _ R (b23.ext x33) ok7 f7 b39 (by omega) (Nat.le_of_ble_eq_true rfl) (fun w49 q13 e14 f13 x34 => hE _ _ (And.intro rfl (hP _ q13 (by simp only [stepN, handT, Nd.ks, maps, y15, e13, h_c42, Z.ifs, reduceIte, (show mustR S q7 Z.k11 = q13 from e14), idl f13]) f13 (gb_upd y30 x34)))) (fun w49 q13 e14 f13 x34 b40 => hR _ _ ?_))
  have zw49 := x34.size
  have tb40 := b40.lt
  obtain ⟨ok13, ok13m, ok13x, ok13y⟩ : Tr S q7 q13 := e14 ▸ musts_tr _ ok7
  have e14 : mustR S q7 Z.k11 = q13 := e14
  have kbq13 := (okB_iff q13).2 f13
  refine Z.e (Z.r [0, 1] ?_)
  refine Z.L 0 (.agg #[.int .i64 20, Z.n at_, .string Z.E, .int .i64 0, (.slice A L.length c : Value)]) (((b22.upd1 x18).ext x33).upd1 x34) ?_
  refine Z.Sa #[.int .i64 20, Z.n at_, .string Z.E, .int .i64 0, (.slice A L.length c : Value)] (((b21.upd1 x18).ext x33).upd1 x34) (fun w50 u9 b41 zw50 => ?_)
  refine Z.e (wp_ret (Gx.ret (Gx.res_c (u := .agg #[.int .i64 20, Z.n at_, .string Z.E, .int .i64 0, (.slice A L.length c : Value)]) rfl (by kernel_rfl) b41 (by kernel_rfl)) ?_))
  have y31 := Gx.own_upd1 (Gx.own_upd1 (Gx.own_ext (Gx.own_upd1 how x18 (fun q e => by have z := hbl q e; omega)) x33) x34 (fun q e => by have z := hbl q e; omega)) u9 (fun q e => by have z := hbl q e; omega)
  obtain ⟨A13, c13, hvkv6, kv6⟩ := KV.of_own (Q := In w1.heap.size w50.heap.size [k1, k3]) L y31 (fun j e => by have := (y31).lt j e; exact ⟨by omega, by omega, (by have z := hbl j e; simp only [List.mem_cons, List.not_mem_nil, or_false, not_or]; omega)⟩) (fun p' h0 => (KV.topV (((((hks p' h0).updV x18).extV x33).updV x34).updV u9)).noV)
  rw [nds_len] at hvkv6; cases hvkv6
  have hz := hK _ (Nd.mk 20 at_ Z.E (0 : Int) (nds L)) A c q13 (by simp only [stepN, handT, Nd.ks, maps, y15, e13, e14, kbq13, h_c42, Z.ifs, reduceIte]) f13 (gb_new (gb_upd y30 x34) u9) (b40.upd1 u9) (KV.top kv6); unfold Z.T at hz; rw [show (Nd.mk 20 at_ Z.E (0 : Int) (nds L)).ks.length = L.length from nds_len _] at hz; exact hz
theorem shallow_p (k : Nat) (b : Nat) (S : ByteArray) (q : Rs) (at_ : Nat) (w : World) (K : Ending → World → Prop) (ih : ∀ j, j ≤ k → SpecP j) (hb : Gx.Has w b (rdP S q)) (hok : Ok S q) (f0 : q.fk = 0) (hmu : 16 * M S q + 11 ≤ k) (hP : (PQ w b K ((handT S (run S k) at_ 1 q).2))) (hK : ∀ w' t A c q', handT S (run S k) at_ 1 q = (t, q') → q'.fk = 0 → Gx.G w w' (some b) → Gx.Has w' b (rdP S q') → KV (In w.heap.size w'.heap.size []) w' t.ks A c → K (.returned (.agg (Z.T t A c))) w') :
    Calls Tryd.prog 103 #[Z.P b 0, Z.n at_] w K := by
  refine Z.en 11 Tryd.func103 ?_
  have tbb := hb.lt
  have kbq := (okB_iff q).2 f0
  refine Z.r [0] ?_
  refine Z.N Z.c0 (fun k1 w1 l1 x1 b1 zw1 tb1 => ?_)
  refine Z.e (Z.r [0, 1, 2, 3, 4] ?_)
  refine Z.p [0, 1] [2, 3, 4] [(7, Z.n at_), (6, Z.P b 0)] ?_
  have y1 := gb_ext (gb_refl w b) x1
  refine Z.kP (fun R hR hE => handle_p k b S q at_ _ R  ih (hb.ext x1) hok f0 (by omega) (fun w2 q1 e1 f1 x2 => hE _ _ (And.intro rfl (hP _ q1 (by simp only [stepN, Nd.ks, kbq, Z.ifs, reduceIte, (show (handT S (run S k) at_ 1 q).2 = q1 from e1), idl f1]) f1 (gb_upd y1 x2)))) (fun w2 t1 A1 c1 q1 e1 f1 x2 b2 kv1 => hR _ _ ?_))
  have zw2 := x2.size
  have tb2 := b2.lt
  have kbq1 := (okB_iff q1).2 f1
  have e1 := hand_sh e1
  refine Z.N Z.c0 (fun k2 w3 l2 x3 b3 zw3 tb3 => ?_)
  refine Z.Sa (Z.T t1 A1 c1) b3 (fun w4 u1 b4 zw4 => ?_)
  refine Z.e (Z.r [0, 1] ?_)
  refine Z.p [0] [1] [(9, Z.P k2 3)] ?_
  refine Z.S 3 (.int .i64 1) b4 #[Z.n t1.k, Z.n t1.a, .string t1.nm, .int .i64 1, .slice A1 t1.ks.length c1] (fun w5 u2 b5 zw5 => ?_)
  refine Z.e (Z.r [0, 1] ?_)
  refine Z.L 0 (.agg #[Z.n t1.k, Z.n t1.a, .string t1.nm, .int .i64 1, .slice A1 t1.ks.length c1]) b5 ?_
  refine Z.Sa #[Z.n t1.k, Z.n t1.a, .string t1.nm, .int .i64 1, .slice A1 t1.ks.length c1] ((((b1.upd1 x2).ext x3).upd1 u1).upd1 u2) (fun w6 u3 b6 zw6 => ?_)
  refine Z.e (wp_ret (Gx.ret (Gx.res_c (u := .agg #[Z.n t1.k, Z.n t1.a, .string t1.nm, .int .i64 1, .slice A1 t1.ks.length c1]) rfl (by kernel_rfl) b6 (by kernel_rfl)) ?_))
  exact hK _ (Nd.mk t1.k t1.a t1.nm (1 : Int) t1.ks) A1 c1 q1 (by simp only [stepN, Nd.ks, kbq, e1, kbq1, Z.ifs, reduceIte]) f1 (gb_new (gb_new (gb_new (gb_ext (gb_upd y1 x2) x3) u1) u2) u3) ((((b2.ext x3).upd1 u1).upd1 u2).upd1 u3) (KV.top ((((kv1.ext x3).upd u1).upd u2).upd u3))
theorem any_0 {S : ByteArray} {q : Rs} {k : Nat} (ky : isB q Z.k12 = true) : run S (k + 1) .any q = run S k (.letN q.a) (nextR S q) := by
  rw [run_succ]
  simp only [stepN, anyS, ky, hasR, if_true, if_false, Bool.false_eq_true, reduceIte, eq_self]
theorem any_1 {S : ByteArray} {q : Rs} {k : Nat} (kn0 : isB q Z.k12 = false) (ky : isB q Z.k25 = true) : run S (k + 1) .any q = fnR S k q.a (nextR S q) := by
  rw [run_succ]
  simp only [stepN, anyS, kn0, ky, hasR, if_true, if_false, Bool.false_eq_true, reduceIte, fnR]
theorem any_2 {S : ByteArray} {q : Rs} {k : Nat} (kn0 : isB q Z.k12 = false) (kn1 : isB q Z.k25 = false) (ky : isB q Z.k28 = true) : run S (k + 1) .any q = ifR S (run S k) q.a (nextR S q) := by
  rw [run_succ]
  simp only [stepN, anyS, kn0, kn1, ky, hasR, if_true, if_false, Bool.false_eq_true, reduceIte, ifR]
theorem any_3 {S : ByteArray} {q : Rs} {k : Nat} (kn0 : isB q Z.k12 = false) (kn1 : isB q Z.k25 = false) (kn2 : isB q Z.k28 = false) (ky : isB q Z.k32 = true) : run S (k + 1) .any q = run S k (.cases q.a) (nextR S q) := by
  rw [run_succ]
  simp only [stepN, anyS, kn0, kn1, kn2, ky, hasR, if_true, if_false, Bool.false_eq_true, reduceIte, eq_self]
theorem any_4 {S : ByteArray} {q : Rs} {k kk : Nat} (kn0 : isB q Z.k12 = false) (kn1 : isB q Z.k25 = false) (kn2 : isB q Z.k28 = false) (kn3 : isB q Z.k32 = false) (hk : k = kk + 1) (ky : isB q Z.k27 = true) : run S (k + 1) .any q = handT S (run S kk) q.a 0 (nextR S q) := by
  subst hk
  rw [run_succ]
  simp only [stepN, anyS, kn0, kn1, kn2, kn3, ky, hasR, if_true, if_false, Bool.false_eq_true, reduceIte, run_succ, stepN, handleS]
theorem any_5 {S : ByteArray} {q : Rs} {k kk : Nat} (kn0 : isB q Z.k12 = false) (kn1 : isB q Z.k25 = false) (kn2 : isB q Z.k28 = false) (kn3 : isB q Z.k32 = false) (kn4 : isB q Z.k27 = false) (hk : k = kk + 1) (ky : isB q Z.k33 = true) : run S (k + 1) .any q = handT S (run S kk) q.a 1 (nextR S q) := by
  subst hk
  rw [run_succ]
  simp only [stepN, anyS, kn0, kn1, kn2, kn3, kn4, ky, hasR, if_true, if_false, Bool.false_eq_true, reduceIte, run_succ, stepN, handleS]
theorem any_p_kw (k : Nat) (b : Nat) (S : ByteArray) (q : Rs) (w : World) (K : Ending → World → Prop) (ih : ∀ j, j ≤ k → SpecP j) (hb : Gx.Has w b (rdP S q)) (hok : Ok S q) (f0 : q.fk = 0) (hmu : 16 * M S q + 10 ≤ k + 1) (F : Nat) (FN : Rs → Nd × Rs) (hkw : keywordV q.t = .func (.func F) #[] #[]) (hF : ∀ (x y : Value) (w : World), (callFunc F #[x, y]).run Tryd.prog w = .ok (.enter F #[x, y]) w) (hrun : q.k = 3 → run S (k + 1) .any q = FN (nextR S q)) (hid : ∀ q' : Rs, q'.fk ≠ 0 → (FN q').2 = q') (hcall : ∀ (q1 : Rs) (w : World) (K : Ending → World → Prop), Gx.Has w b (rdP S q1) → Ok S q1 → q1.fk = 0 → M S q1 < M S q → (PQ w b K ((FN q1).2)) → (KQ S w b K (FN q1)) → Calls Tryd.prog F #[Z.P b 0, Z.n q.a] w K) (hP : (PQ w b K ((run S (k + 1) .any q).2))) (hK : ∀ w' t A c q', run S (k + 1) .any q = (t, q') → q'.fk = 0 → Gx.G w w' (some b) → Gx.Has w' b (rdP S q') → KV (In w.heap.size w'.heap.size []) w' t.ks A c → K (.returned (.agg (Z.T t A c))) w') :
    Calls Tryd.prog 76 #[Z.P b 0] w K := by
  refine Z.en 45 Tryd.func76 ?_
  have tbb := hb.lt
  have kbq := (okB_iff q).2 f0
  refine Z.r [0] ?_
  refine Z.N Z.c0 (fun k1 w1 l1 x1 b1 zw1 tb1 => ?_)
  refine Z.e (wp_seq (Z.r [0, 1, 2, 3, 4, 5, 6] ?_))
  refine Z.p [0, 1, 2, 3] [4, 5, 6] [(9, Z.P b 3), (8, Z.P b 1), (7, Z.P b 0), (6, Z.P b 0)] ?_
  refine Z.L 3 (.string q.t) (hb.ext x1) ?_
  refine Z.k (fun R hR => keyword_v (s := q.t) (v := .func (.func F) #[] #[]) hkw _ R (hR _ _ ?_))
  refine Z.p [6] [] [(3, .func (.func F) #[] #[])] ?_
  refine Z.e (Z.r [0, 1, 2, 3, 4, 5, 6, 7, 8, 9] ?_)
  refine Z.p [0, 1, 2, 3, 4, 5, 6] [7, 8, 9] [(18, Z.P b 1), (17, Z.P b 1), (16, Z.P b 0), (15, Z.P b 0), (14, .bool true), (13, .bool true), (12, .func (.func F) #[] #[])] ?_
  refine Z.L 1 (Z.n q.k) (hb.ext x1) ?_
  refine Z.p [8, 9] [] [(21, .bool (((q.k : Nat) : Int) == (3 : Int))), (20, .bool (((q.k : Nat) : Int) == (3 : Int)))] ?_
  refine Z.e (Z.c (((q.k : Nat) : Int) == (3 : Int)) (fun h_c21 => ?_) (fun h_c21 => ?_))
  · skip
    refine Z.r [0, 1, 2, 3, 4, 5] ?_
    refine Z.p [0, 1, 2, 3] [4, 5] [(25, Z.P b 2), (24, Z.P b 1), (23, Z.P b 0), (22, Z.P b 0)] ?_
    refine Z.L 2 (Z.n q.a) (hb.ext x1) ?_
    refine Z.p [5] [] [(4, Z.n q.a)] ?_
    refine Z.e (Z.r [0, 1] ?_)
    refine Z.p [0] [1] [(27, Z.P b 0)] ?_
    have p_c21 := Gx.k1 h_c21
    have y1 := gb_ext (gb_refl w b) x1
    refine Z.kP (fun R hR hE => advance_p b S q _ R (hb.ext x1) hok f0 (fun w2 q1 e1 f1 x2 => hE _ _ (And.intro rfl (hP _ q1 (by rw [hrun (by omega), e1]; exact hid _ f1) f1 (gb_upd y1 x2)))) (fun w2 q1 e1 f1 x2 b2 => hR _ _ ?_))
    have zw2 := x2.size
    have tb2 := b2.lt
    obtain ⟨ok1, ok1m, ok1x, ok1y⟩ : Tr S q q1 := e1 ▸ next_tr hok
    have kbq1 := (okB_iff q1).2 f1
    have ok1l : M S q1 < M S q := by have := next_lt hok f0 (by omega); rw [e1] at this; exact this
    refine Z.e (Z.r [0, 1, 2, 3, 4] ?_)
    refine Z.p [0, 1, 2] [3, 4] [(31, Z.n q.a), (30, Z.P b 0), (29, .func (.func F) #[] #[])] ?_
    refine Gx.cons (Gx.op_callP rfl (by kernel_rfl) ((by kernel_rfl : _ = (callFunc F #[Z.P b 0, Z.n q.a]).run Tryd.prog w2).trans (hF _ _ _)) (fun R hR hE => hcall q1 _ R b2 ok1 f1 (by omega) (fun w3 q2 e2 f2 x3 => hE _ _ (And.intro rfl (hP _ q2 (by rw [hrun (by omega), e1]; exact e2) f2 (gb_upd (gb_upd y1 x2) x3)))) (fun w3 t1 A1 c1 q2 e2 f2 x3 b3 kv1 => hR _ _ ?_)))
    have zw3 := x3.size
    have tb3 := b3.lt
    refine Z.Sa (Z.T t1 A1 c1) ((b1.upd1 x2).upd1 x3) (fun w4 u1 b4 zw4 => ?_)
    refine Z.e (wp_ret (Gx.then_ret (Gx.ret (Gx.res_c (u := .agg (Z.T t1 A1 c1)) rfl (by kernel_rfl) b4 (by kernel_rfl)) ?_)))
    exact hK _ t1 A1 c1 q2 (by rw [hrun (by omega), e1, e2]) f2 (gb_new (gb_upd (gb_upd y1 x2) x3) u1) (b3.upd1 u1) (KV.top (kv1.upd u1))
  refine wp_skip (Z.x ?_)
  have p_c21 := Gx.k0 h_c21
  have kn0 : isB q Z.k12 = false := kw_no hok (by omega) (by decide); have kh0 : hasR S q Z.k12 = q := has_not rfl kn0
  have kn1 : isB q Z.k25 = false := kw_no hok (by omega) (by decide); have kh1 : hasR S q Z.k25 = q := has_not rfl kn1
  have kn2 : isB q Z.k28 = false := kw_no hok (by omega) (by decide); have kh2 : hasR S q Z.k28 = q := has_not rfl kn2
  have kn3 : isB q Z.k32 = false := kw_no hok (by omega) (by decide); have kh3 : hasR S q Z.k32 = q := has_not rfl kn3
  have kn4 : isB q Z.k27 = false := kw_no hok (by omega) (by decide); have kh4 : hasR S q Z.k27 = q := has_not rfl kn4
  have kn5 : isB q Z.k33 = false := kw_no hok (by omega) (by decide); have kh5 : hasR S q Z.k33 = q := has_not rfl kn5
  refine Z.r [0, 1, 2, 3] ?_
  refine Z.p [0] [1, 2, 3] [(33, Z.P b 0)] ?_
  have y2 := gb_ext (gb_refl w b) x1
  have y3 := Z.a kbq (Z.a kn0 (Z.a kh0 (Z.a kn1 (Z.a kh1 (Z.a kn2 (Z.a kh2 (Z.a kn3 (Z.a kh3 (Z.a kn4 (Z.a kh4 (Z.a kn5 kh5)))))))))))
  refine Z.kP (fun R hR hE => (ih k (Nat.le_refl k)).f_b0 b S q _ R (hb.ext x1) hok f0 (by omega) (fun w5 q3 e3 f3 x4 => hE _ _ (And.intro rfl (hP _ q3 (by rw [run_succ]; simp only [stepN, anyS, y3, h_c21, Z.ifs, reduceIte, e3, idl f3]) f3 (gb_upd y2 x4)))) (fun w5 t2 A2 c2 q3 e3 f3 x4 b5 kv2 => hR _ _ ?_))
  have zw5 := x4.size
  have tb5 := b5.lt
  have kbq3 := (okB_iff q3).2 f3
  obtain ⟨ok3, ok3m, ok3x, ok3y⟩ : Tr S q q3 := run_facts hok e3
  refine Z.N Z.c0 (fun k2 w6 l2 x5 b6 zw6 tb6 => ?_)
  refine Z.Sa (Z.T t2 A2 c2) b6 (fun w7 u2 b7 zw7 => ?_)
  refine Z.e (wp_seq (Z.r [0, 1] ?_))
  refine Z.p [0] [1] [(35, Z.P b 0)] ?_
  have y4 := gb_new (gb_ext (gb_upd y2 x4) x5) u2
  have y5 := Z.a y3 (Z.a e3 kbq3)
  refine Z.kP (fun R hR hE => eat_p b S q3 Z.k48 _ R ((b5.ext x5).upd1 u2) ok3 f3 (fun w8 q4 e4 f4 x6 => hE _ _ (And.intro rfl (hP _ q4 (by rw [run_succ]; simp only [stepN, anyS, y5, h_c21, Z.ifs, reduceIte, e4, has_pan e4 f4 f3, idl f4]) f4 (gb_upd y4 x6)))) (fun w8 q4 e4 f4 x6 b8 => hR _ _ ?_))
  have zw8 := x6.size
  have tb8 := b8.lt
  obtain ⟨ok4, ok4m, ok4x, ok4y⟩ : Tr S q3 q4 := e4 ▸ has_tr ok3
  have kbq4 := (okB_iff q4).2 f4
  refine Z.e (Z.c (isB q3 Z.k48) (fun h_c36 => ?_) (fun h_c36 => ?_))
  · skip
    refine wp_seq (Z.D (fun w' => Gx.Has w' k2 (.cells (Z.T t2 A2 c2) 24)) (fun w9 x7 zw9 => ?_))
    have lt1 := (Z.lt ok3 h_c36 e4)
    refine Z.h ((b7.upd1 x6).ext x7) (fun hS1 => ?_)
    refine Z.t 0 (Z.P k2 1) hS1 ?_
    refine Z.tl 1 1 (Z.n t2.a) (fun _ hs => hs) hS1 ?_
    refine Z.tl 2 0 (.agg (Z.T t2 A2 c2)) (fun _ hs => hs) hS1 ?_
    refine Z.t 3 (Z.P b 0) hS1 ?_
    have y6 := gb_ext (gb_upd y4 x6) x7
    refine Z.oP 4 (fun R hR hE => (ih k (Nat.le_refl k)).f_expr b S q4 _ R (b8.ext x7) ok4 f4 (by omega) (fun w10 q5 e5 f5 x8 => hE _ _ (And.intro rfl (hP _ q5 (by rw [run_succ]; simp only [stepN, anyS, y5, e4, kbq4, h_c21, h_c36, Z.ifs, reduceIte, e5, idl f5]) f5 (gb_upd y6 x8)))) (fun w10 t3 A3 c3 q5 e5 f5 x8 b9 kv3 => hR _ _ ⟨(((b7.upd1 x6).ext x7).upd1 x8), ?_⟩))
    have zw10 := x8.size
    have tb9 := b9.lt
    have kbq5 := (okB_iff q5).2 f5
    obtain ⟨ok5, ok5m, ok5x, ok5y⟩ : Tr S q4 q5 := run_facts ok4 e5
    have y7 := ((b7.upd1 x6).ext x7).upd1 x8
    refine Z.oR 5 (.cells #[Z.n t2.k, Z.n t2.a, .string t2.nm, .int .i64 t2.n, .slice A2 t2.ks.length c2, Z.n t3.k, Z.n t3.a, .string t3.nm, .int .i64 t3.n, .slice A3 t3.ks.length c3] 24) 2 2 (fun k3 w11 l3 x9 b10 => ⟨(y7.ext x9), ?_⟩)
    have zw11 := x9.size
    have tb10 := b10.lt
    refine Z.h (y7.ext x9) (fun hS2 => ?_)
    refine Z.t 6 (.agg #[.int .i64 10, Z.n t2.a, .string Z.E, .int .i64 0, .slice (some ⟨k3, 0, none⟩) 2 2]) hS2 ?_
    refine Z.oSa 7 #[.int .i64 10, Z.n t2.a, .string Z.E, .int .i64 0, .slice (some ⟨k3, 0, none⟩) 2 2] (((((((b1.upd1 x4).ext x5).upd1 u2).upd1 x6).ext x7).upd1 x8).ext x9) (fun w12 u3 b11 => ⟨((y7.ext x9).upd1 u3), ?_⟩)
    have zw12 := u3.size
    refine Z.q ?_
    refine Z.x (wp_ret (Gx.then_ret (Gx.ret (Gx.res_c (u := .agg #[.int .i64 10, Z.n t2.a, .string Z.E, .int .i64 0, .slice (some ⟨k3, 0, none⟩) 2 2]) rfl (by kernel_rfl) b11 (by kernel_rfl)) ?_)))
    exact hK _ (Nd.mk 10 t2.a Z.E (0 : Int) [t2, t3]) (some (⟨k3, 0, none⟩ : Addr)) 2 q5 (by rw [run_succ]; simp only [stepN, anyS, y5, e4, kbq4, e5, kbq5, h_c21, h_c36, Z.ifs, reduceIte]) f5 (gb_new (gb_ext (gb_upd y6 x8) x9) u3) ((b9.ext x9).upd1 u3) (KV.of_row [(t2, A2, c2), (t3, A3, c3)] (n := 10) (b10.upd1 u3) rfl ⟨by omega, by omega, (fun hj => by cases hj)⟩ (by intro p hp; simp only [List.mem_cons, List.not_mem_nil, or_false] at hp; rcases hp with rfl | rfl; exact (KV.top (((((((kv2.ext x5).upd u2).upd x6).ext x7).upd x8).ext x9).upd u3)); exact (KV.top ((kv3.ext x9).upd u3))))
  refine wp_skip (Z.x (Z.r [0, 1] ?_))
  refine Z.L 0 (.agg (Z.T t2 A2 c2)) (b7.upd1 x6) ?_
  refine Z.Sa (Z.T t2 A2 c2) ((((b1.upd1 x4).ext x5).upd1 u2).upd1 x6) (fun w13 u4 b12 zw13 => ?_)
  refine Z.e (wp_ret (Gx.ret (Gx.res_c (u := .agg (Z.T t2 A2 c2)) rfl (by kernel_rfl) b12 (by kernel_rfl)) ?_))
  exact hK _ t2 A2 c2 q4 (by rw [run_succ]; simp only [stepN, anyS, y5, e4, kbq4, h_c21, h_c36, Z.ifs, reduceIte]) f4 (gb_new (gb_upd y4 x6) u4) (b8.upd1 u4) (KV.top ((((kv2.ext x5).upd u2).upd x6).upd u4))
theorem any_p_no (k : Nat) (b : Nat) (S : ByteArray) (q : Rs) (w : World) (K : Ending → World → Prop) (ih : ∀ j, j ≤ k → SpecP j) (hb : Gx.Has w b (rdP S q)) (hok : Ok S q) (f0 : q.fk = 0) (hmu : 16 * M S q + 10 ≤ k + 1) (ht0 : (q.t.toList == Z.k12.toList) = false) (ht1 : (q.t.toList == Z.k25.toList) = false) (ht2 : (q.t.toList == Z.k28.toList) = false) (ht3 : (q.t.toList == Z.k32.toList) = false) (ht4 : (q.t.toList == Z.k27.toList) = false) (ht5 : (q.t.toList == Z.k33.toList) = false) (hP : (PQ w b K ((run S (k + 1) .any q).2))) (hK : ∀ w' t A c q', run S (k + 1) .any q = (t, q') → q'.fk = 0 → Gx.G w w' (some b) → Gx.Has w' b (rdP S q') → KV (In w.heap.size w'.heap.size []) w' t.ks A c → K (.returned (.agg (Z.T t A c))) w') :
    Calls Tryd.prog 76 #[Z.P b 0] w K := by
  refine Z.en 45 Tryd.func76 ?_
  have tbb := hb.lt
  have kbq := (okB_iff q).2 f0
  have kn0 := kw_ne' ht0; have kh0 : hasR S q Z.k12 = q := has_not rfl kn0
  have kn1 := kw_ne' ht1; have kh1 : hasR S q Z.k25 = q := has_not rfl kn1
  have kn2 := kw_ne' ht2; have kh2 : hasR S q Z.k28 = q := has_not rfl kn2
  have kn3 := kw_ne' ht3; have kh3 : hasR S q Z.k32 = q := has_not rfl kn3
  have kn4 := kw_ne' ht4; have kh4 : hasR S q Z.k27 = q := has_not rfl kn4
  have kn5 := kw_ne' ht5; have kh5 : hasR S q Z.k33 = q := has_not rfl kn5
  refine Z.r [0] ?_
  refine Z.N Z.c0 (fun k1 w1 l1 x1 b1 zw1 tb1 => ?_)
  refine Z.e (wp_seq (Z.r [0, 1, 2, 3, 4, 5, 6] ?_))
  refine Z.p [0, 1, 2, 3] [4, 5, 6] [(9, Z.P b 3), (8, Z.P b 1), (7, Z.P b 0), (6, Z.P b 0)] ?_
  refine Z.L 3 (.string q.t) (hb.ext x1) ?_
  refine Z.k (fun R hR => keyword_v (s := q.t) (v := .nilFunc) (by simp only [keywordV, ht0, ht1, ht2, ht3, ht4, ht5, if_true, if_false, Bool.false_eq_true, reduceIte]) _ R (hR _ _ ?_))
  refine Z.p [6] [] [(3, .nilFunc)] ?_
  refine Z.e (Z.sf [(21, .bool false), (20, undef), (19, undef), (18, undef), (17, undef), (16, undef), (15, undef), (14, .bool false), (13, .bool false), (12, .nilFunc)] ?_)
  refine wp_skip (Z.x (Z.r [0, 1, 2, 3] ?_))
  refine Z.p [0] [1, 2, 3] [(33, Z.P b 0)] ?_
  have y1 := gb_ext (gb_refl w b) x1
  have y2 := Z.a kbq (Z.a kn0 (Z.a kh0 (Z.a kn1 (Z.a kh1 (Z.a kn2 (Z.a kh2 (Z.a kn3 (Z.a kh3 (Z.a kn4 (Z.a kh4 (Z.a kn5 kh5)))))))))))
  refine Z.kP (fun R hR hE => (ih k (Nat.le_refl k)).f_b0 b S q _ R (hb.ext x1) hok f0 (by omega) (fun w2 q1 e1 f1 x2 => hE _ _ (And.intro rfl (hP _ q1 (by rw [run_succ]; simp only [stepN, anyS, y2, Z.ifs, reduceIte, e1, idl f1]) f1 (gb_upd y1 x2)))) (fun w2 t1 A1 c1 q1 e1 f1 x2 b2 kv1 => hR _ _ ?_))
  have zw2 := x2.size
  have tb2 := b2.lt
  have kbq1 := (okB_iff q1).2 f1
  obtain ⟨ok1, ok1m, ok1x, ok1y⟩ : Tr S q q1 := run_facts hok e1
  refine Z.N Z.c0 (fun k2 w3 l2 x3 b3 zw3 tb3 => ?_)
  refine Z.Sa (Z.T t1 A1 c1) b3 (fun w4 u1 b4 zw4 => ?_)
  refine Z.e (wp_seq (Z.r [0, 1] ?_))
  refine Z.p [0] [1] [(35, Z.P b 0)] ?_
  have y3 := gb_new (gb_ext (gb_upd y1 x2) x3) u1
  have y4 := Z.a y2 (Z.a e1 kbq1)
  refine Z.kP (fun R hR hE => eat_p b S q1 Z.k48 _ R ((b2.ext x3).upd1 u1) ok1 f1 (fun w5 q2 e2 f2 x4 => hE _ _ (And.intro rfl (hP _ q2 (by rw [run_succ]; simp only [stepN, anyS, y4, Z.ifs, reduceIte, e2, has_pan e2 f2 f1, idl f2]) f2 (gb_upd y3 x4)))) (fun w5 q2 e2 f2 x4 b5 => hR _ _ ?_))
  have zw5 := x4.size
  have tb5 := b5.lt
  obtain ⟨ok2, ok2m, ok2x, ok2y⟩ : Tr S q1 q2 := e2 ▸ has_tr ok1
  have kbq2 := (okB_iff q2).2 f2
  refine Z.e (Z.c (isB q1 Z.k48) (fun h_c36 => ?_) (fun h_c36 => ?_))
  · skip
    refine wp_seq (Z.D (fun w' => Gx.Has w' k2 (.cells (Z.T t1 A1 c1) 24)) (fun w6 x5 zw6 => ?_))
    have lt1 := (Z.lt ok1 h_c36 e2)
    refine Z.h ((b4.upd1 x4).ext x5) (fun hS1 => ?_)
    refine Z.t 0 (Z.P k2 1) hS1 ?_
    refine Z.tl 1 1 (Z.n t1.a) (fun _ hs => hs) hS1 ?_
    refine Z.tl 2 0 (.agg (Z.T t1 A1 c1)) (fun _ hs => hs) hS1 ?_
    refine Z.t 3 (Z.P b 0) hS1 ?_
    have y5 := gb_ext (gb_upd y3 x4) x5
    refine Z.oP 4 (fun R hR hE => (ih k (Nat.le_refl k)).f_expr b S q2 _ R (b5.ext x5) ok2 f2 (by omega) (fun w7 q3 e3 f3 x6 => hE _ _ (And.intro rfl (hP _ q3 (by rw [run_succ]; simp only [stepN, anyS, y4, e2, kbq2, h_c36, Z.ifs, reduceIte, e3, idl f3]) f3 (gb_upd y5 x6)))) (fun w7 t2 A2 c2 q3 e3 f3 x6 b6 kv2 => hR _ _ ⟨(((b4.upd1 x4).ext x5).upd1 x6), ?_⟩))
    have zw7 := x6.size
    have tb6 := b6.lt
    have kbq3 := (okB_iff q3).2 f3
    obtain ⟨ok3, ok3m, ok3x, ok3y⟩ : Tr S q2 q3 := run_facts ok2 e3
    have y6 := ((b4.upd1 x4).ext x5).upd1 x6
    refine Z.oR 5 (.cells #[Z.n t1.k, Z.n t1.a, .string t1.nm, .int .i64 t1.n, .slice A1 t1.ks.length c1, Z.n t2.k, Z.n t2.a, .string t2.nm, .int .i64 t2.n, .slice A2 t2.ks.length c2] 24) 2 2 (fun k3 w8 l3 x7 b7 => ⟨(y6.ext x7), ?_⟩)
    have zw8 := x7.size
    have tb7 := b7.lt
    refine Z.h (y6.ext x7) (fun hS2 => ?_)
    refine Z.t 6 (.agg #[.int .i64 10, Z.n t1.a, .string Z.E, .int .i64 0, .slice (some ⟨k3, 0, none⟩) 2 2]) hS2 ?_
    refine Z.oSa 7 #[.int .i64 10, Z.n t1.a, .string Z.E, .int .i64 0, .slice (some ⟨k3, 0, none⟩) 2 2] (((((((b1.upd1 x2).ext x3).upd1 u1).upd1 x4).ext x5).upd1 x6).ext x7) (fun w9 u2 b8 => ⟨((y6.ext x7).upd1 u2), ?_⟩)
    have zw9 := u2.size
    refine Z.q ?_
    refine Z.x (wp_ret (Gx.then_ret (Gx.ret (Gx.res_c (u := .agg #[.int .i64 10, Z.n t1.a, .string Z.E, .int .i64 0, .slice (some ⟨k3, 0, none⟩) 2 2]) rfl (by kernel_rfl) b8 (by kernel_rfl)) ?_)))
    exact hK _ (Nd.mk 10 t1.a Z.E (0 : Int) [t1, t2]) (some (⟨k3, 0, none⟩ : Addr)) 2 q3 (by rw [run_succ]; simp only [stepN, anyS, y4, e2, kbq2, e3, kbq3, h_c36, Z.ifs, reduceIte]) f3 (gb_new (gb_ext (gb_upd y5 x6) x7) u2) ((b6.ext x7).upd1 u2) (KV.of_row [(t1, A1, c1), (t2, A2, c2)] (n := 10) (b7.upd1 u2) rfl ⟨by omega, by omega, (fun hj => by cases hj)⟩ (by intro p hp; simp only [List.mem_cons, List.not_mem_nil, or_false] at hp; rcases hp with rfl | rfl; exact (KV.top (((((((kv1.ext x3).upd u1).upd x4).ext x5).upd x6).ext x7).upd u2)); exact (KV.top ((kv2.ext x7).upd u2))))
  refine wp_skip (Z.x (Z.r [0, 1] ?_))
  refine Z.L 0 (.agg (Z.T t1 A1 c1)) (b4.upd1 x4) ?_
  refine Z.Sa (Z.T t1 A1 c1) ((((b1.upd1 x2).ext x3).upd1 u1).upd1 x4) (fun w10 u3 b9 zw10 => ?_)
  refine Z.e (wp_ret (Gx.ret (Gx.res_c (u := .agg (Z.T t1 A1 c1)) rfl (by kernel_rfl) b9 (by kernel_rfl)) ?_))
  exact hK _ t1 A1 c1 q2 (by rw [run_succ]; simp only [stepN, anyS, y4, e2, kbq2, h_c36, Z.ifs, reduceIte]) f2 (gb_new (gb_upd y3 x4) u3) (b5.upd1 u3) (KV.top ((((kv1.ext x3).upd u1).upd x4).upd u3))
theorem any_p (k : Nat) (b : Nat) (S : ByteArray) (q : Rs) (w : World) (K : Ending → World → Prop) (ih : ∀ j, j ≤ k → SpecP j) (hb : Gx.Has w b (rdP S q)) (hok : Ok S q) (f0 : q.fk = 0) (hmu : 16 * M S q + 10 ≤ k + 1) (hP : (PQ w b K ((run S (k + 1) .any q).2))) (hK : ∀ w' t A c q', run S (k + 1) .any q = (t, q') → q'.fk = 0 → Gx.G w w' (some b) → Gx.Has w' b (rdP S q') → KV (In w.heap.size w'.heap.size []) w' t.ks A c → K (.returned (.agg (Z.T t A c))) w') : Calls Tryd.prog 76 #[Z.P b 0] w K := by
  rcases Bool.eq_false_or_eq_true (q.t.toList == Z.k12.toList) with h0 | h0
  · exact any_p_kw k b S q w K ih hb hok f0 hmu 98 (fun q' => run S k (.letN q.a) q') (by simp only [keywordV, h0, if_true, if_false, Bool.false_eq_true, reduceIte]) (fun _ _ _ => by kernel_rfl) (fun hw => any_0  (kw_yes f0 hw h0)) (fun q' f => id_run f k _) (fun q1 w K hb hok f0 hM hP hK => (ih k (Nat.le_refl k)).f_letN b S q1 q.a w K hb hok f0 (by omega) hP hK) hP hK
  rcases Bool.eq_false_or_eq_true (q.t.toList == Z.k25.toList) with h1 | h1
  · exact any_p_kw k b S q w K ih hb hok f0 hmu 99 (fun q' => fnR S k q.a q') (by simp only [keywordV, h0, h1, if_true, if_false, Bool.false_eq_true, reduceIte]) (fun _ _ _ => by kernel_rfl) (fun hw => any_1 (kw_ne h1 (by kernel_rfl)) (kw_yes f0 hw h1)) (fun q' f => by simp only [fnR, idl f]) (fun q1 w K hb hok f0 hM hP hK => fn_p k b S q1 q.a w K ih hb hok f0 (by omega) hP hK) hP hK
  rcases Bool.eq_false_or_eq_true (q.t.toList == Z.k28.toList) with h2 | h2
  · exact any_p_kw k b S q w K ih hb hok f0 hmu 100 (fun q' => ifR S (run S k) q.a q') (by simp only [keywordV, h0, h1, h2, if_true, if_false, Bool.false_eq_true, reduceIte]) (fun _ _ _ => by kernel_rfl) (fun hw => any_2 (kw_ne h2 (by kernel_rfl)) (kw_ne h2 (by kernel_rfl)) (kw_yes f0 hw h2)) (fun q' f => by simp only [ifR, idl f]) (fun q1 w K hb hok f0 hM hP hK => choice_p k b S q1 q.a w K ih hb hok f0 (by omega) hP hK) hP hK
  rcases Bool.eq_false_or_eq_true (q.t.toList == Z.k32.toList) with h3 | h3
  · exact any_p_kw k b S q w K ih hb hok f0 hmu 101 (fun q' => run S k (.cases q.a) q') (by simp only [keywordV, h0, h1, h2, h3, if_true, if_false, Bool.false_eq_true, reduceIte]) (fun _ _ _ => by kernel_rfl) (fun hw => any_3 (kw_ne h3 (by kernel_rfl)) (kw_ne h3 (by kernel_rfl)) (kw_ne h3 (by kernel_rfl)) (kw_yes f0 hw h3)) (fun q' f => id_run f k _) (fun q1 w K hb hok f0 hM hP hK => (ih k (Nat.le_refl k)).f_cases b S q1 q.a w K hb hok f0 (by omega) hP hK) hP hK
  rcases Bool.eq_false_or_eq_true (q.t.toList == Z.k27.toList) with h4 | h4
  · obtain ⟨kk, hkk⟩ : ∃ kk, k = kk + 1 := ⟨k - 1, by omega⟩
    exact any_p_kw k b S q w K ih hb hok f0 hmu 102 (fun q' => handT S (run S kk) q.a 0 q') (by simp only [keywordV, h0, h1, h2, h3, h4, if_true, if_false, Bool.false_eq_true, reduceIte]) (fun _ _ _ => by kernel_rfl) (fun hw => any_4 (kw_ne h4 (by kernel_rfl)) (kw_ne h4 (by kernel_rfl)) (kw_ne h4 (by kernel_rfl)) (kw_ne h4 (by kernel_rfl)) hkk (kw_yes f0 hw h4)) (fun q' f => by simp only [handT, idl f]) (fun q1 w K hb hok f0 hM hP hK => handle_p kk b S q1 q.a w K (fun j hj => ih j (by omega)) hb hok f0 (by omega) hP hK) hP hK
  rcases Bool.eq_false_or_eq_true (q.t.toList == Z.k33.toList) with h5 | h5
  · obtain ⟨kk, hkk⟩ : ∃ kk, k = kk + 1 := ⟨k - 1, by omega⟩
    exact any_p_kw k b S q w K ih hb hok f0 hmu 103 (fun q' => handT S (run S kk) q.a 1 q') (by simp only [keywordV, h0, h1, h2, h3, h4, h5, if_true, if_false, Bool.false_eq_true, reduceIte]) (fun _ _ _ => by kernel_rfl) (fun hw => any_5 (kw_ne h5 (by kernel_rfl)) (kw_ne h5 (by kernel_rfl)) (kw_ne h5 (by kernel_rfl)) (kw_ne h5 (by kernel_rfl)) (kw_ne h5 (by kernel_rfl)) hkk (kw_yes f0 hw h5)) (fun q' f => by simp only [handT, idl f]) (fun q1 w K hb hok f0 hM hP hK => shallow_p kk b S q1 q.a w K (fun j hj => ih j (by omega)) hb hok f0 (by omega) hP hK) hP hK
  exact any_p_no k b S q w K ih hb hok f0 hmu h0 h1 h2 h3 h4 h5 hP hK
end Par
end Go.Proofs.YtinilkomfggjiaaDoor
