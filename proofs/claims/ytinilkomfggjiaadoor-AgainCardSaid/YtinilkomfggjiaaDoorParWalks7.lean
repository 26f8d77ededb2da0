/- The walks, written by a program of ours (wip/gx/gx.py, parsegen.py). -/
import Derived.Test.YtinilkomfggjiaaDoorRows
import Derived.Test.YtinilkomfggjiaaDoorGs
import Derived.Test.YtinilkomfggjiaaDoorGp
import Derived.Test.YtinilkomfggjiaaDoorZs
import Derived.Test.YtinilkomfggjiaaDoorLexWalks4
import Derived.Test.YtinilkomfggjiaaDoorParWalks6
set_option linter.unusedVariables false
set_option linter.unusedSimpArgs false
set_option maxHeartbeats 4000000
set_option maxRecDepth 20000
namespace Go.Proofs.YtinilkomfggjiaaDoor
namespace Par
open Go.RowKit Go.Lex Go.Syn
attribute [local irreducible] Go.wpOps Go.Code.wp Go.wpOp Go.wpAnyH Go.Calls
theorem prog_p (k : Nat) (b : Nat) (S : ByteArray) (q : Rs) (w : World) (K : Ending → World → Prop) (ih : ∀ j, j ≤ k → SpecP j) (hb : Gx.Has w b (rdP S q)) (hok : Ok S q) (f0 : q.fk = 0) (hmu : 16 * M S q + 14 ≤ k + 1) (hP : (PQ w b K ((run S (k + 1) .prog q).2))) (hK : ∀ w' t A c q', run S (k + 1) .prog q = (t, q') → q'.fk = 0 → Gx.G w w' (some b) → Gx.Has w' b (rdP S q') → KV (In w.heap.size w'.heap.size []) w' t.ks A c → K (.returned (.agg (Z.T t A c))) w') :
    Calls Tryd.prog 27 #[Z.P b 0] w K := by
  refine Z.en 95 Tryd.func27 ?_
  have tbb := hb.lt
  have kbq := (okB_iff q).2 f0
  refine Z.r [0] ?_
  refine Z.N Z.c0 (fun k1 w1 l1 x1 b1 zw1 tb1 => ?_)
  refine Z.e (Z.r [0, 1, 2] ?_)
  refine Z.p [0] [1, 2] [(10, .agg Z.t0)] ?_
  refine Z.N Z.c0 (fun k2 w2 l2 x2 b2 zw2 tb2 => ?_)
  refine Z.Sa Z.t0 b2 (fun w3 u1 b3 zw3 => ?_)
  refine Z.e (wp_seq (Z.r [0, 1, 2, 3, 4, 5] ?_))
  refine Z.p [0, 1, 2, 3] [4, 5] [(14, Z.P b 2), (13, Z.P b 1), (12, Z.P b 0), (11, Z.P b 0)] ?_
  have y1 := ((hb.ext x1).ext x2).upd1 u1
  refine Z.L 2 (Z.n q.a) y1 ?_
  refine Z.p [5] [] [(4, Z.n q.a)] ?_
  refine Z.e (wp_block ?_)
  have hbz : w3.heap.size ≤ w3.heap.size := by omega
  refine Gx.loop (n' := 95) (d' := []) (fun mz l' w' => ∃ (j : Nat) (p : Rs) (A : Option Addr) (c : Nat) (L : List (Nd × Option Addr × Nat)), l' = [(0, Z.P b 0), (2, Z.P k1 0), (3, Z.P k2 0), (4, Z.n p.a)] ∧ mz = M S p ∧ Gx.G w w' (some b) ∧ Gx.Has w' b (.cells #[.string S, Z.n p.k, Z.n p.a, .string p.t, Z.n p.n, Z.n p.e, Z.n p.x, Z.n p.y] 54) ∧ Gx.Has w' k1 Z.c0 ∧ Gx.Has w' k2 (.cells #[.int .i64 0, .int .i64 0, .string Z.E, Z.n L.length, (.slice A L.length c : Value)] 24) ∧ (j ≤ k) ∧ (16 * M S p + 13 ≤ j) ∧ (run S j (.opsL (nds L)) p = run S k (.opsL []) q) ∧ (Ok S p) ∧ (w'.ownsRow w3.heap.size 24 5 (.slice A L.length c : Value) L.length (flat L)) ∧ (∀ p' ∈ L, KV (InV w3.heap.size w'.heap.size [k1, k2] (.slice A L.length c : Value)) w' p'.1.ks p'.2.1 p'.2.2) ∧ (L.length + M S p ≤ 4000) ∧ (M S p ≤ M S q) ∧ (p.x = q.x ∧ p.y = q.y) ∧ (w3.heap.size ≤ w'.heap.size) ∧ (p.fk = 0) ∧ (∀ j, (.slice A L.length c : Value).ownBlock = some j → w3.heap.size ≤ j ∧ j ≠ k1 ∧ j ≠ k2)) _ _ [(0, Z.P b 0), (2, Z.P k1 0), (3, Z.P k2 0), (4, Z.n q.a)] (Gx.forget [(0, Z.P b 0), (2, Z.P k1 0), (3, Z.P k2 0), (4, Z.n q.a)] (by kernel_rfl)) ⟨k, q, none, 0, Z.nl, rfl, rfl, (gb_new (gb_ext (gb_ext (gb_refl w b) x1) x2) u1), y1, ((b1.ext x2).upd1 u1), b3, (by omega), (by omega), rfl, hok, ⟨by simp [flat], .inl ⟨rfl, rfl⟩⟩, (fun p' hp' => by cases hp'), (by have := M_le hok; simp only [List.length_append, List.length_cons, List.length_nil]; omega), (Nat.le_refl _), ⟨rfl, rfl⟩, (by omega), f0, (fun j e => by cases e)⟩ (fun bb1 m1 ll1 w4 hI1 K1 hK1 => ?_)
  obtain ⟨j, p, A, c, L, rfl, rfl, x3, b4, b5, b6, hj, hm, hr, ho, how, hks, hlen, hM, hxy, hbs, hf, hnx⟩ := hI1
  have zw4 := x3.size
  have tb4 := b4.lt
  have tb5 := b5.lt
  have tb6 := b6.lt
  have hbl : ∀ j, (.slice A L.length c : Value).ownBlock = some j → (w3.heap.size ≤ j ∧ j < w4.heap.size ∧ j ≠ k1 ∧ j ≠ k2) := fun j e => by have z := how.lt j e; have z' := hnx j e; omega
  obtain ⟨i, rfl⟩ : ∃ i, j = i + 1 := ⟨j - 1, by omega⟩
  have kbp := (okB_iff p).2 hf
  refine wp_seq (Z.r [0, 1] ?_)
  refine Z.p [0] [1] [(16, Z.P b 0)] ?_
  have y2 := gb_upd (gb_refl w b) x3
  refine Z.kP (fun R hR hE => eat_p b S p Z.k51 _ R b4 ho hf (fun w5 q1 e1 f1 x4 => hE _ _ (And.intro rfl (hP _ q1 (by have zl : (run S k (.opsL []) q).2 = q1 := (by rw [← hr]; simp only [run_succ, stepN, opsLS, opsT, kbp, Z.ifs, reduceIte, e1, has_pan e1 f1 hf, (show nextR S p = q1 from (has_is (S := S) (has_pan e1 f1 hf)).symm.trans e1), idl f1]); (try simp only [maps] at zl); rw [run_succ]; simp only [stepN, progS, Nd.ks, maps, kbq, Z.ifs, reduceIte, zl, idl f1]) f1 (gb_upd y2 x4)))) (fun w5 q1 e1 f1 x4 b7 => hR _ _ ?_))
  have zw5 := x4.size
  have tb7 := b7.lt
  obtain ⟨ok1, ok1m, ok1x, ok1y⟩ : Tr S p q1 := e1 ▸ has_tr ho
  have kbq1 := (okB_iff q1).2 f1
  refine Z.e (Z.c (isB p Z.k51) (fun h_c17 => ?_) (fun h_c17 => ?_))
  · skip
    refine wp_skip (Z.x (wp_seq (wp_block ?_)))
    have lt1 := (Z.lt ho h_c17 e1)
    have nz1 : nextR S p = q1 := (has_is (S := S) h_c17).symm.trans e1
    refine Z.r [0, 1, 2] ?_
    refine Z.p [0] [1, 2] [(23, Z.P b 0)] ?_
    have y3 := Z.a kbp (Z.a e1 (Z.a kbq1 nz1))
    have y4 := Z.a kbq h_c17
    refine Z.kP (fun R hR hE => eat_p b S q1 Z.k39 _ R b7 ok1 f1 (fun w6 q2 e2 f2 x5 => hE _ _ (And.intro rfl (hP _ q2 (by have zl : (run S k (.opsL []) q).2 = q2 := (by rw [← hr]; simp only [run_succ, stepN, opsLS, opsT, y3, h_c17, Z.ifs, reduceIte, e2, has_pan e2 f2 f1, (show nextR S q1 = q2 from (has_is (S := S) (has_pan e2 f2 f1)).symm.trans e2), idl f2]); (try simp only [maps] at zl); rw [run_succ]; simp only [stepN, progS, Nd.ks, maps, y4, Z.ifs, reduceIte, zl, idl f2]) f2 (gb_upd (gb_upd y2 x4) x5)))) (fun w6 q2 e2 f2 x5 b8 => hR _ _ ?_))
    have zw6 := x5.size
    have tb8 := b8.lt
    obtain ⟨ok2, ok2m, ok2x, ok2y⟩ : Tr S q1 q2 := e2 ▸ has_tr ok1
    have kbq2 := (okB_iff q2).2 f2
    refine Z.p [2] [] [(5, .bool (isB q1 Z.k39))] ?_
    refine Z.e (wp_seq (Gx.splitC (isB q1 Z.k39) (fun h_gf22_1 => ?_) (fun h_gf22_1 => ?_)))
    · rw [h_gf22_1]
      have lt2 := (Z.lt ok1 h_gf22_1 e2)
      refine Z.sf [(26, .bool false), (25, .bool true)] ?_
      refine wp_skip (Z.x ?_)
      have nz2 : nextR S q1 = q2 := (has_is (S := S) h_gf22_1).symm.trans e2
      refine Z.r [0, 1, 2, 3] ?_
      refine Z.p [0] [1, 2, 3] [(30, Z.P b 0)] ?_
      have y5 := gb_upd (gb_upd y2 x4) x5
      have y6 := Z.a y3 (Z.a e2 (Z.a kbq2 nz2))
      have y7 := Z.a h_c17 h_gf22_1
      have y8 := Z.a y4 h_gf22_1
      refine Z.kP (fun R hR hE => named_p b S q2 (1 : Int) _ R b8 ok2 f2 (fun w7 q3 e3 f3 x6 => hE _ _ (And.intro rfl (hP _ q3 (by have zl : (run S k (.opsL []) q).2 = q3 := (by rw [← hr]; simp only [run_succ, stepN, opsLS, opsT, y6, y7, Z.ifs, reduceIte, e3, idl f3]); (try simp only [maps] at zl); rw [run_succ]; simp only [stepN, progS, Nd.ks, maps, y8, Z.ifs, reduceIte, zl, idl f3]) f3 (gb_upd y5 x6)))) (fun w7 q3 e3 f3 x6 b9 => hR _ _ ?_))
      have zw7 := x6.size
      have tb9 := b9.lt
      have kbq3 := (okB_iff q3).2 f3
      obtain ⟨ok3, ok3m, ok3x, ok3y⟩ : Tr S q2 q3 := by have := name_tr ok2; rw [e3] at this; exact this
      have ok3l : M S q3 < M S q2 := by have := name_lt ok2 (by rw [e3]; exact kbq3); rw [e3] at this; exact this
      refine Z.N Z.c0 (fun k3 w8 l3 x7 b10 zw8 tb10 => ?_)
      refine Z.Sa #[.int .i64 1, Z.n q2.a, .string q2.t, .int .i64 0, .slice none 0 0] b10 (fun w9 u2 b11 zw9 => ?_)
      refine Z.e (Z.r [0, 1, 2] ?_)
      refine Z.p [0, 1] [2] [(33, Z.P k3 1), (32, Z.n p.a)] ?_
      refine Z.S 1 (Z.n p.a) b11 #[.int .i64 1, Z.n p.a, .string q2.t, .int .i64 0, .slice none 0 0] (fun w10 u3 b12 zw10 => ?_)
      refine Z.e (wp_seq (Z.st [(34, .bool true)] ?_))
      refine Z.g [0, 1] ?_
      refine Z.p [0] [1] [(35, Z.P k3 3)] ?_
      refine Z.S 3 (.int .i64 1) b12 #[.int .i64 1, Z.n p.a, .string q2.t, .int .i64 1, .slice none 0 0] (fun w11 u4 b13 zw11 => ?_)
      refine Gx.ops_nil (Z.x (Z.r [0, 1, 2] ?_))
      refine Z.p [0] [1, 2] [(36, Z.P b 0)] ?_
      refine Z.R (.cells #[.string Z.k47] 9) 1 1 (fun k4 w12 l4 x8 b14 zw12 tb14 => ?_)
      have y9 := gb_ext (gb_new (gb_new (gb_new (gb_ext (gb_upd y5 x6) x7) u2) u3) u4) x8
      have y10 := Z.a y6 (Z.a e3 kbq3)
      refine Z.kP (fun R hR hE => need_p b S q3 [Z.k47] k4 1 _ R (((((b9.ext x7).upd1 u2).upd1 u3).upd1 u4).ext x8) ok3 f3 b14 (by omega) (Nat.le_of_ble_eq_true rfl) (fun w13 q4 e4 f4 x9 => hE _ _ (And.intro rfl (hP _ q4 (by have zl : (run S k (.opsL []) q).2 = q4 := (by rw [← hr]; simp only [run_succ, stepN, opsLS, opsT, y10, y7, Z.ifs, reduceIte, (show mustR S q3 Z.k47 = q4 from e4), idl f4]); (try simp only [maps] at zl); rw [run_succ]; simp only [stepN, progS, Nd.ks, maps, y8, Z.ifs, reduceIte, zl, idl f4]) f4 (gb_upd y9 x9)))) (fun w13 q4 e4 f4 x9 b15 => hR _ _ ?_))
      have zw13 := x9.size
      have tb15 := b15.lt
      obtain ⟨ok4, ok4m, ok4x, ok4y⟩ : Tr S q3 q4 := e4 ▸ musts_tr _ ok3
      have e4 : mustR S q3 Z.k47 = q4 := e4
      have kbq4 := (okB_iff q4).2 f4
      refine Z.e (wp_seq (Gx.drawE (S := fun w' => Gx.Has w' k3 (.cells #[.int .i64 1, Z.n p.a, .string q2.t, .int .i64 1, .slice none 0 0] 24)) [5] (by kernel_rfl) (fun w14 x10 => ?_)))
      have zw14 := x10.size
      have y11 := ((b13.ext x8).upd1 x9).ext x10
      refine Z.eh y11 (fun hS1 => ?_)
      refine Z.es 0 [4, 5] 0 (.agg #[.int .i64 1, Z.n p.a, .string q2.t, .int .i64 1, .slice none 0 0]) (fun _ hs => hs) hS1 ?_
      refine Z.et 1 (Z.P b 0) (fun _ => hS1) ?_
      have y12 := gb_ext (gb_upd y9 x9) x10
      refine Z.eP 2 (fun R hR hE => (ih i (by omega)).f_typ b S q4 _ R (b15.ext x10) ok4 f4 (by omega) (fun w15 q5 e5 f5 x11 => hE _ _ (And.intro rfl (hP _ q5 (by have zl : (run S k (.opsL []) q).2 = q5 := (by rw [← hr]; simp only [run_succ, stepN, opsLS, opsT, y10, e4, kbq4, y7, Z.ifs, reduceIte, e5, idl f5]); (try simp only [maps] at zl); rw [run_succ]; simp only [stepN, progS, Nd.ks, maps, y8, Z.ifs, reduceIte, zl, idl f5]) f5 (gb_upd y12 x11)))) (fun w15 t1 A1 c1 q5 e5 f5 x11 b16 kv1 => hR _ _ ⟨(fun _ => (y11.upd1 x11)), ?_⟩))
      have zw15 := x11.size
      have tb16 := b16.lt
      have kbq5 := (okB_iff q5).2 f5
      obtain ⟨ok5, ok5m, ok5x, ok5y⟩ : Tr S q4 q5 := run_facts ok4 e5
      refine Z.eR 3 (.cells (Z.T t1 A1 c1) 24) 1 1 (fun k5 w16 l5 x12 b17 => ⟨(fun _ => ((y11.upd1 x11).ext x12)), ?_⟩)
      have zw16 := x12.size
      have tb17 := b17.lt
      have ow1 : w16.ownsRow w14.heap.size 24 5 (.slice none 0 0) Z.nl.length (flat Z.nl) := ⟨by simp [flat], .inl ⟨rfl, rfl⟩⟩
      refine Z.eK 4 (fun R hR => with_p w14.heap.size k5 1 Z.nl [(t1, A1, c1)] none 0 (Z.T t1 A1 c1) (1 : Int) ((p.a : Nat) : Int) (1 : Int) q2.t _ R ow1 b17 rfl (by simp only [List.length_append, List.length_cons, List.length_nil]; omega) (by omega) (fun A2 c2 w17 nk1 ow2 nl1 hnk1 g1 => hR _ _ ⟨(fun _ => (((y11.upd1 x11).ext x12).upd g1 (fun e => by cases e))), ?_⟩))
      have zw17 := g1.size
      have hb1 : ∀ j, ((.slice A2 (Z.nl ++ [(t1, A1, c1)]).length c2 : Value) : Value).ownBlock = some j → (j = nk1 ∧ j < w17.heap.size) := fun j e => by have l := (ow2).lt j e; rcases nl1 with q | q; (rw [q] at e; cases e); (rw [q] at e; cases e; omega)
      have hkx1 : Z.ks (InV w14.heap.size w17.heap.size [k1, k2, k3] (.slice A2 (Z.nl ++ [(t1, A1, c1)]).length c2 : Value)) w17 (Z.nl ++ [(t1, A1, c1)]) := Z.m0 (KV.topV (KV.ofIn ((kv1.ext x12).app g1 (fun j e => by cases e)) (fun j e => by have z := hb1 j e; first | (left; omega) | (right; omega) | omega)))
      refine Z.eSa 5 #[.int .i64 1, Z.n p.a, .string q2.t, .int .i64 1, (.slice A2 (Z.nl ++ [(t1, A1, c1)]).length c2 : Value)] (((y11.upd1 x11).ext x12).upd g1 (fun e => by cases e)) (fun w18 u5 b18 => ⟨(Gx.not_clear (by kernel_rfl)), ?_⟩)
      have zw18 := u5.size
      refine Gx.anyE_done (by kernel_rfl) ?_ _
      refine Z.x (Z.r [0, 1, 2] ?_)
      refine Z.p [0] [1, 2] [(44, Z.P b 0)] ?_
      refine Z.R (.cells #[.string Z.k1] 9) 1 1 (fun k6 w19 l6 x13 b19 zw19 tb19 => ?_)
      have y13 := gb_ext (gb_new (gb_app (gb_ext (gb_upd y12 x11) x12) g1 (fun j e => by have := (ow1).lt j e; omega)) u5) x13
      refine Z.kP (fun R hR hE => need_p b S q5 [Z.k1] k6 1 _ R ((((b16.ext x12).upd g1 (fun e => by cases e)).upd1 u5).ext x13) ok5 f5 b19 (by omega) (Nat.le_of_ble_eq_true rfl) (fun w20 q6 e6 f6 x14 => hE _ _ (And.intro rfl (hP _ q6 (by have zl : (run S k (.opsL []) q).2 = q6 := (by rw [← hr]; simp only [run_succ, stepN, opsLS, opsT, y10, e4, kbq4, e5, kbq5, y7, Z.ifs, reduceIte, (show mustR S q5 Z.k1 = q6 from e6), idl f6]); (try simp only [maps] at zl); rw [run_succ]; simp only [stepN, progS, Nd.ks, maps, y8, Z.ifs, reduceIte, zl, idl f6]) f6 (gb_upd y13 x14)))) (fun w20 q6 e6 f6 x14 b20 => hR _ _ ?_))
      have zw20 := x14.size
      have tb20 := b20.lt
      obtain ⟨ok6, ok6m, ok6x, ok6y⟩ : Tr S q5 q6 := e6 ▸ musts_tr _ ok5
      have e6 : mustR S q5 Z.k1 = q6 := e6
      have kbq6 := (okB_iff q6).2 f6
      refine Z.e (wp_seq (Gx.drawE (S := fun w' => Gx.Has w' k2 (.cells #[.int .i64 0, .int .i64 0, .string Z.E, Z.n L.length, (.slice A L.length c : Value)] 24) ∧ Gx.Has w' k3 (.cells #[.int .i64 1, Z.n p.a, .string q2.t, .int .i64 1, (.slice A2 (Z.nl ++ [(t1, A1, c1)]).length c2 : Value)] 24)) [8] (by kernel_rfl) (fun w21 x15 => ?_)))
      have zw21 := x15.size
      have y14 := ((((((((((((((((b6.upd1 x4).upd1 x5).upd1 x6).ext x7).upd1 u2).upd1 u3).upd1 u4).ext x8).upd1 x9).ext x10).upd1 x11).ext x12).upd g1 (fun e => by cases e)).upd1 u5).ext x13).upd1 x14).ext x15
      have y15 := ((b18.ext x13).upd1 x14).ext x15
      refine Z.eh ⟨y14, y15⟩ (fun hS2 => ?_)
      refine Z.es 0 [7, 8] 0 (.agg #[.int .i64 0, .int .i64 0, .string Z.E, Z.n L.length, (.slice A L.length c : Value)]) (fun _ hs => hs.1) hS2 ?_
      refine Z.es 1 [5, 6, 7, 8] 0 (.agg #[.int .i64 1, Z.n p.a, .string q2.t, .int .i64 1, (.slice A2 (Z.nl ++ [(t1, A1, c1)]).length c2 : Value)]) (fun _ hs => hs.2) hS2 ?_
      refine Z.et 2 (Z.P b 0) (fun _ => hS2) ?_
      have y16 := gb_ext (gb_upd y13 x14) x15
      refine Z.eP 3 (fun R hR hE => (ih i (by omega)).f_typ b S q6 _ R (b20.ext x15) ok6 f6 (by omega) (fun w22 q7 e7 f7 x16 => hE _ _ (And.intro rfl (hP _ q7 (by have zl : (run S k (.opsL []) q).2 = q7 := (by rw [← hr]; simp only [run_succ, stepN, opsLS, opsT, y10, e4, kbq4, e5, kbq5, e6, kbq6, y7, Z.ifs, reduceIte, e7, idl f7]); (try simp only [maps] at zl); rw [run_succ]; simp only [stepN, progS, Nd.ks, maps, y8, Z.ifs, reduceIte, zl, idl f7]) f7 (gb_upd y16 x16)))) (fun w22 t2 A3 c3 q7 e7 f7 x16 b21 kv2 => hR _ _ ⟨(fun _ => ⟨(y14.upd1 x16), (y15.upd1 x16)⟩), ?_⟩))
      have zw22 := x16.size
      have tb21 := b21.lt
      have kbq7 := (okB_iff q7).2 f7
      obtain ⟨ok7, ok7m, ok7x, ok7y⟩ : Tr S q6 q7 := run_facts ok6 e7
      refine Z.eR 4 (.cells (Z.T t2 A3 c3) 24) 1 1 (fun k7 w23 l7 x17 b22 => ⟨(fun _ => ⟨((y14.upd1 x16).ext x17), ((y15.upd1 x16).ext x17)⟩), ?_⟩)
      have zw23 := x17.size
      have tb22 := b22.lt
      have y17 := Gx.own_ext (Gx.own_upd1 (Gx.own_ext (Gx.own_upd1 (Gx.own_ext (Gx.own_upd1 ow2 u5 (fun q e => by have z := hb1 q e; omega)) x13) x14 (fun q e => by have z := hb1 q e; omega)) x15) x16 (fun q e => by have z := hb1 q e; omega)) x17
      refine Z.eK 5 (fun R hR => with_p w14.heap.size k7 1 (Z.nl ++ [(t1, A1, c1)]) [(t2, A3, c3)] A2 c2 (Z.T t2 A3 c3) (1 : Int) ((p.a : Nat) : Int) (1 : Int) q2.t _ R y17 b22 rfl (by simp only [List.length_append, List.length_cons, List.length_nil]; omega) (by omega) (fun A4 c4 w24 nk2 ow3 nl2 hnk2 g2 => hR _ _ ⟨(fun _ => ⟨(((y14.upd1 x16).ext x17).upd g2 (fun e => by have := hb1 _ e.symm; omega)), (((y15.upd1 x16).ext x17).upd g2 (fun e => by have := hb1 _ e.symm; omega))⟩), ?_⟩))
      have zw24 := g2.size
      have hb2 : ∀ j, ((.slice A4 ((Z.nl ++ [(t1, A1, c1)]) ++ [(t2, A3, c3)]).length c4 : Value) : Value).ownBlock = some j → (j = nk1 ∧ j < w17.heap.size) ∨ (j = nk2 ∧ j < w24.heap.size) := fun j e => by have l := (ow3).lt j e; rcases nl2 with q | q; (rw [q] at e; have z := hb1 j e; omega); (rw [q] at e; cases e; omega)
      have hkx2 : Z.ks (InV w14.heap.size w24.heap.size [k1, k2, k3] (.slice A4 ((Z.nl ++ [(t1, A1, c1)]) ++ [(t2, A3, c3)]).length c4 : Value)) w24 ((Z.nl ++ [(t1, A1, c1)]) ++ [(t2, A3, c3)]) := Z.m1 (Q' := fun _ => True) (w' := w24) (fun p' h0 => (KV.topV ((((((((((hkx1 p' h0).updV u5).extV x13).updV x14).extV x15).updV x16).extV x17)).appV g2).toV nl2 (by omega)))) (KV.topV (KV.ofIn ((kv2.ext x17).app g2 (fun j e => by have z := hb1 j e; first | (left; omega) | (right; left; omega) | omega)) (fun j e => by have z := hb2 j e; first | (left; omega) | (right; omega) | omega)))
      refine Z.eR 6 (.cells #[.int .i64 1, Z.n p.a, .string q2.t, .int .i64 1, (.slice A4 ((Z.nl ++ [(t1, A1, c1)]) ++ [(t2, A3, c3)]).length c4 : Value)] 24) 1 1 (fun k8 w25 l8 x18 b23 => ⟨(fun _ => ⟨((((y14.upd1 x16).ext x17).upd g2 (fun e => by have := hb1 _ e.symm; omega)).ext x18), ((((y15.upd1 x16).ext x17).upd g2 (fun e => by have := hb1 _ e.symm; omega)).ext x18)⟩), ?_⟩)
      have zw25 := x18.size
      have tb23 := b23.lt
      obtain ⟨A5, c5, hvkv3, kv3⟩ := KV.of_own (Q := In w14.heap.size w25.heap.size [k1, k2, k3]) ((Z.nl ++ [(t1, A1, c1)]) ++ [(t2, A3, c3)]) (Gx.own_ext ow3 x18) (fun j e => by have := ((Gx.own_ext ow3 x18)).lt j e; exact ⟨by omega, by omega, (by have z := hb2 j e; simp only [List.mem_cons, List.not_mem_nil, or_false, not_or]; omega)⟩) (fun p' h0 => (KV.topV ((hkx2 p' h0).extV x18)).noV)
      rw [nds_len] at hvkv3; cases hvkv3
      have y18 := Gx.own_ext (Gx.own_updr (Gx.own_ext (Gx.own_upd1 (Gx.own_ext (Gx.own_upd1 (Gx.own_ext (Gx.own_upd1 (Gx.own_updr (Gx.own_ext (Gx.own_upd1 (Gx.own_ext (Gx.own_upd1 (Gx.own_ext (Gx.own_upd1 (Gx.own_upd1 (Gx.own_upd1 (Gx.own_ext (Gx.own_upd1 (Gx.own_upd1 (Gx.own_upd1 how x4 (fun q e => by have z := hbl q e; omega)) x5 (fun q e => by have z := hbl q e; omega)) x6 (fun q e => by have z := hbl q e; omega)) x7) u2 (fun q e => by have z := hbl q e; omega)) u3 (fun q e => by have z := hbl q e; omega)) u4 (fun q e => by have z := hbl q e; omega)) x8) x9 (fun q e => by have z := hbl q e; omega)) x10) x11 (fun q e => by have z := hbl q e; omega)) x12) g1 (fun q e j e' => by have z := hbl q e; have := (ow1).lt j e'; omega)) u5 (fun q e => by have z := hbl q e; omega)) x13) x14 (fun q e => by have z := hbl q e; omega)) x15) x16 (fun q e => by have z := hbl q e; omega)) x17) g2 (fun q e j e' => by have z := hbl q e; have := (ow2).lt j e'; omega)) x18
      refine Z.eK 7 (fun R hR => with_p w3.heap.size k8 1 L [((Nd.mk 1 p.a q2.t (1 : Int) (nds ((Z.nl ++ [(t1, A1, c1)]) ++ [(t2, A3, c3)]))), A4, c4)] A c #[.int .i64 1, Z.n p.a, .string q2.t, .int .i64 1, .slice A4 (((Z.nl ++ [(t1, A1, c1)]) ++ [(t2, A3, c3)]).length) c4] (0 : Int) (0 : Int) ((L.length : Nat) : Int) Z.E _ R y18 b23 rfl (by simp only [List.length_append, List.length_cons, List.length_nil]; omega) (by omega) (fun A6 c6 w26 nk3 ow4 nl3 hnk3 g3 => hR _ _ ⟨(fun _ => ⟨(((((y14.upd1 x16).ext x17).upd g2 (fun e => by have := hb1 _ e.symm; omega)).ext x18).upd g3 (fun e => by have := hbl _ e.symm; omega)), (((((y15.upd1 x16).ext x17).upd g2 (fun e => by have := hb1 _ e.symm; omega)).ext x18).upd g3 (fun e => by have := hbl _ e.symm; omega))⟩), ?_⟩))
      have zw26 := g3.size
      have hb3 : ∀ j, ((.slice A6 (L ++ [((Nd.mk 1 p.a q2.t (1 : Int) (nds ((Z.nl ++ [(t1, A1, c1)]) ++ [(t2, A3, c3)]))), A4, c4)]).length c6 : Value) : Value).ownBlock = some j → (w3.heap.size ≤ j ∧ j < w4.heap.size ∧ j ≠ k1 ∧ j ≠ k2) ∨ (j = nk3 ∧ j < w26.heap.size) := fun j e => by have l := (ow4).lt j e; rcases nl3 with q | q; (rw [q] at e; have z := hbl j e; omega); (rw [q] at e; cases e; omega)
      have hkx3 : Z.ks (InV w3.heap.size w26.heap.size [k1, k2, k3] (.slice A6 (L ++ [((Nd.mk 1 p.a q2.t (1 : Int) (nds ((Z.nl ++ [(t1, A1, c1)]) ++ [(t2, A3, c3)]))), A4, c4)]).length c6 : Value)) w26 (L ++ [((Nd.mk 1 p.a q2.t (1 : Int) (nds ((Z.nl ++ [(t1, A1, c1)]) ++ [(t2, A3, c3)]))), A4, c4)]) := Z.m1 (Q' := fun _ => True) (w' := w26) (fun p' h0 => (KV.topV (((((((((((((((((((((((((hks p' h0).updV x4).updV x5).updV x6).extV x7).updV u2).updV u3).updV u4).extV x8).updV x9).extV x10).updV x11).extV x12).otherV g1 (fun j e => by have := (ow1).lt j e; first | (left; omega) | (right; omega))).updV u5).extV x13).updV x14).extV x15).updV x16).extV x17).otherV g2 (fun j e => by have := (y17).lt j e; first | (left; omega) | (right; omega))).extV x18)).appV g3).toV nl3 (by omega)))) (KV.topV (KV.ofIn (kv3.app g3 (fun j e => by have z := hbl j e; first | (left; omega) | (right; left; omega) | omega)) (fun j e => by have z := hb3 j e; first | (left; omega) | (right; omega) | omega)))
      refine Z.eSa 8 #[.int .i64 0, .int .i64 0, .string Z.E, Z.n L.length, (.slice A6 (L ++ [((Nd.mk 1 p.a q2.t (1 : Int) (nds ((Z.nl ++ [(t1, A1, c1)]) ++ [(t2, A3, c3)]))), A4, c4)]).length c6 : Value)] (((((y14.upd1 x16).ext x17).upd g2 (fun e => by have := hb1 _ e.symm; omega)).ext x18).upd g3 (fun e => by have := hbl _ e.symm; omega)) (fun w27 u6 b24 => ⟨(Gx.not_clear (by kernel_rfl)), ?_⟩)
      have zw27 := u6.size
      refine Gx.anyE_done (by kernel_rfl) ?_ _
      refine Z.x (Z.g [0, 1, 2, 3, 4] ?_)
      refine Z.p [0] [1, 2, 3, 4] [(55, Z.P k2 3)] ?_
      refine Z.L 3 (Z.n L.length) b24 ?_
      refine Gx.pure_eq [2] [3, 4] [(57, .int .i64 (IntKind.i64.wrap (((L.length : Nat) : Int) + (1 : Int))))] [(57, .int .i64 (((L ++ [((Nd.mk 1 p.a q2.t (1 : Int) (nds ((Z.nl ++ [(t1, A1, c1)]) ++ [(t2, A3, c3)]))), A4, c4)]).length : Nat) : Int))] rfl (by kernel_rfl) (Gx.eqI (Gx.i64n (by rw [List.length_append]; rfl) (by rw [List.length_append]; show _ + 1 ≤ _; omega))) ?_
      refine Z.p [3] [4] [(58, Z.P k2 3)] ?_
      refine Z.S 3 (.int .i64 (((L ++ [((Nd.mk 1 p.a q2.t (1 : Int) (nds ((Z.nl ++ [(t1, A1, c1)]) ++ [(t2, A3, c3)]))), A4, c4)]).length : Nat) : Int)) b24 #[.int .i64 0, .int .i64 0, .string Z.E, .int .i64 (((L ++ [((Nd.mk 1 p.a q2.t (1 : Int) (nds ((Z.nl ++ [(t1, A1, c1)]) ++ [(t2, A3, c3)]))), A4, c4)]).length : Nat) : Int), (.slice A6 (L ++ [((Nd.mk 1 p.a q2.t (1 : Int) (nds ((Z.nl ++ [(t1, A1, c1)]) ++ [(t2, A3, c3)]))), A4, c4)]).length c6 : Value)] (fun w28 u7 b25 zw28 => ?_)
      refine Gx.ops_nil (Gx.block_normal (Z.x (Z.g [0, 1, 2, 3, 4, 5] ?_)))
      refine Z.p [0, 1, 2, 3] [4, 5] [(21, Z.P b 2), (20, Z.P b 1), (19, Z.P b 0), (18, Z.P b 0)] ?_
      have y19 := (((((b21.ext x17).upd g2 (fun e => by have := hb1 _ e.symm; omega)).ext x18).upd g3 (fun e => by have := hbl _ e.symm; omega)).upd1 u6).upd1 u7
      refine Z.L 2 (Z.n q7.a) y19 ?_
      refine Z.p [5] [] [(4, Z.n q7.a)] ?_
      refine Gx.ops_nil (Z.x ?_)
      rw [Gx.forget [(0, Z.P b 0), (2, Z.P k1 0), (3, Z.P k2 0), (4, Z.n q7.a)] (by kernel_rfl)]
      exact hK1 _ _ _ _ (by omega) ⟨i, q7, A6, c6, (L ++ [((Nd.mk 1 p.a q2.t (1 : Int) (nds ((Z.nl ++ [(t1, A1, c1)]) ++ [(t2, A3, c3)]))), A4, c4)]), rfl, rfl, (gb_new (gb_new (gb_app (gb_ext (gb_app (gb_ext (gb_upd y16 x16) x17) g2 (fun j e => by have := (y17).lt j e; omega)) x18) g3 (fun j e => by have := (y18).lt j e; omega)) u6) u7), y19, ((((((((((((((((((((((((b5.upd1 x4).upd1 x5).upd1 x6).ext x7).upd1 u2).upd1 u3).upd1 u4).ext x8).upd1 x9).ext x10).upd1 x11).ext x12).upd g1 (fun e => by cases e)).upd1 u5).ext x13).upd1 x14).ext x15).upd1 x16).ext x17).upd g2 (fun e => by have := hb1 _ e.symm; omega)).ext x18).upd g3 (fun e => by have := hbl _ e.symm; omega)).upd1 u6).upd1 u7), b25, (by omega), (by omega), (by rw [← hr]; simp only [run_succ, stepN, opsLS, opsT, y10, e4, kbq4, e5, kbq5, e6, kbq6, e7, kbq7, y7, Z.ifs, reduceIte, maps]), ok7, (Gx.own_upd1 (Gx.own_upd1 ow4 u6 (fun q e => by have z := hb3 q e; omega)) u7 (fun q e => by have z := hb3 q e; omega)), (fun p' h0 => KV.topV (((hkx3 p' h0).updV u6).updV u7)), (by rw [List.length_append]; show L.length + 1 + _ ≤ _; omega), (by omega), ⟨by omega, by omega⟩, (by omega), f7, (fun j e => by have z := hb3 j e; omega)⟩
    rw [h_gf22_1]
    refine Z.st [(26, .bool true), (25, .bool false)] ?_
    have hq1 : q1 = q2 := (has_not e2 h_gf22_1).symm; have hn1 : isB q2 Z.k39 = false := by rw [← hq1]; exact h_gf22_1
    refine Z.g [0, 1, 2] ?_
    refine Z.p [0] [1, 2] [(27, Z.P b 0)] ?_
    refine Z.R (.cells #[.string Z.k42] 9) 1 1 (fun k9 w29 l9 x19 b26 zw29 tb26 => ?_)
    have y20 := gb_ext (gb_upd (gb_upd y2 x4) x5) x19
    have y21 := Z.a y3 (Z.a e2 (Z.a kbq2 (Z.a hq1 hn1)))
    have y22 := Z.a h_c17 h_gf22_1
    have y23 := Z.a y4 h_gf22_1
    refine Z.kP (fun R hR hE => need_p b S q2 [Z.k42] k9 1 _ R (b8.ext x19) ok2 f2 b26 (by omega) (Nat.le_of_ble_eq_true rfl) (fun w30 q8 e8 f8 x20 => hE _ _ (And.intro rfl (hP _ q8 (by rcases must_pan e8 f2 with ⟨my, mh, mn⟩ | ⟨my, mh, mn⟩; all_goals (have zl : (run S k (.opsL []) q).2 = q8 := (by rw [← hr]; simp only [run_succ, stepN, opsLS, opsT, y21, y22, Z.ifs, reduceIte, (show mustR S q2 Z.k42 = q8 from e8), my, mh, mn, idl f8]); (try simp only [maps] at zl); rw [run_succ]; simp only [stepN, progS, Nd.ks, maps, y23, Z.ifs, reduceIte, zl, idl f8])) f8 (gb_upd y20 x20)))) (fun w30 q8 e8 f8 x20 b27 => hR _ _ ?_))
    have zw30 := x20.size
    have tb27 := b27.lt
    obtain ⟨ok8, ok8m, ok8x, ok8y⟩ : Tr S q2 q8 := e8 ▸ musts_tr _ ok2
    have e8 : mustR S q2 Z.k42 = q8 := e8
    have kbq8 := (okB_iff q8).2 f8
    obtain ⟨my1, mh1, mn1⟩ := must_ok e8 f2 f8
    have ml1 : M S q8 < M S q2 := by have := has_lt ok2 my1; rw [mh1] at this; exact this
    refine Gx.ops_nil (Z.x (Z.r [0, 1, 2, 3] ?_))
    refine Z.p [0] [1, 2, 3] [(30, Z.P b 0)] ?_
    have y24 := Z.a y21 (Z.a e8 (Z.a kbq8 (Z.a my1 (Z.a mh1 mn1))))
    refine Z.kP (fun R hR hE => named_p b S q8 (1 : Int) _ R b27 ok8 f8 (fun w31 q9 e9 f9 x21 => hE _ _ (And.intro rfl (hP _ q9 (by have zl : (run S k (.opsL []) q).2 = q9 := (by rw [← hr]; simp only [run_succ, stepN, opsLS, opsT, y24, y22, Z.ifs, reduceIte, e9, idl f9]); (try simp only [maps] at zl); rw [run_succ]; simp only [stepN, progS, Nd.ks, maps, y23, Z.ifs, reduceIte, zl, idl f9]) f9 (gb_upd (gb_upd y20 x20) x21)))) (fun w31 q9 e9 f9 x21 b28 => hR _ _ ?_))
    have zw31 := x21.size
    have tb28 := b28.lt
    have kbq9 := (okB_iff q9).2 f9
    obtain ⟨ok9, ok9m, ok9x, ok9y⟩ : Tr S q8 q9 := by have := name_tr ok8; rw [e9] at this; exact this
    have ok9l : M S q9 < M S q8 := by have := name_lt ok8 (by rw [e9]; exact kbq9); rw [e9] at this; exact this
    refine Z.N Z.c0 (fun k10 w32 l10 x22 b29 zw32 tb29 => ?_)
    refine Z.Sa #[.int .i64 1, Z.n q8.a, .string q8.t, .int .i64 0, .slice none 0 0] b29 (fun w33 u8 b30 zw33 => ?_)
    refine Z.e (Z.r [0, 1, 2] ?_)
    refine Z.p [0, 1] [2] [(33, Z.P k10 1), (32, Z.n p.a)] ?_
    refine Z.S 1 (Z.n p.a) b30 #[.int .i64 1, Z.n p.a, .string q8.t, .int .i64 0, .slice none 0 0] (fun w34 u9 b31 zw34 => ?_)
    refine Z.e (wp_seq (Z.sf [(34, .bool false)] ?_))
    refine wp_skip (Z.x (Z.r [0, 1, 2] ?_))
    refine Z.p [0] [1, 2] [(36, Z.P b 0)] ?_
    refine Z.R (.cells #[.string Z.k47] 9) 1 1 (fun k11 w35 l11 x23 b32 zw35 tb32 => ?_)
    have y25 := gb_ext (gb_new (gb_new (gb_ext (gb_upd (gb_upd y20 x20) x21) x22) u8) u9) x23
    have y26 := Z.a y24 (Z.a e9 kbq9)
    refine Z.kP (fun R hR hE => need_p b S q9 [Z.k47] k11 1 _ R ((((b28.ext x22).upd1 u8).upd1 u9).ext x23) ok9 f9 b32 (by omega) (Nat.le_of_ble_eq_true rfl) (fun w36 q10 e10 f10 x24 => hE _ _ (And.intro rfl (hP _ q10 (by have zl : (run S k (.opsL []) q).2 = q10 := (by rw [← hr]; simp only [run_succ, stepN, opsLS, opsT, y26, y22, Z.ifs, reduceIte, (show mustR S q9 Z.k47 = q10 from e10), idl f10]); (try simp only [maps] at zl); rw [run_succ]; simp only [stepN, progS, Nd.ks, maps, y23, Z.ifs, reduceIte, zl, idl f10]) f10 (gb_upd y25 x24)))) (fun w36 q10 e10 f10 x24 b33 => hR _ _ ?_))
    have zw36 := x24.size
    have tb33 := b33.lt
    obtain ⟨ok10, ok10m, ok10x, ok10y⟩ : Tr S q9 q10 := e10 ▸ musts_tr _ ok9
    have e10 : mustR S q9 Z.k47 = q10 := e10
    have kbq10 := (okB_iff q10).2 f10
    refine Z.e (wp_seq (Gx.drawE (S := fun w' => Gx.Has w' k10 (.cells #[.int .i64 1, Z.n p.a, .string q8.t, .int .i64 0, .slice none 0 0] 24)) [5] (by kernel_rfl) (fun w37 x25 => ?_)))
    have zw37 := x25.size
    have y27 := ((b31.ext x23).upd1 x24).ext x25
    refine Z.eh y27 (fun hS3 => ?_)
    refine Z.es 0 [4, 5] 0 (.agg #[.int .i64 1, Z.n p.a, .string q8.t, .int .i64 0, .slice none 0 0]) (fun _ hs => hs) hS3 ?_
    refine Z.et 1 (Z.P b 0) (fun _ => hS3) ?_
    have y28 := gb_ext (gb_upd y25 x24) x25
    have y29 := Z.a y26 (Z.a e10 kbq10)
    refine Z.eP 2 (fun R hR hE => (ih i (by omega)).f_typ b S q10 _ R (b33.ext x25) ok10 f10 (by omega) (fun w38 q11 e11 f11 x26 => hE _ _ (And.intro rfl (hP _ q11 (by have zl : (run S k (.opsL []) q).2 = q11 := (by rw [← hr]; simp only [run_succ, stepN, opsLS, opsT, y29, y22, Z.ifs, reduceIte, e11, idl f11]); (try simp only [maps] at zl); rw [run_succ]; simp only [stepN, progS, Nd.ks, maps, y23, Z.ifs, reduceIte, zl, idl f11]) f11 (gb_upd y28 x26)))) (fun w38 t3 A7 c7 q11 e11 f11 x26 b34 kv4 => hR _ _ ⟨(fun _ => (y27.upd1 x26)), ?_⟩))
    have zw38 := x26.size
    have tb34 := b34.lt
    have kbq11 := (okB_iff q11).2 f11
    obtain ⟨ok11, ok11m, ok11x, ok11y⟩ : Tr S q10 q11 := run_facts ok10 e11
    refine Z.eR 3 (.cells (Z.T t3 A7 c7) 24) 1 1 (fun k12 w39 l12 x27 b35 => ⟨(fun _ => ((y27.upd1 x26).ext x27)), ?_⟩)
    have zw39 := x27.size
    have tb35 := b35.lt
    have ow5 : w39.ownsRow w37.heap.size 24 5 (.slice none 0 0) Z.nl.length (flat Z.nl) := ⟨by simp [flat], .inl ⟨rfl, rfl⟩⟩
    refine Z.eK 4 (fun R hR => with_p w37.heap.size k12 1 Z.nl [(t3, A7, c7)] none 0 (Z.T t3 A7 c7) (1 : Int) ((p.a : Nat) : Int) (0 : Int) q8.t _ R ow5 b35 rfl (by simp only [List.length_append, List.length_cons, List.length_nil]; omega) (by omega) (fun A8 c8 w40 nk4 ow6 nl4 hnk4 g4 => hR _ _ ⟨(fun _ => (((y27.upd1 x26).ext x27).upd g4 (fun e => by cases e))), ?_⟩))
    have zw40 := g4.size
    have hb4 : ∀ j, ((.slice A8 (Z.nl ++ [(t3, A7, c7)]).length c8 : Value) : Value).ownBlock = some j → (j = nk4 ∧ j < w40.heap.size) := fun j e => by have l := (ow6).lt j e; rcases nl4 with q | q; (rw [q] at e; cases e); (rw [q] at e; cases e; omega)
    have hkx4 : Z.ks (InV w37.heap.size w40.heap.size [k1, k2, k10] (.slice A8 (Z.nl ++ [(t3, A7, c7)]).length c8 : Value)) w40 (Z.nl ++ [(t3, A7, c7)]) := Z.m0 (KV.topV (KV.ofIn ((kv4.ext x27).app g4 (fun j e => by cases e)) (fun j e => by have z := hb4 j e; first | (left; omega) | (right; omega) | omega)))
    refine Z.eSa 5 #[.int .i64 1, Z.n p.a, .string q8.t, .int .i64 0, (.slice A8 (Z.nl ++ [(t3, A7, c7)]).length c8 : Value)] (((y27.upd1 x26).ext x27).upd g4 (fun e => by cases e)) (fun w41 u10 b36 => ⟨(Gx.not_clear (by kernel_rfl)), ?_⟩)
    have zw41 := u10.size
    refine Gx.anyE_done (by kernel_rfl) ?_ _
    refine Z.x (Z.r [0, 1, 2] ?_)
    refine Z.p [0] [1, 2] [(44, Z.P b 0)] ?_
    refine Z.R (.cells #[.string Z.k1] 9) 1 1 (fun k13 w42 l13 x28 b37 zw42 tb37 => ?_)
    have y30 := gb_ext (gb_new (gb_app (gb_ext (gb_upd y28 x26) x27) g4 (fun j e => by have := (ow5).lt j e; omega)) u10) x28
    refine Z.kP (fun R hR hE => need_p b S q11 [Z.k1] k13 1 _ R ((((b34.ext x27).upd g4 (fun e => by cases e)).upd1 u10).ext x28) ok11 f11 b37 (by omega) (Nat.le_of_ble_eq_true rfl) (fun w43 q12 e12 f12 x29 => hE _ _ (And.intro rfl (hP _ q12 (by have zl : (run S k (.opsL []) q).2 = q12 := (by rw [← hr]; simp only [run_succ, stepN, opsLS, opsT, y29, e11, kbq11, y22, Z.ifs, reduceIte, (show mustR S q11 Z.k1 = q12 from e12), idl f12]); (try simp only [maps] at zl); rw [run_succ]; simp only [stepN, progS, Nd.ks, maps, y23, Z.ifs, reduceIte, zl, idl f12]) f12 (gb_upd y30 x29)))) (fun w43 q12 e12 f12 x29 b38 => hR _ _ ?_))
    have zw43 := x29.size
    have tb38 := b38.lt
    obtain ⟨ok12, ok12m, ok12x, ok12y⟩ : Tr S q11 q12 := e12 ▸ musts_tr _ ok11
    have e12 : mustR S q11 Z.k1 = q12 := e12
    have kbq12 := (okB_iff q12).2 f12
    refine Z.e (wp_seq (Gx.drawE (S := fun w' => Gx.Has w' k2 (.cells #[.int .i64 0, .int .i64 0, .string Z.E, Z.n L.length, (.slice A L.length c : Value)] 24) ∧ Gx.Has w' k10 (.cells #[.int .i64 1, Z.n p.a, .string q8.t, .int .i64 0, (.slice A8 (Z.nl ++ [(t3, A7, c7)]).length c8 : Value)] 24)) [8] (by kernel_rfl) (fun w44 x30 => ?_)))
    have zw44 := x30.size
    have y31 := (((((((((((((((((b6.upd1 x4).upd1 x5).ext x19).upd1 x20).upd1 x21).ext x22).upd1 u8).upd1 u9).ext x23).upd1 x24).ext x25).upd1 x26).ext x27).upd g4 (fun e => by cases e)).upd1 u10).ext x28).upd1 x29).ext x30
    have y32 := ((b36.ext x28).upd1 x29).ext x30
    refine Z.eh ⟨y31, y32⟩ (fun hS4 => ?_)
    refine Z.es 0 [7, 8] 0 (.agg #[.int .i64 0, .int .i64 0, .string Z.E, Z.n L.length, (.slice A L.length c : Value)]) (fun _ hs => hs.1) hS4 ?_
    refine Z.es 1 [5, 6, 7, 8] 0 (.agg #[.int .i64 1, Z.n p.a, .string q8.t, .int .i64 0, (.slice A8 (Z.nl ++ [(t3, A7, c7)]).length c8 : Value)]) (fun _ hs => hs.2) hS4 ?_
    refine Z.et 2 (Z.P b 0) (fun _ => hS4) ?_
    have y33 := gb_ext (gb_upd y30 x29) x30
    refine Z.eP 3 (fun R hR hE => (ih i (by omega)).f_typ b S q12 _ R (b38.ext x30) ok12 f12 (by omega) (fun w45 q13 e13 f13 x31 => hE _ _ (And.intro rfl (hP _ q13 (by have zl : (run S k (.opsL []) q).2 = q13 := (by rw [← hr]; simp only [run_succ, stepN, opsLS, opsT, y29, e11, kbq11, e12, kbq12, y22, Z.ifs, reduceIte, e13, idl f13]); (try simp only [maps] at zl); rw [run_succ]; simp only [stepN, progS, Nd.ks, maps, y23, Z.ifs, reduceIte, zl, idl f13]) f13 (gb_upd y33 x31)))) (fun w45 t4 A9 c9 q13 e13 f13 x31 b39 kv5 => hR _ _ ⟨(fun _ => ⟨(y31.upd1 x31), (y32.upd1 x31)⟩), ?_⟩))
    have zw45 := x31.size
    have tb39 := b39.lt
    have kbq13 := (okB_iff q13).2 f13
    obtain ⟨ok13, ok13m, ok13x, ok13y⟩ : Tr S q12 q13 := run_facts ok12 e13
    refine Z.eR 4 (.cells (Z.T t4 A9 c9) 24) 1 1 (fun k14 w46 l14 x32 b40 => ⟨(fun _ => ⟨((y31.upd1 x31).ext x32), ((y32.upd1 x31).ext x32)⟩), ?_⟩)
    have zw46 := x32.size
    have tb40 := b40.lt
    have y34 := Gx.own_ext (Gx.own_upd1 (Gx.own_ext (Gx.own_upd1 (Gx.own_ext (Gx.own_upd1 ow6 u10 (fun q e => by have z := hb4 q e; omega)) x28) x29 (fun q e => by have z := hb4 q e; omega)) x30) x31 (fun q e => by have z := hb4 q e; omega)) x32
    refine Z.eK 5 (fun R hR => with_p w37.heap.size k14 1 (Z.nl ++ [(t3, A7, c7)]) [(t4, A9, c9)] A8 c8 (Z.T t4 A9 c9) (1 : Int) ((p.a : Nat) : Int) (0 : Int) q8.t _ R y34 b40 rfl (by simp only [List.length_append, List.length_cons, List.length_nil]; omega) (by omega) (fun A10 c10 w47 nk5 ow7 nl5 hnk5 g5 => hR _ _ ⟨(fun _ => ⟨(((y31.upd1 x31).ext x32).upd g5 (fun e => by have := hb4 _ e.symm; omega)), (((y32.upd1 x31).ext x32).upd g5 (fun e => by have := hb4 _ e.symm; omega))⟩), ?_⟩))
    have zw47 := g5.size
    have hb5 : ∀ j, ((.slice A10 ((Z.nl ++ [(t3, A7, c7)]) ++ [(t4, A9, c9)]).length c10 : Value) : Value).ownBlock = some j → (j = nk4 ∧ j < w40.heap.size) ∨ (j = nk5 ∧ j < w47.heap.size) := fun j e => by have l := (ow7).lt j e; rcases nl5 with q | q; (rw [q] at e; have z := hb4 j e; omega); (rw [q] at e; cases e; omega)
    have hkx5 : Z.ks (InV w37.heap.size w47.heap.size [k1, k2, k10] (.slice A10 ((Z.nl ++ [(t3, A7, c7)]) ++ [(t4, A9, c9)]).length c10 : Value)) w47 ((Z.nl ++ [(t3, A7, c7)]) ++ [(t4, A9, c9)]) := Z.m1 (Q' := fun _ => True) (w' := w47) (fun p' h0 => (KV.topV ((((((((((hkx4 p' h0).updV u10).extV x28).updV x29).extV x30).updV x31).extV x32)).appV g5).toV nl5 (by omega)))) (KV.topV (KV.ofIn ((kv5.ext x32).app g5 (fun j e => by have z := hb4 j e; first | (left; omega) | (right; left; omega) | omega)) (fun j e => by have z := hb5 j e; first | (left; omega) | (right; omega) | omega)))
    refine Z.eR 6 (.cells #[.int .i64 1, Z.n p.a, .string q8.t, .int .i64 0, (.slice A10 ((Z.nl ++ [(t3, A7, c7)]) ++ [(t4, A9, c9)]).length c10 : Value)] 24) 1 1 (fun k15 w48 l15 x33 b41 => ⟨(fun _ => ⟨((((y31.upd1 x31).ext x32).upd g5 (fun e => by have := hb4 _ e.symm; omega)).ext x33), ((((y32.upd1 x31).ext x32).upd g5 (fun e => by have := hb4 _ e.symm; omega)).ext x33)⟩), ?_⟩)
    have zw48 := x33.size
    have tb41 := b41.lt
    obtain ⟨A11, c11, hvkv6, kv6⟩ := KV.of_own (Q := In w37.heap.size w48.heap.size [k1, k2, k10]) ((Z.nl ++ [(t3, A7, c7)]) ++ [(t4, A9, c9)]) (Gx.own_ext ow7 x33) (fun j e => by have := ((Gx.own_ext ow7 x33)).lt j e; exact ⟨by omega, by omega, (by have z := hb5 j e; simp only [List.mem_cons, List.not_mem_nil, or_false, not_or]; omega)⟩) (fun p' h0 => (KV.topV ((hkx5 p' h0).extV x33)).noV)
    rw [nds_len] at hvkv6; cases hvkv6
    have y35 := Gx.own_ext (Gx.own_updr (Gx.own_ext (Gx.own_upd1 (Gx.own_ext (Gx.own_upd1 (Gx.own_ext (Gx.own_upd1 (Gx.own_updr (Gx.own_ext (Gx.own_upd1 (Gx.own_ext (Gx.own_upd1 (Gx.own_ext (Gx.own_upd1 (Gx.own_upd1 (Gx.own_ext (Gx.own_upd1 (Gx.own_upd1 (Gx.own_ext (Gx.own_upd1 (Gx.own_upd1 how x4 (fun q e => by have z := hbl q e; omega)) x5 (fun q e => by have z := hbl q e; omega)) x19) x20 (fun q e => by have z := hbl q e; omega)) x21 (fun q e => by have z := hbl q e; omega)) x22) u8 (fun q e => by have z := hbl q e; omega)) u9 (fun q e => by have z := hbl q e; omega)) x23) x24 (fun q e => by have z := hbl q e; omega)) x25) x26 (fun q e => by have z := hbl q e; omega)) x27) g4 (fun q e j e' => by have z := hbl q e; have := (ow5).lt j e'; omega)) u10 (fun q e => by have z := hbl q e; omega)) x28) x29 (fun q e => by have z := hbl q e; omega)) x30) x31 (fun q e => by have z := hbl q e; omega)) x32) g5 (fun q e j e' => by have z := hbl q e; have := (ow6).lt j e'; omega)) x33
    refine Z.eK 7 (fun R hR => with_p w3.heap.size k15 1 L [((Nd.mk 1 p.a q8.t (0 : Int) (nds ((Z.nl ++ [(t3, A7, c7)]) ++ [(t4, A9, c9)]))), A10, c10)] A c #[.int .i64 1, Z.n p.a, .string q8.t, .int .i64 0, .slice A10 (((Z.nl ++ [(t3, A7, c7)]) ++ [(t4, A9, c9)]).length) c10] (0 : Int) (0 : Int) ((L.length : Nat) : Int) Z.E _ R y35 b41 rfl (by simp only [List.length_append, List.length_cons, List.length_nil]; omega) (by omega) (fun A12 c12 w49 nk6 ow8 nl6 hnk6 g6 => hR _ _ ⟨(fun _ => ⟨(((((y31.upd1 x31).ext x32).upd g5 (fun e => by have := hb4 _ e.symm; omega)).ext x33).upd g6 (fun e => by have := hbl _ e.symm; omega)), (((((y32.upd1 x31).ext x32).upd g5 (fun e => by have := hb4 _ e.symm; omega)).ext x33).upd g6 (fun e => by have := hbl _ e.symm; omega))⟩), ?_⟩))
    have zw49 := g6.size
    have hb6 : ∀ j, ((.slice A12 (L ++ [((Nd.mk 1 p.a q8.t (0 : Int) (nds ((Z.nl ++ [(t3, A7, c7)]) ++ [(t4, A9, c9)]))), A10, c10)]).length c12 : Value) : Value).ownBlock = some j → (w3.heap.size ≤ j ∧ j < w4.heap.size ∧ j ≠ k1 ∧ j ≠ k2) ∨ (j = nk6 ∧ j < w49.heap.size) := fun j e => by have l := (ow8).lt j e; rcases nl6 with q | q; (rw [q] at e; have z := hbl j e; omega); (rw [q] at e; cases e; omega)
    have hkx6 : Z.ks (InV w3.heap.size w49.heap.size [k1, k2, k10] (.slice A12 (L ++ [((Nd.mk 1 p.a q8.t (0 : Int) (nds ((Z.nl ++ [(t3, A7, c7)]) ++ [(t4, A9, c9)]))), A10, c10)]).length c12 : Value)) w49 (L ++ [((Nd.mk 1 p.a q8.t (0 : Int) (nds ((Z.nl ++ [(t3, A7, c7)]) ++ [(t4, A9, c9)]))), A10, c10)]) := Z.m1 (Q' := fun _ => True) (w' := w49) (fun p' h0 => (KV.topV ((((((((((((((((((((((((((hks p' h0).updV x4).updV x5).extV x19).updV x20).updV x21).extV x22).updV u8).updV u9).extV x23).updV x24).extV x25).updV x26).extV x27).otherV g4 (fun j e => by have := (ow5).lt j e; first | (left; omega) | (right; omega))).updV u10).extV x28).updV x29).extV x30).updV x31).extV x32).otherV g5 (fun j e => by have := (y34).lt j e; first | (left; omega) | (right; omega))).extV x33)).appV g6).toV nl6 (by omega)))) (KV.topV (KV.ofIn (kv6.app g6 (fun j e => by have z := hbl j e; first | (left; omega) | (right; left; omega) | omega)) (fun j e => by have z := hb6 j e; first | (left; omega) | (right; omega) | omega)))
    refine Z.eSa 8 #[.int .i64 0, .int .i64 0, .string Z.E, Z.n L.length, (.slice A12 (L ++ [((Nd.mk 1 p.a q8.t (0 : Int) (nds ((Z.nl ++ [(t3, A7, c7)]) ++ [(t4, A9, c9)]))), A10, c10)]).length c12 : Value)] (((((y31.upd1 x31).ext x32).upd g5 (fun e => by have := hb4 _ e.symm; omega)).ext x33).upd g6 (fun e => by have := hbl _ e.symm; omega)) (fun w50 u11 b42 => ⟨(Gx.not_clear (by kernel_rfl)), ?_⟩)
    have zw50 := u11.size
    refine Gx.anyE_done (by kernel_rfl) ?_ _
    refine Z.x (Z.g [0, 1, 2, 3, 4] ?_)
    refine Z.p [0] [1, 2, 3, 4] [(55, Z.P k2 3)] ?_
    refine Z.L 3 (Z.n L.length) b42 ?_
    refine Gx.pure_eq [2] [3, 4] [(57, .int .i64 (IntKind.i64.wrap (((L.length : Nat) : Int) + (1 : Int))))] [(57, .int .i64 (((L ++ [((Nd.mk 1 p.a q8.t (0 : Int) (nds ((Z.nl ++ [(t3, A7, c7)]) ++ [(t4, A9, c9)]))), A10, c10)]).length : Nat) : Int))] rfl (by kernel_rfl) (Gx.eqI (Gx.i64n (by rw [List.length_append]; rfl) (by rw [List.length_append]; show _ + 1 ≤ _; omega))) ?_
    refine Z.p [3] [4] [(58, Z.P k2 3)] ?_
    refine Z.S 3 (.int .i64 (((L ++ [((Nd.mk 1 p.a q8.t (0 : Int) (nds ((Z.nl ++ [(t3, A7, c7)]) ++ [(t4, A9, c9)]))), A10, c10)]).length : Nat) : Int)) b42 #[.int .i64 0, .int .i64 0, .string Z.E, .int .i64 (((L ++ [((Nd.mk 1 p.a q8.t (0 : Int) (nds ((Z.nl ++ [(t3, A7, c7)]) ++ [(t4, A9, c9)]))), A10, c10)]).length : Nat) : Int), (.slice A12 (L ++ [((Nd.mk 1 p.a q8.t (0 : Int) (nds ((Z.nl ++ [(t3, A7, c7)]) ++ [(t4, A9, c9)]))), A10, c10)]).length c12 : Value)] (fun w51 u12 b43 zw51 => ?_)
    refine Gx.ops_nil (Gx.block_normal (Z.x (Z.g [0, 1, 2, 3, 4, 5] ?_)))
    refine Z.p [0, 1, 2, 3] [4, 5] [(21, Z.P b 2), (20, Z.P b 1), (19, Z.P b 0), (18, Z.P b 0)] ?_
    have y36 := (((((b39.ext x32).upd g5 (fun e => by have := hb4 _ e.symm; omega)).ext x33).upd g6 (fun e => by have := hbl _ e.symm; omega)).upd1 u11).upd1 u12
    refine Z.L 2 (Z.n q13.a) y36 ?_
    refine Z.p [5] [] [(4, Z.n q13.a)] ?_
    refine Gx.ops_nil (Z.x ?_)
    rw [Gx.forget [(0, Z.P b 0), (2, Z.P k1 0), (3, Z.P k2 0), (4, Z.n q13.a)] (by kernel_rfl)]
    exact hK1 _ _ _ _ (by omega) ⟨i, q13, A12, c12, (L ++ [((Nd.mk 1 p.a q8.t (0 : Int) (nds ((Z.nl ++ [(t3, A7, c7)]) ++ [(t4, A9, c9)]))), A10, c10)]), rfl, rfl, (gb_new (gb_new (gb_app (gb_ext (gb_app (gb_ext (gb_upd y33 x31) x32) g5 (fun j e => by have := (y34).lt j e; omega)) x33) g6 (fun j e => by have := (y35).lt j e; omega)) u11) u12), y36, (((((((((((((((((((((((((b5.upd1 x4).upd1 x5).ext x19).upd1 x20).upd1 x21).ext x22).upd1 u8).upd1 u9).ext x23).upd1 x24).ext x25).upd1 x26).ext x27).upd g4 (fun e => by cases e)).upd1 u10).ext x28).upd1 x29).ext x30).upd1 x31).ext x32).upd g5 (fun e => by have := hb4 _ e.symm; omega)).ext x33).upd g6 (fun e => by have := hbl _ e.symm; omega)).upd1 u11).upd1 u12), b43, (by omega), (by omega), (by rw [← hr]; simp only [run_succ, stepN, opsLS, opsT, y29, e11, kbq11, e12, kbq12, e13, kbq13, y22, Z.ifs, reduceIte, maps]), ok13, (Gx.own_upd1 (Gx.own_upd1 ow8 u11 (fun q e => by have z := hb6 q e; omega)) u12 (fun q e => by have z := hb6 q e; omega)), (fun p' h0 => KV.topV (((hkx6 p' h0).updV u11).updV u12)), (by rw [List.length_append]; show L.length + 1 + _ ≤ _; omega), (by omega), ⟨by omega, by omega⟩, (by omega), f13, (fun j e => by have z := hb6 j e; omega)⟩
  refine wp_exit (Gx.then_exit (Gx.then_exit (Gx.block_exit (Z.x (wp_seq ?_)))))
  have hq2 : p = q1 := (has_not e1 h_c17).symm; have hn2 : isB q1 Z.k51 = false := by rw [← hq2]; exact h_c17
  have e14 : run S k (.opsL []) q = ((Nd.mk 0 0 Z.E ((L.length : Nat) : Int) (nds L)), q1) := by rw [← hr]; simp only [run_succ, stepN, opsLS, opsT, kbp, e1, kbq1, hq2, hn2, h_c17, Z.ifs, reduceIte, maps]
  try simp only [maps] at e14
  refine Z.r [0, 1, 2, 3, 4, 5] ?_
  refine Z.p [0, 1, 2, 3] [4, 5] [(62, Z.P b 2), (61, Z.P b 1), (60, Z.P b 0), (59, Z.P b 0)] ?_
  refine Z.L 2 (Z.n q1.a) b7 ?_
  refine Z.p [5] [] [(7, Z.n q1.a)] ?_
  refine Z.e (wp_block ?_)
  have hbzz : w3.heap.size ≤ w5.heap.size := by omega
  refine Gx.loop (n' := 95) (d' := []) (fun mz l' w' => ∃ (jz : Nat) (pz : Rs) (Az : Option Addr) (cz : Nat) (Lz : List (Nd × Option Addr × Nat)), l' = [(0, Z.P b 0), (2, Z.P k1 0), (3, Z.P k2 0), (7, Z.n pz.a)] ∧ mz = M S pz ∧ Gx.G w w' (some b) ∧ Gx.Has w' b (.cells #[.string S, Z.n pz.k, Z.n pz.a, .string pz.t, Z.n pz.n, Z.n pz.e, Z.n pz.x, Z.n pz.y] 54) ∧ Gx.Has w' k1 Z.c0 ∧ Gx.Has w' k2 (.cells #[.int .i64 0, .int .i64 0, .string Z.E, Z.n L.length, (.slice Az Lz.length cz : Value)] 24) ∧ (jz ≤ k) ∧ (16 * M S pz + 13 ≤ jz) ∧ (run S jz (.defsL L.length (nds Lz)) pz = run S k (.defsL L.length (nds L)) q1) ∧ (Ok S pz) ∧ (w'.ownsRow w3.heap.size 24 5 (.slice Az Lz.length cz : Value) Lz.length (flat Lz)) ∧ (∀ p' ∈ Lz, KV (InV w3.heap.size w'.heap.size [k1, k2] (.slice Az Lz.length cz : Value)) w' p'.1.ks p'.2.1 p'.2.2) ∧ (Lz.length + M S pz ≤ 4000) ∧ (M S pz ≤ M S q1) ∧ (pz.x = q1.x ∧ pz.y = q1.y) ∧ (w3.heap.size ≤ w'.heap.size) ∧ (pz.fk = 0) ∧ (∀ j, (.slice Az Lz.length cz : Value).ownBlock = some j → w3.heap.size ≤ j ∧ j ≠ k1 ∧ j ≠ k2)) _ _ [(0, Z.P b 0), (2, Z.P k1 0), (3, Z.P k2 0), (7, Z.n q1.a)] (Gx.forget [(0, Z.P b 0), (2, Z.P k1 0), (3, Z.P k2 0), (7, Z.n q1.a)] (by kernel_rfl)) ⟨k, q1, A, c, L, rfl, rfl, (gb_upd y2 x4), b7, (b5.upd1 x4), (b6.upd1 x4), (by omega), (by omega), rfl, ok1, (Gx.own_upd1 how x4 (fun q e => by have z := hbl q e; omega)), (fun p' h0 => KV.topV ((hks p' h0).updV x4)), (by omega), (Nat.le_refl _), ⟨rfl, rfl⟩, (by omega), f1, (fun j e => by have z := hbl j e; omega)⟩ (fun bb2 m2 ll2 w52 hI2 K2 hK2 => ?_)
  obtain ⟨jz, pz, Az, cz, Lz, rfl, rfl, x34, b44, b45, b46, hjz, hmz, hrz, hoz, howz, hksz, hlenz, hMz, hxyz, hbsz, hfz, hnxz⟩ := hI2
  have zw52 := x34.size
  have tb44 := b44.lt
  have tb45 := b45.lt
  have tb46 := b46.lt
  have hblz : ∀ j, (.slice Az Lz.length cz : Value).ownBlock = some j → (w3.heap.size ≤ j ∧ j < w52.heap.size ∧ j ≠ k1 ∧ j ≠ k2) := fun j e => by have z := howz.lt j e; have z' := hnxz j e; omega
  obtain ⟨iz, rfl⟩ : ∃ i, jz = i + 1 := ⟨jz - 1, by omega⟩
  have kbpz := (okB_iff pz).2 hfz
  refine wp_seq (Z.r [0, 1] ?_)
  refine Z.p [0] [1] [(64, Z.P b 0)] ?_
  have y37 := gb_upd (gb_refl w b) x34
  have y38 := Z.a kbq (Z.a e14 h_c17)
  refine Z.kP (fun R hR hE => eat_p b S pz Z.k43 _ R b44 hoz hfz (fun w53 q14 e15 f14 x35 => hE _ _ (And.intro rfl (hP _ q14 (by have zl : (run S k (.defsL L.length (nds L)) q1).2 = q14 := (by rw [← hrz]; simp only [run_succ, stepN, defsLS, defsT, kbpz, h_c17, Z.ifs, reduceIte, e15, has_pan e15 f14 hfz, (show nextR S pz = q14 from (has_is (S := S) (has_pan e15 f14 hfz)).symm.trans e15), idl f14]); (try simp only [maps] at zl); rw [run_succ]; simp only [stepN, progS, Nd.ks, maps, y38, Z.ifs, reduceIte, zl, idl f14]) f14 (gb_upd y37 x35)))) (fun w53 q14 e15 f14 x35 b47 => hR _ _ ?_))
  have zw53 := x35.size
  have tb47 := b47.lt
  obtain ⟨ok14, ok14m, ok14x, ok14y⟩ : Tr S pz q14 := e15 ▸ has_tr hoz
  have kbq14 := (okB_iff q14).2 f14
  refine Z.e (Z.c (isB pz Z.k43) (fun h_c65 => ?_) (fun h_c65 => ?_))
  · skip
    refine wp_skip (Z.x (wp_seq (wp_block ?_)))
    have lt3 := (Z.lt hoz h_c65 e15)
    have nz3 : nextR S pz = q14 := (has_is (S := S) h_c65).symm.trans e15
    refine Z.r [0, 1, 2] ?_
    refine Z.p [0] [1, 2] [(71, Z.P b 0)] ?_
    have y39 := Z.a kbpz (Z.a e15 (Z.a kbq14 nz3))
    have y40 := Z.a h_c17 h_c65
    refine Z.kP (fun R hR hE => eat_p b S q14 Z.k19 _ R b47 ok14 f14 (fun w54 q15 e16 f15 x36 => hE _ _ (And.intro rfl (hP _ q15 (by have zl : (run S k (.defsL L.length (nds L)) q1).2 = q15 := (by rw [← hrz]; simp only [run_succ, stepN, defsLS, defsT, y39, y40, Z.ifs, reduceIte, e16, has_pan e16 f15 f14, (show nextR S q14 = q15 from (has_is (S := S) (has_pan e16 f15 f14)).symm.trans e16), idl f15]); (try simp only [maps] at zl); rw [run_succ]; simp only [stepN, progS, Nd.ks, maps, y38, h_c65, Z.ifs, reduceIte, zl, idl f15]) f15 (gb_upd (gb_upd y37 x35) x36)))) (fun w54 q15 e16 f15 x36 b48 => hR _ _ ?_))
    have zw54 := x36.size
    have tb48 := b48.lt
    obtain ⟨ok15, ok15m, ok15x, ok15y⟩ : Tr S q14 q15 := e16 ▸ has_tr ok14
    have kbq15 := (okB_iff q15).2 f15
    refine Z.p [2] [] [(8, .bool (isB q14 Z.k19))] ?_
    refine Z.e (Gx.splitC (isB q14 Z.k19) (fun h_gf62_1 => ?_) (fun h_gf62_1 => ?_))
    · rw [h_gf62_1]
      have lt4 := (Z.lt ok14 h_gf62_1 e16)
      refine Z.r [0, 1, 2, 3] ?_
      refine Z.p [0] [1, 2, 3] [(73, Z.P b 0)] ?_
      have y41 := gb_upd (gb_upd y37 x35) x36
      refine Z.kP (fun R hR hE => named_p b S q15 (2 : Int) _ R b48 ok15 f15 (fun w55 q16 e17 f16 x37 => hE _ _ (And.intro rfl (hP _ q16 (by have zl : (run S k (.defsL L.length (nds L)) q1).2 = q16 := (by rw [← hrz]; simp only [run_succ, stepN, defsLS, defsT, y39, e16, kbq15, y40, h_gf62_1, Z.ifs, reduceIte, e17, idl f16]); (try simp only [maps] at zl); rw [run_succ]; simp only [stepN, progS, Nd.ks, maps, y38, h_c65, h_gf62_1, Z.ifs, reduceIte, zl, idl f16]) f16 (gb_upd y41 x37)))) (fun w55 q16 e17 f16 x37 b49 => hR _ _ ?_))
      have zw55 := x37.size
      have tb49 := b49.lt
      have kbq16 := (okB_iff q16).2 f16
      obtain ⟨ok16, ok16m, ok16x, ok16y⟩ : Tr S q15 q16 := by have := name_tr ok15; rw [e17] at this; exact this
      have ok16l : M S q16 < M S q15 := by have := name_lt ok15 (by rw [e17]; exact kbq16); rw [e17] at this; exact this
      refine Z.N Z.c0 (fun k16 w56 l16 x38 b50 zw56 tb50 => ?_)
      refine Z.Sa #[.int .i64 2, Z.n q15.a, .string q15.t, .int .i64 0, .slice none 0 0] b50 (fun w57 u13 b51 zw57 => ?_)
      refine Z.e (Z.r [0, 1, 2] ?_)
      refine Z.p [0, 1] [2] [(76, Z.P k16 1), (75, Z.n pz.a)] ?_
      refine Z.S 1 (Z.n pz.a) b51 #[.int .i64 2, Z.n pz.a, .string q15.t, .int .i64 0, .slice none 0 0] (fun w58 u14 b52 zw58 => ?_)
      refine Z.e (wp_seq (Z.st [(77, .bool true)] ?_))
      refine Z.g [0, 1] ?_
      refine Z.p [0] [1] [(78, Z.P k16 3)] ?_
      refine Z.S 3 (.int .i64 1) b52 #[.int .i64 2, Z.n pz.a, .string q15.t, .int .i64 1, .slice none 0 0] (fun w59 u15 b53 zw59 => ?_)
      refine Gx.ops_nil (Z.x (Gx.drawE (S := fun w' => Gx.Has w' k2 (.cells #[.int .i64 0, .int .i64 0, .string Z.E, Z.n L.length, (.slice Az Lz.length cz : Value)] 24) ∧ Gx.Has w' k16 (.cells #[.int .i64 2, Z.n pz.a, .string q15.t, .int .i64 1, .slice none 0 0] 24)) [8] (by kernel_rfl) (fun w60 x39 => ?_)))
      have zw60 := x39.size
      have y42 := (((((((b46.upd1 x35).upd1 x36).upd1 x37).ext x38).upd1 u13).upd1 u14).upd1 u15).ext x39
      refine Z.eh ⟨y42, (b53.ext x39)⟩ (fun hS5 => ?_)
      refine Z.es 0 [7, 8] 0 (.agg #[.int .i64 0, .int .i64 0, .string Z.E, Z.n L.length, (.slice Az Lz.length cz : Value)]) (fun _ hs => hs.1) hS5 ?_
      refine Z.es 1 [5, 6, 7, 8] 0 (.agg #[.int .i64 2, Z.n pz.a, .string q15.t, .int .i64 1, .slice none 0 0]) (fun _ hs => hs.2) hS5 ?_
      refine Z.et 2 (Z.P b 0) (fun _ => hS5) ?_
      have y43 := gb_ext (gb_new (gb_new (gb_new (gb_ext (gb_upd y41 x37) x38) u13) u14) u15) x39
      refine Z.eP 3 (fun R hR hE => (ih iz (by omega)).f_params b S q16 Z.k7 _ R (((((b49.ext x38).upd1 u13).upd1 u14).upd1 u15).ext x39) ok16 f16 (by omega) (fun w61 q17 e18 f17 x40 => hE _ _ (And.intro rfl (hP _ q17 (by have zl : (run S k (.defsL L.length (nds L)) q1).2 = q17 := (by rw [← hrz]; simp only [run_succ, stepN, defsLS, defsT, y39, e16, kbq15, e17, kbq16, y40, h_gf62_1, Z.ifs, reduceIte, e18, idl f17]); (try simp only [maps] at zl); rw [run_succ]; simp only [stepN, progS, Nd.ks, maps, y38, h_c65, h_gf62_1, Z.ifs, reduceIte, zl, idl f17]) f17 (gb_upd y43 x40)))) (fun w61 t5 A13 c13 q17 e18 f17 x40 b54 kv7 => hR _ _ ⟨(fun _ => ⟨(y42.upd1 x40), ((b53.ext x39).upd1 x40)⟩), ?_⟩))
      have zw61 := x40.size
      have tb54 := b54.lt
      have kbq17 := (okB_iff q17).2 f17
      obtain ⟨ok17, ok17m, ok17x, ok17y⟩ : Tr S q16 q17 := run_facts ok16 e18
      have y44 := (b53.ext x39).upd1 x40
      refine Z.eR 4 (.cells (Z.T t5 A13 c13) 24) 1 1 (fun k17 w62 l17 x41 b55 => ⟨(fun _ => ⟨((y42.upd1 x40).ext x41), (y44.ext x41)⟩), ?_⟩)
      have zw62 := x41.size
      have tb55 := b55.lt
      have ow9 : w62.ownsRow w60.heap.size 24 5 (.slice none 0 0) Z.nl.length (flat Z.nl) := ⟨by simp [flat], .inl ⟨rfl, rfl⟩⟩
      refine Z.eK 5 (fun R hR => with_p w60.heap.size k17 1 Z.nl [(t5, A13, c13)] none 0 (Z.T t5 A13 c13) (2 : Int) ((pz.a : Nat) : Int) (1 : Int) q15.t _ R ow9 b55 rfl (by simp only [List.length_append, List.length_cons, List.length_nil]; omega) (by omega) (fun A14 c14 w63 nk7 ow10 nl7 hnk7 g7 => hR _ _ ⟨(fun _ => ⟨(((y42.upd1 x40).ext x41).upd g7 (fun e => by cases e)), ((y44.ext x41).upd g7 (fun e => by cases e))⟩), ?_⟩))
      have zw63 := g7.size
      have hb7 : ∀ j, ((.slice A14 (Z.nl ++ [(t5, A13, c13)]).length c14 : Value) : Value).ownBlock = some j → (j = nk7 ∧ j < w63.heap.size) := fun j e => by have l := (ow10).lt j e; rcases nl7 with q | q; (rw [q] at e; cases e); (rw [q] at e; cases e; omega)
      have hkx7 : Z.ks (InV w60.heap.size w63.heap.size [k1, k2, k16] (.slice A14 (Z.nl ++ [(t5, A13, c13)]).length c14 : Value)) w63 (Z.nl ++ [(t5, A13, c13)]) := Z.m0 (KV.topV (KV.ofIn ((kv7.ext x41).app g7 (fun j e => by cases e)) (fun j e => by have z := hb7 j e; first | (left; omega) | (right; omega) | omega)))
      refine Z.eR 6 (.cells #[.int .i64 2, Z.n pz.a, .string q15.t, .int .i64 1, (.slice A14 (Z.nl ++ [(t5, A13, c13)]).length c14 : Value)] 24) 1 1 (fun k18 w64 l18 x42 b56 => ⟨(fun _ => ⟨((((y42.upd1 x40).ext x41).upd g7 (fun e => by cases e)).ext x42), (((y44.ext x41).upd g7 (fun e => by cases e)).ext x42)⟩), ?_⟩)
      have zw64 := x42.size
      have tb56 := b56.lt
      obtain ⟨A15, c15, hvkv8, kv8⟩ := KV.of_own (Q := In w60.heap.size w64.heap.size [k1, k2, k16]) (Z.nl ++ [(t5, A13, c13)]) (Gx.own_ext ow10 x42) (fun j e => by have := ((Gx.own_ext ow10 x42)).lt j e; exact ⟨by omega, by omega, (by have z := hb7 j e; simp only [List.mem_cons, List.not_mem_nil, or_false, not_or]; omega)⟩) (fun p' h0 => (KV.topV ((hkx7 p' h0).extV x42)).noV)
      rw [nds_len] at hvkv8; cases hvkv8
      have y45 := Gx.own_ext (Gx.own_updr (Gx.own_ext (Gx.own_upd1 (Gx.own_ext (Gx.own_upd1 (Gx.own_upd1 (Gx.own_upd1 (Gx.own_ext (Gx.own_upd1 (Gx.own_upd1 (Gx.own_upd1 howz x35 (fun q e => by have z := hblz q e; omega)) x36 (fun q e => by have z := hblz q e; omega)) x37 (fun q e => by have z := hblz q e; omega)) x38) u13 (fun q e => by have z := hblz q e; omega)) u14 (fun q e => by have z := hblz q e; omega)) u15 (fun q e => by have z := hblz q e; omega)) x39) x40 (fun q e => by have z := hblz q e; omega)) x41) g7 (fun q e j e' => by have z := hblz q e; have := (ow9).lt j e'; omega)) x42
      refine Z.eK 7 (fun R hR => with_p w3.heap.size k18 1 Lz [((Nd.mk 2 pz.a q15.t (1 : Int) (nds (Z.nl ++ [(t5, A13, c13)]))), A14, c14)] Az cz #[.int .i64 2, Z.n pz.a, .string q15.t, .int .i64 1, .slice A14 ((Z.nl ++ [(t5, A13, c13)]).length) c14] (0 : Int) (0 : Int) ((L.length : Nat) : Int) Z.E _ R y45 b56 rfl (by simp only [List.length_append, List.length_cons, List.length_nil]; omega) (by omega) (fun A16 c16 w65 nk8 ow11 nl8 hnk8 g8 => hR _ _ ⟨(fun _ => ⟨(((((y42.upd1 x40).ext x41).upd g7 (fun e => by cases e)).ext x42).upd g8 (fun e => by have := hblz _ e.symm; omega)), ((((y44.ext x41).upd g7 (fun e => by cases e)).ext x42).upd g8 (fun e => by have := hblz _ e.symm; omega))⟩), ?_⟩))
      have zw65 := g8.size
      have hb8 : ∀ j, ((.slice A16 (Lz ++ [((Nd.mk 2 pz.a q15.t (1 : Int) (nds (Z.nl ++ [(t5, A13, c13)]))), A14, c14)]).length c16 : Value) : Value).ownBlock = some j → (w3.heap.size ≤ j ∧ j < w52.heap.size ∧ j ≠ k1 ∧ j ≠ k2) ∨ (j = nk8 ∧ j < w65.heap.size) := fun j e => by have l := (ow11).lt j e; rcases nl8 with q | q; (rw [q] at e; have z := hblz j e; omega); (rw [q] at e; cases e; omega)
      have hkx8 : Z.ks (InV w3.heap.size w65.heap.size [k1, k2, k16] (.slice A16 (Lz ++ [((Nd.mk 2 pz.a q15.t (1 : Int) (nds (Z.nl ++ [(t5, A13, c13)]))), A14, c14)]).length c16 : Value)) w65 (Lz ++ [((Nd.mk 2 pz.a q15.t (1 : Int) (nds (Z.nl ++ [(t5, A13, c13)]))), A14, c14)]) := Z.m1 (Q' := fun _ => True) (w' := w65) (fun p' h0 => (KV.topV ((((((((((((((((hksz p' h0).updV x35).updV x36).updV x37).extV x38).updV u13).updV u14).updV u15).extV x39).updV x40).extV x41).otherV g7 (fun j e => by have := (ow9).lt j e; first | (left; omega) | (right; omega))).extV x42)).appV g8).toV nl8 (by omega)))) (KV.topV (KV.ofIn (kv8.app g8 (fun j e => by have z := hblz j e; first | (left; omega) | (right; left; omega) | omega)) (fun j e => by have z := hb8 j e; first | (left; omega) | (right; omega) | omega)))
      refine Z.eSa 8 #[.int .i64 0, .int .i64 0, .string Z.E, Z.n L.length, (.slice A16 (Lz ++ [((Nd.mk 2 pz.a q15.t (1 : Int) (nds (Z.nl ++ [(t5, A13, c13)]))), A14, c14)]).length c16 : Value)] (((((y42.upd1 x40).ext x41).upd g7 (fun e => by cases e)).ext x42).upd g8 (fun e => by have := hblz _ e.symm; omega)) (fun w66 u16 b57 => ⟨(Gx.not_clear (by kernel_rfl)), ?_⟩)
      have zw66 := u16.size
      refine Gx.anyE_done (by kernel_rfl) ?_ _
      refine Gx.block_normal (Z.x (Z.g [0, 1, 2, 3, 4, 5] ?_))
      refine Z.p [0, 1, 2, 3] [4, 5] [(69, Z.P b 2), (68, Z.P b 1), (67, Z.P b 0), (66, Z.P b 0)] ?_
      have y46 := ((((b54.ext x41).upd g7 (fun e => by cases e)).ext x42).upd g8 (fun e => by have := hblz _ e.symm; omega)).upd1 u16
      refine Z.L 2 (Z.n q17.a) y46 ?_
      refine Z.p [5] [] [(7, Z.n q17.a)] ?_
      refine Gx.ops_nil (Z.x ?_)
      rw [Gx.forget [(0, Z.P b 0), (2, Z.P k1 0), (3, Z.P k2 0), (7, Z.n q17.a)] (by kernel_rfl)]
      exact hK2 _ _ _ _ (by omega) ⟨iz, q17, A16, c16, (Lz ++ [((Nd.mk 2 pz.a q15.t (1 : Int) (nds (Z.nl ++ [(t5, A13, c13)]))), A14, c14)]), rfl, rfl, (gb_new (gb_app (gb_ext (gb_app (gb_ext (gb_upd y43 x40) x41) g7 (fun j e => by have := (ow9).lt j e; omega)) x42) g8 (fun j e => by have := (y45).lt j e; omega)) u16), y46, ((((((((((((((b45.upd1 x35).upd1 x36).upd1 x37).ext x38).upd1 u13).upd1 u14).upd1 u15).ext x39).upd1 x40).ext x41).upd g7 (fun e => by cases e)).ext x42).upd g8 (fun e => by have := hblz _ e.symm; omega)).upd1 u16), b57, (by omega), (by omega), (by rw [← hrz]; simp only [run_succ, stepN, defsLS, defsT, y39, e16, kbq15, e17, kbq16, e18, kbq17, y40, h_gf62_1, Z.ifs, reduceIte, maps]), ok17, (Gx.own_upd1 ow11 u16 (fun q e => by have z := hb8 q e; omega)), (fun p' h0 => KV.topV ((hkx8 p' h0).updV u16)), (by rw [List.length_append]; show Lz.length + 1 + _ ≤ _; omega), (by omega), ⟨by omega, by omega⟩, (by omega), f17, (fun j e => by have z := hb8 j e; omega)⟩
    rw [h_gf62_1]
    refine Z.r [0, 1, 2, 3] ?_
    refine Z.p [0] [1, 2, 3] [(73, Z.P b 0)] ?_
    have y47 := gb_upd (gb_upd y37 x35) x36
    refine Z.kP (fun R hR hE => named_p b S q15 (2 : Int) _ R b48 ok15 f15 (fun w67 q18 e19 f18 x43 => hE _ _ (And.intro rfl (hP _ q18 (by have zl : (run S k (.defsL L.length (nds L)) q1).2 = q18 := (by rw [← hrz]; simp only [run_succ, stepN, defsLS, defsT, y39, e16, kbq15, y40, h_gf62_1, Z.ifs, reduceIte, e19, idl f18]); (try simp only [maps] at zl); rw [run_succ]; simp only [stepN, progS, Nd.ks, maps, y38, h_c65, h_gf62_1, Z.ifs, reduceIte, zl, idl f18]) f18 (gb_upd y47 x43)))) (fun w67 q18 e19 f18 x43 b58 => hR _ _ ?_))
    have zw67 := x43.size
    have tb58 := b58.lt
    have kbq18 := (okB_iff q18).2 f18
    obtain ⟨ok18, ok18m, ok18x, ok18y⟩ : Tr S q15 q18 := by have := name_tr ok15; rw [e19] at this; exact this
    have ok18l : M S q18 < M S q15 := by have := name_lt ok15 (by rw [e19]; exact kbq18); rw [e19] at this; exact this
    refine Z.N Z.c0 (fun k19 w68 l19 x44 b59 zw68 tb59 => ?_)
    refine Z.Sa #[.int .i64 2, Z.n q15.a, .string q15.t, .int .i64 0, .slice none 0 0] b59 (fun w69 u17 b60 zw69 => ?_)
    refine Z.e (Z.r [0, 1, 2] ?_)
    refine Z.p [0, 1] [2] [(76, Z.P k19 1), (75, Z.n pz.a)] ?_
    refine Z.S 1 (Z.n pz.a) b60 #[.int .i64 2, Z.n pz.a, .string q15.t, .int .i64 0, .slice none 0 0] (fun w70 u18 b61 zw70 => ?_)
    refine Z.e (wp_seq (Z.sf [(77, .bool false)] ?_))
    refine wp_skip (Z.x (Gx.drawE (S := fun w' => Gx.Has w' k2 (.cells #[.int .i64 0, .int .i64 0, .string Z.E, Z.n L.length, (.slice Az Lz.length cz : Value)] 24) ∧ Gx.Has w' k19 (.cells #[.int .i64 2, Z.n pz.a, .string q15.t, .int .i64 0, .slice none 0 0] 24)) [8] (by kernel_rfl) (fun w71 x45 => ?_)))
    have zw71 := x45.size
    have y48 := ((((((b46.upd1 x35).upd1 x36).upd1 x43).ext x44).upd1 u17).upd1 u18).ext x45
    refine Z.eh ⟨y48, (b61.ext x45)⟩ (fun hS6 => ?_)
    refine Z.es 0 [7, 8] 0 (.agg #[.int .i64 0, .int .i64 0, .string Z.E, Z.n L.length, (.slice Az Lz.length cz : Value)]) (fun _ hs => hs.1) hS6 ?_
    refine Z.es 1 [5, 6, 7, 8] 0 (.agg #[.int .i64 2, Z.n pz.a, .string q15.t, .int .i64 0, .slice none 0 0]) (fun _ hs => hs.2) hS6 ?_
    refine Z.et 2 (Z.P b 0) (fun _ => hS6) ?_
    have y49 := gb_ext (gb_new (gb_new (gb_ext (gb_upd y47 x43) x44) u17) u18) x45
    refine Z.eP 3 (fun R hR hE => (ih iz (by omega)).f_params b S q18 Z.k7 _ R ((((b58.ext x44).upd1 u17).upd1 u18).ext x45) ok18 f18 (by omega) (fun w72 q19 e20 f19 x46 => hE _ _ (And.intro rfl (hP _ q19 (by have zl : (run S k (.defsL L.length (nds L)) q1).2 = q19 := (by rw [← hrz]; simp only [run_succ, stepN, defsLS, defsT, y39, e16, kbq15, e19, kbq18, y40, h_gf62_1, Z.ifs, reduceIte, e20, idl f19]); (try simp only [maps] at zl); rw [run_succ]; simp only [stepN, progS, Nd.ks, maps, y38, h_c65, h_gf62_1, Z.ifs, reduceIte, zl, idl f19]) f19 (gb_upd y49 x46)))) (fun w72 t6 A17 c17 q19 e20 f19 x46 b62 kv9 => hR _ _ ⟨(fun _ => ⟨(y48.upd1 x46), ((b61.ext x45).upd1 x46)⟩), ?_⟩))
    have zw72 := x46.size
    have tb62 := b62.lt
    have kbq19 := (okB_iff q19).2 f19
    obtain ⟨ok19, ok19m, ok19x, ok19y⟩ : Tr S q18 q19 := run_facts ok18 e20
    have y50 := (b61.ext x45).upd1 x46
    refine Z.eR 4 (.cells (Z.T t6 A17 c17) 24) 1 1 (fun k20 w73 l20 x47 b63 => ⟨(fun _ => ⟨((y48.upd1 x46).ext x47), (y50.ext x47)⟩), ?_⟩)
    have zw73 := x47.size
    have tb63 := b63.lt
    have ow12 : w73.ownsRow w71.heap.size 24 5 (.slice none 0 0) Z.nl.length (flat Z.nl) := ⟨by simp [flat], .inl ⟨rfl, rfl⟩⟩
    refine Z.eK 5 (fun R hR => with_p w71.heap.size k20 1 Z.nl [(t6, A17, c17)] none 0 (Z.T t6 A17 c17) (2 : Int) ((pz.a : Nat) : Int) (0 : Int) q15.t _ R ow12 b63 rfl (by simp only [List.length_append, List.length_cons, List.length_nil]; omega) (by omega) (fun A18 c18 w74 nk9 ow13 nl9 hnk9 g9 => hR _ _ ⟨(fun _ => ⟨(((y48.upd1 x46).ext x47).upd g9 (fun e => by cases e)), ((y50.ext x47).upd g9 (fun e => by cases e))⟩), ?_⟩))
    have zw74 := g9.size
    have hb9 : ∀ j, ((.slice A18 (Z.nl ++ [(t6, A17, c17)]).length c18 : Value) : Value).ownBlock = some j → (j = nk9 ∧ j < w74.heap.size) := fun j e => by have l := (ow13).lt j e; rcases nl9 with q | q; (rw [q] at e; cases e); (rw [q] at e; cases e; omega)
    have hkx9 : Z.ks (InV w71.heap.size w74.heap.size [k1, k2, k19] (.slice A18 (Z.nl ++ [(t6, A17, c17)]).length c18 : Value)) w74 (Z.nl ++ [(t6, A17, c17)]) := Z.m0 (KV.topV (KV.ofIn ((kv9.ext x47).app g9 (fun j e => by cases e)) (fun j e => by have z := hb9 j e; first | (left; omega) | (right; omega) | omega)))
    refine Z.eR 6 (.cells #[.int .i64 2, Z.n pz.a, .string q15.t, .int .i64 0, (.slice A18 (Z.nl ++ [(t6, A17, c17)]).length c18 : Value)] 24) 1 1 (fun k21 w75 l21 x48 b64 => ⟨(fun _ => ⟨((((y48.upd1 x46).ext x47).upd g9 (fun e => by cases e)).ext x48), (((y50.ext x47).upd g9 (fun e => by cases e)).ext x48)⟩), ?_⟩)
    have zw75 := x48.size
    have tb64 := b64.lt
    obtain ⟨A19, c19, hvkv10, kv10⟩ := KV.of_own (Q := In w71.heap.size w75.heap.size [k1, k2, k19]) (Z.nl ++ [(t6, A17, c17)]) (Gx.own_ext ow13 x48) (fun j e => by have := ((Gx.own_ext ow13 x48)).lt j e; exact ⟨by omega, by omega, (by have z := hb9 j e; simp only [List.mem_cons, List.not_mem_nil, or_false, not_or]; omega)⟩) (fun p' h0 => (KV.topV ((hkx9 p' h0).extV x48)).noV)
    rw [nds_len] at hvkv10; cases hvkv10
    have y51 := Gx.own_ext (Gx.own_updr (Gx.own_ext (Gx.own_upd1 (Gx.own_ext (Gx.own_upd1 (Gx.own_upd1 (Gx.own_ext (Gx.own_upd1 (Gx.own_upd1 (Gx.own_upd1 howz x35 (fun q e => by have z := hblz q e; omega)) x36 (fun q e => by have z := hblz q e; omega)) x43 (fun q e => by have z := hblz q e; omega)) x44) u17 (fun q e => by have z := hblz q e; omega)) u18 (fun q e => by have z := hblz q e; omega)) x45) x46 (fun q e => by have z := hblz q e; omega)) x47) g9 (fun q e j e' => by have z := hblz q e; have := (ow12).lt j e'; omega)) x48
    refine Z.eK 7 (fun R hR => with_p w3.heap.size k21 1 Lz [((Nd.mk 2 pz.a q15.t (0 : Int) (nds (Z.nl ++ [(t6, A17, c17)]))), A18, c18)] Az cz #[.int .i64 2, Z.n pz.a, .string q15.t, .int .i64 0, .slice A18 ((Z.nl ++ [(t6, A17, c17)]).length) c18] (0 : Int) (0 : Int) ((L.length : Nat) : Int) Z.E _ R y51 b64 rfl (by simp only [List.length_append, List.length_cons, List.length_nil]; omega) (by omega) (fun A20 c20 w76 nk10 ow14 nl10 hnk10 g10 => hR _ _ ⟨(fun _ => ⟨(((((y48.upd1 x46).ext x47).upd g9 (fun e => by cases e)).ext x48).upd g10 (fun e => by have := hblz _ e.symm; omega)), ((((y50.ext x47).upd g9 (fun e => by cases e)).ext x48).upd g10 (fun e => by have := hblz _ e.symm; omega))⟩), ?_⟩))
    have zw76 := g10.size
    have hb10 : ∀ j, ((.slice A20 (Lz ++ [((Nd.mk 2 pz.a q15.t (0 : Int) (nds (Z.nl ++ [(t6, A17, c17)]))), A18, c18)]).length c20 : Value) : Value).ownBlock = some j → (w3.heap.size ≤ j ∧ j < w52.heap.size ∧ j ≠ k1 ∧ j ≠ k2) ∨ (j = nk10 ∧ j < w76.heap.size) := fun j e => by have l := (ow14).lt j e; rcases nl10 with q | q; (rw [q] at e; have z := hblz j e; omega); (rw [q] at e; cases e; omega)
    have hkx10 : Z.ks (InV w3.heap.size w76.heap.size [k1, k2, k19] (.slice A20 (Lz ++ [((Nd.mk 2 pz.a q15.t (0 : Int) (nds (Z.nl ++ [(t6, A17, c17)]))), A18, c18)]).length c20 : Value)) w76 (Lz ++ [((Nd.mk 2 pz.a q15.t (0 : Int) (nds (Z.nl ++ [(t6, A17, c17)]))), A18, c18)]) := Z.m1 (Q' := fun _ => True) (w' := w76) (fun p' h0 => (KV.topV (((((((((((((((hksz p' h0).updV x35).updV x36).updV x43).extV x44).updV u17).updV u18).extV x45).updV x46).extV x47).otherV g9 (fun j e => by have := (ow12).lt j e; first | (left; omega) | (right; omega))).extV x48)).appV g10).toV nl10 (by omega)))) (KV.topV (KV.ofIn (kv10.app g10 (fun j e => by have z := hblz j e; first | (left; omega) | (right; left; omega) | omega)) (fun j e => by have z := hb10 j e; first | (left; omega) | (right; omega) | omega)))
    refine Z.eSa 8 #[.int .i64 0, .int .i64 0, .string Z.E, Z.n L.length, (.slice A20 (Lz ++ [((Nd.mk 2 pz.a q15.t (0 : Int) (nds (Z.nl ++ [(t6, A17, c17)]))), A18, c18)]).length c20 : Value)] (((((y48.upd1 x46).ext x47).upd g9 (fun e => by cases e)).ext x48).upd g10 (fun e => by have := hblz _ e.symm; omega)) (fun w77 u19 b65 => ⟨(Gx.not_clear (by kernel_rfl)), ?_⟩)
    have zw77 := u19.size
    refine Gx.anyE_done (by kernel_rfl) ?_ _
    refine Gx.block_normal (Z.x (Z.g [0, 1, 2, 3, 4, 5] ?_))
    refine Z.p [0, 1, 2, 3] [4, 5] [(69, Z.P b 2), (68, Z.P b 1), (67, Z.P b 0), (66, Z.P b 0)] ?_
    have y52 := ((((b62.ext x47).upd g9 (fun e => by cases e)).ext x48).upd g10 (fun e => by have := hblz _ e.symm; omega)).upd1 u19
    refine Z.L 2 (Z.n q19.a) y52 ?_
    refine Z.p [5] [] [(7, Z.n q19.a)] ?_
    refine Gx.ops_nil (Z.x ?_)
    rw [Gx.forget [(0, Z.P b 0), (2, Z.P k1 0), (3, Z.P k2 0), (7, Z.n q19.a)] (by kernel_rfl)]
    exact hK2 _ _ _ _ (by omega) ⟨iz, q19, A20, c20, (Lz ++ [((Nd.mk 2 pz.a q15.t (0 : Int) (nds (Z.nl ++ [(t6, A17, c17)]))), A18, c18)]), rfl, rfl, (gb_new (gb_app (gb_ext (gb_app (gb_ext (gb_upd y49 x46) x47) g9 (fun j e => by have := (ow12).lt j e; omega)) x48) g10 (fun j e => by have := (y51).lt j e; omega)) u19), y52, (((((((((((((b45.upd1 x35).upd1 x36).upd1 x43).ext x44).upd1 u17).upd1 u18).ext x45).upd1 x46).ext x47).upd g9 (fun e => by cases e)).ext x48).upd g10 (fun e => by have := hblz _ e.symm; omega)).upd1 u19), b65, (by omega), (by omega), (by rw [← hrz]; simp only [run_succ, stepN, defsLS, defsT, y39, e16, kbq15, e19, kbq18, e20, kbq19, y40, h_gf62_1, Z.ifs, reduceIte, maps]), ok19, (Gx.own_upd1 ow14 u19 (fun q e => by have z := hb10 q e; omega)), (fun p' h0 => KV.topV ((hkx10 p' h0).updV u19)), (by rw [List.length_append]; show Lz.length + 1 + _ ≤ _; omega), (by omega), ⟨by omega, by omega⟩, (by omega), f19, (fun j e => by have z := hb10 j e; omega)⟩
  refine wp_exit (Gx.then_exit (Gx.then_exit (Gx.block_exit (Z.x ?_))))
  have hq3 : pz = q14 := (has_not e15 h_c65).symm; have hn3 : isB q14 Z.k43 = false := by rw [← hq3]; exact h_c65
  have y53 := Z.a h_c17 h_c65
  have e21 : run S k (.defsL L.length (nds L)) q1 = ((Nd.mk 0 0 Z.E ((L.length : Nat) : Int) (nds Lz)), q14) := by rw [← hrz]; simp only [run_succ, stepN, defsLS, defsT, kbpz, e15, kbq14, hq3, hn3, y53, Z.ifs, reduceIte, maps]
  try simp only [maps] at e21
  refine Z.r [0, 1, 2] ?_
  refine Z.p [0] [1, 2] [(87, Z.P b 0)] ?_
  refine Z.R (.cells #[.string Z.k44, .string Z.k7] 9) 2 2 (fun k22 w78 l22 x49 b66 zw78 tb66 => ?_)
  have y54 := gb_ext (gb_upd y37 x35) x49
  refine Z.kP (fun R hR hE => need_p b S q14 [Z.k44, Z.k7] k22 2 _ R (b47.ext x49) ok14 f14 b66 (by omega) (Nat.le_of_ble_eq_true rfl) (fun w79 q20 e22 f20 x50 => hE _ _ (And.intro rfl (hP _ q20 (by rw [run_succ]; simp only [stepN, progS, Nd.ks, maps, kbq, e14, e21, y53, Z.ifs, reduceIte, (show mustR S (mustR S q14 Z.k44) Z.k7 = q20 from e22), idl f20]) f20 (gb_upd y54 x50)))) (fun w79 q20 e22 f20 x50 b67 => hR _ _ ?_))
  have zw79 := x50.size
  have tb67 := b67.lt
  obtain ⟨ok20, ok20m, ok20x, ok20y⟩ : Tr S q14 q20 := e22 ▸ musts_tr _ ok14
  have e22 : mustR S (mustR S q14 Z.k44) Z.k7 = q20 := e22
  have kbq20 := (okB_iff q20).2 f20
  refine Z.e (wp_seq (Z.D (fun w' => Gx.Has w' k2 (.cells #[.int .i64 0, .int .i64 0, .string Z.E, Z.n L.length, (.slice Az Lz.length cz : Value)] 24)) (fun w80 x51 zw80 => ?_)))
  have y55 := (((b46.upd1 x35).ext x49).upd1 x50).ext x51
  refine Z.h y55 (fun hS7 => ?_)
  refine Z.tl 0 0 (.agg #[.int .i64 0, .int .i64 0, .string Z.E, Z.n L.length, (.slice Az Lz.length cz : Value)]) (fun _ hs => hs) hS7 ?_
  refine Z.t 1 (Z.P b 0) hS7 ?_
  have y56 := gb_ext (gb_upd y54 x50) x51
  refine Z.oP 2 (fun R hR hE => (ih k (Nat.le_refl k)).f_expr b S q20 _ R (b67.ext x51) ok20 f20 (by omega) (fun w81 q21 e23 f21 x52 => hE _ _ (And.intro rfl (hP _ q21 (by rw [run_succ]; simp only [stepN, progS, Nd.ks, maps, kbq, e14, e21, e22, kbq20, y53, Z.ifs, reduceIte, e23, idl f21]) f21 (gb_upd y56 x52)))) (fun w81 t7 A21 c21 q21 e23 f21 x52 b68 kv11 => hR _ _ ⟨(y55.upd1 x52), ?_⟩))
  have zw81 := x52.size
  have tb68 := b68.lt
  have kbq21 := (okB_iff q21).2 f21
  obtain ⟨ok21, ok21m, ok21x, ok21y⟩ : Tr S q20 q21 := run_facts ok20 e23
  refine Z.oR 3 (.cells (Z.T t7 A21 c21) 24) 1 1 (fun k23 w82 l23 x53 b69 => ⟨((y55.upd1 x52).ext x53), ?_⟩)
  have zw82 := x53.size
  have tb69 := b69.lt
  have y57 := Gx.own_ext (Gx.own_upd1 (Gx.own_ext (Gx.own_upd1 (Gx.own_ext (Gx.own_upd1 howz x35 (fun q e => by have z := hblz q e; omega)) x49) x50 (fun q e => by have z := hblz q e; omega)) x51) x52 (fun q e => by have z := hblz q e; omega)) x53
  refine Z.o 4 (fun R hR => with_p w3.heap.size k23 1 Lz [(t7, A21, c21)] Az cz (Z.T t7 A21 c21) (0 : Int) (0 : Int) ((L.length : Nat) : Int) Z.E _ R y57 b69 rfl (by simp only [List.length_append, List.length_cons, List.length_nil]; omega) (by omega) (fun A22 c22 w83 nk11 ow15 nl11 hnk11 g11 => hR _ _ ⟨(((y55.upd1 x52).ext x53).upd g11 (fun e => by have := hblz _ e.symm; omega)), fun hS8 => ?_⟩))
  have zw83 := g11.size
  have hb11 : ∀ j, ((.slice A22 (Lz ++ [(t7, A21, c21)]).length c22 : Value) : Value).ownBlock = some j → (w3.heap.size ≤ j ∧ j < w52.heap.size ∧ j ≠ k1 ∧ j ≠ k2) ∨ (j = nk11 ∧ j < w83.heap.size) := fun j e => by have l := (ow15).lt j e; rcases nl11 with q | q; (rw [q] at e; have z := hblz j e; omega); (rw [q] at e; cases e; omega)
  have hkx11 : Z.ks (InV w3.heap.size w83.heap.size [k1, k2] (.slice A22 (Lz ++ [(t7, A21, c21)]).length c22 : Value)) w83 (Lz ++ [(t7, A21, c21)]) := Z.m1 (Q' := fun _ => True) (w' := w83) (fun p' h0 => (KV.topV ((((((((((hksz p' h0).updV x35).extV x49).updV x50).extV x51).updV x52).extV x53)).appV g11).toV nl11 (by omega)))) (KV.topV (KV.ofIn ((kv11.ext x53).app g11 (fun j e => by have z := hblz j e; first | (left; omega) | (right; left; omega) | omega)) (fun j e => by have z := hb11 j e; first | (left; omega) | (right; omega) | omega)))
  refine Z.oSa 5 #[.int .i64 0, .int .i64 0, .string Z.E, Z.n L.length, (.slice A22 (Lz ++ [(t7, A21, c21)]).length c22 : Value)] (((((((b45.upd1 x35).ext x49).upd1 x50).ext x51).upd1 x52).ext x53).upd g11 (fun e => by have := hblz _ e.symm; omega)) (fun w84 u20 b70 => ⟨((((y55.upd1 x52).ext x53).upd g11 (fun e => by have := hblz _ e.symm; omega)).upd1 u20), ?_⟩)
  have zw84 := u20.size
  refine Z.q ?_
  refine Z.x (wp_ret (Gx.ret (Gx.res_c (u := .agg #[.int .i64 0, .int .i64 0, .string Z.E, Z.n L.length, (.slice A22 (Lz ++ [(t7, A21, c21)]).length c22 : Value)]) rfl (by kernel_rfl) b70 (by kernel_rfl)) ?_))
  have y58 := Gx.own_upd1 ow15 u20 (fun q e => by have z := hb11 q e; omega)
  obtain ⟨A23, c23, hvkv12, kv12⟩ := KV.of_own (Q := In w3.heap.size w84.heap.size [k1, k2]) (Lz ++ [(t7, A21, c21)]) y58 (fun j e => by have := (y58).lt j e; exact ⟨by omega, by omega, (by have z := hb11 j e; simp only [List.mem_cons, List.not_mem_nil, or_false, not_or]; omega)⟩) (fun p' h0 => (KV.topV ((hkx11 p' h0).updV u20)).noV)
  rw [nds_len] at hvkv12; cases hvkv12
  have hz := hK _ (Nd.mk 0 0 Z.E ((L.length : Nat) : Int) (nds (Lz ++ [(t7, A21, c21)]))) A22 c22 q21 (by rw [run_succ]; simp only [stepN, progS, Nd.ks, maps, kbq, e14, e21, e22, kbq20, e23, kbq21, y53, Z.ifs, reduceIte]) f21 (gb_new (gb_app (gb_ext (gb_upd y56 x52) x53) g11 (fun j e => by have := (y57).lt j e; omega)) u20) (((b68.ext x53).upd g11 (fun e => by have := hblz _ e.symm; omega)).upd1 u20) (KV.top kv12); unfold Z.T at hz; rw [show (Nd.mk 0 0 Z.E ((L.length : Nat) : Int) (nds (Lz ++ [(t7, A21, c21)]))).ks.length = (Lz ++ [(t7, A21, c21)]).length from nds_len _] at hz; exact hz
end Par
end Go.Proofs.YtinilkomfggjiaaDoor
