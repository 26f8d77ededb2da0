/- The walks, written by a program of ours (wip/gx/gx.py, parsegen.py). -/
import Derived.Test.YtinilkomfggjiaaDoorRows
import Derived.Test.YtinilkomfggjiaaDoorGs
import Derived.Test.YtinilkomfggjiaaDoorGp
import Derived.Test.YtinilkomfggjiaaDoorZs
import Derived.Test.YtinilkomfggjiaaDoorLexWalks4
import Derived.Test.YtinilkomfggjiaaDoorParWalks4
set_option linter.unusedVariables false
set_option linter.unusedSimpArgs false
set_option maxHeartbeats 4000000
set_option maxRecDepth 20000
namespace Go.Proofs.YtinilkomfggjiaaDoor
namespace Par
open Go.RowKit Go.Lex Go.Syn
attribute [local irreducible] Go.wpOps Go.Code.wp Go.wpOp Go.wpAnyH Go.Calls
theorem b0_p (k : Nat) (b : Nat) (S : ByteArray) (q : Rs) (w : World) (K : Ending → World → Prop) (ih : ∀ j, j ≤ k → SpecP j) (hb : Gx.Has w b (rdP S q)) (hok : Ok S q) (f0 : q.fk = 0) (hmu : 16 * M S q + 9 ≤ k + 1) (hP : (PQ w b K ((run S (k + 1) .comp q).2))) (hK : ∀ w' t A c q', run S (k + 1) .comp q = (t, q') → q'.fk = 0 → Gx.G w w' (some b) → Gx.Has w' b (rdP S q') → KV (In w.heap.size w'.heap.size []) w' t.ks A c → K (.returned (.agg (Z.T t A c))) w') :
    Calls Tryd.prog 92 #[Z.P b 0, .int .i64 0] w K := by
  refine Z.en 59 Tryd.func92 ?_
  have tbb := hb.lt
  have kbq := (okB_iff q).2 f0
  refine Z.r [0] ?_
  refine Z.N Z.c0 (fun k1 w1 l1 x1 b1 zw1 tb1 => ?_)
  refine Z.e (wp_scope_straight ?_)
  refine wp_seq (Z.sf [(9, .bool false), (8, .int .i64 0)] ?_)
  refine wp_skip (Z.x (Z.r [0, 1, 2, 3, 4, 5] ?_))
  refine Z.p [0, 1, 2] [3, 4, 5] [(14, .int .i64 1), (13, .int .i64 0), (12, Z.P b 0)] ?_
  have y1 := gb_ext (gb_refl w b) x1
  refine Z.kP (fun R hR hE => (ih k (Nat.le_refl k)).f_b1 b S q _ R (hb.ext x1) hok f0 (by omega) (fun w2 q1 e1 f1 x2 => hE _ _ (And.intro rfl (hP _ q1 (by rw [run_succ]; simp only [stepN, compS, two, kbq, Z.ifs, reduceIte, e1, idl f1]) f1 (gb_upd y1 x2)))) (fun w2 t1 A1 c1 q1 e1 f1 x2 b2 kv1 => hR _ _ ?_))
  have zw2 := x2.size
  have tb2 := b2.lt
  have kbq1 := (okB_iff q1).2 f1
  obtain ⟨ok1, ok1m, ok1x, ok1y⟩ : Tr S q q1 := run_facts hok e1
  refine Z.N Z.c0 (fun k2 w3 l2 x3 b3 zw3 tb3 => ?_)
  refine Z.Sa (Z.T t1 A1 c1) b3 (fun w4 u1 b4 zw4 => ?_)
  refine Z.e (wp_seq (wp_label ?_))
  refine Z.x (wp_block (wp_loop_rounds 1 ?_))
  refine Gx.rounds_step ?_
  refine wp_block (wp_seq (Z.r [0, 1, 2, 3] ?_))
  refine Z.p [0] [1, 2, 3] [(16, .int .i64 0)] ?_
  refine Z.k (fun R hR => signs_p0 _ R (fun w5 k3 x4 l3 b5 => hR _ _ ?_))
  have zw5 := x4.size
  have tb5 := b5.lt
  refine Z.p [2, 3] [] [(19, .int .i64 0), (18, .int .i64 2)] ?_
  refine Z.e (wp_block (wp_loop_rounds 3 ?_))
  refine Gx.rounds_step ?_
  refine Z.s [(20, .bool true)] ?_
  refine wp_seq (Z.ct ?_)
  refine wp_skip (Z.x (wp_seq (wp_block (Z.r [0, 1, 2] ?_))))
  refine Gx.cons (Gx.op_indexAddr (bk := k3) rfl (by kernel_rfl) rfl 9 1 (by kernel_rfl) (by kernel_rfl) 0 2 2 (by kernel_rfl) .i64 0 (by kernel_rfl) (by omega) ?_)
  refine Z.L 0 (.string Z.k8) b5 ?_
  refine Z.p [2] [] [(7, .string Z.k8)] ?_
  refine Z.e (wp_seq (Z.r [0, 1, 2, 3] ?_))
  refine Z.p [0, 1] [2, 3] [(24, .string Z.k8), (23, Z.P b 0)] ?_
  have y2 := gb_ext (gb_new (gb_ext (gb_upd y1 x2) x3) u1) x4
  have y3 := Z.a kbq (Z.a e1 kbq1)
  refine Z.kP (fun R hR hE => eat_p b S q1 Z.k8 _ R (((b2.ext x3).upd1 u1).ext x4) ok1 f1 (fun w6 q2 e2 f2 x5 => hE _ _ (And.intro rfl (hP _ q2 (by rw [run_succ]; simp only [stepN, compS, two, y3, Z.ifs, reduceIte, e2, has_pan e2 f2 f1, idl f2]) f2 (gb_upd y2 x5)))) (fun w6 q2 e2 f2 x5 b6 => hR _ _ ?_))
  have zw6 := x5.size
  have tb6 := b6.lt
  obtain ⟨ok2, ok2m, ok2x, ok2y⟩ : Tr S q1 q2 := e2 ▸ has_tr ok1
  have kbq2 := (okB_iff q2).2 f2
  refine Z.p [3] [] [(26, .bool (!(isB q1 Z.k8)))] ?_
  refine Z.e (Z.c (!(isB q1 Z.k8)) (fun h_c26 => ?_) (fun h_c26 => ?_))
  · skip
    refine wp_exit (Gx.then_exit (Gx.block_exit (Z.x (Z.u [(19, .int .i64 1), (57, .int .i64 1)] ?_))))
    refine Z.x (Gx.rounds_step ?_)
    refine Z.s [(20, .bool true)] ?_
    refine wp_seq (Z.ct ?_)
    refine wp_skip (Z.x (wp_seq (wp_block (Z.r [0, 1, 2] ?_))))
    have n_c26 : isB q1 Z.k8 = false := by simpa using h_c26
    refine Gx.cons (Gx.op_indexAddr (bk := k3) rfl (by kernel_rfl) rfl 9 1 (by kernel_rfl) (by kernel_rfl) 0 2 2 (by kernel_rfl) .i64 1 (by kernel_rfl) (by omega) ?_)
    refine Z.L 1 (.string Z.k17) (b5.upd1 x5) ?_
    refine Z.p [2] [] [(7, .string Z.k17)] ?_
    refine Z.e (wp_seq (Z.r [0, 1, 2, 3] ?_))
    refine Z.p [0, 1] [2, 3] [(24, .string Z.k17), (23, Z.P b 0)] ?_
    refine Z.kP (fun R hR hE => eat_p b S q2 Z.k17 _ R b6 ok2 f2 (fun w7 q3 e3 f3 x6 => hE _ _ (And.intro rfl (hP _ q3 (by rw [run_succ]; simp only [stepN, compS, two, y3, e2, kbq2, h_c26, n_c26, Z.ifs, reduceIte, e3, has_pan e3 f3 f2, idl f3]) f3 (gb_upd (gb_upd y2 x5) x6)))) (fun w7 q3 e3 f3 x6 b7 => hR _ _ ?_))
    have zw7 := x6.size
    have tb7 := b7.lt
    obtain ⟨ok3, ok3m, ok3x, ok3y⟩ : Tr S q2 q3 := e3 ▸ has_tr ok2
    have kbq3 := (okB_iff q3).2 f3
    refine Z.p [3] [] [(26, .bool (!(isB q2 Z.k17)))] ?_
    refine Z.e (Z.c (!(isB q2 Z.k17)) (fun h_c26_1 => ?_) (fun h_c26_1 => ?_))
    · skip
      refine wp_exit (Gx.then_exit (Gx.block_exit (Z.x (Z.u [(19, .int .i64 2), (57, .int .i64 2)] ?_))))
      refine Z.x (Gx.rounds_step ?_)
      refine Z.s [(20, .bool false)] ?_
      refine wp_seq (Z.cf ?_)
      refine wp_exit (Gx.then_exit (Gx.then_exit (Gx.block_exit (Z.x (Z.r [0, 1] ?_)))))
      have n_c26_1 : isB q2 Z.k17 = false := by simpa using h_c26_1
      refine Z.L 0 (.agg (Z.T t1 A1 c1)) (((b4.ext x4).upd1 x5).upd1 x6) ?_
      refine Z.Sa (Z.T t1 A1 c1) ((((((b1.upd1 x2).ext x3).upd1 u1).ext x4).upd1 x5).upd1 x6) (fun w8 u2 b8 zw8 => ?_)
      refine Z.e (wp_ret (Gx.block_ret (Gx.then_ret (Gx.block_ret (Gx.scope_ret ?_)))))
      refine Gx.ret (Gx.res_c (u := .agg (Z.T t1 A1 c1)) rfl (by kernel_rfl) b8 (by kernel_rfl)) ?_
      exact hK _ t1 A1 c1 q3 (by rw [run_succ]; simp only [stepN, compS, two, y3, e2, kbq2, e3, kbq3, h_c26, h_c26_1, n_c26, n_c26_1, Z.ifs, reduceIte]) f3 (gb_new (gb_upd (gb_upd y2 x5) x6) u2) (b7.upd1 u2) (KV.top ((((((kv1.ext x3).upd u1).ext x4).upd x5).upd x6).upd u2))
    refine wp_skip (Z.x (wp_seq (Z.s [(27, .int .i64 0)] ?_)))
    refine wp_block (Z.st [(28, .bool true), (29, .bool true)] ?_)
    refine wp_seq (Z.D (fun w' => Gx.Has w' k2 (.cells (Z.T t1 A1 c1) 24)) (fun w9 x7 zw9 => ?_))
    have n_c26_1 : isB q2 Z.k17 = true := by simpa using h_c26_1
    have lt1 := (Z.lt ok2 n_c26_1 e3)
    have y4 := (((b4.ext x4).upd1 x5).upd1 x6).ext x7
    refine Z.h y4 (fun hS1 => ?_)
    refine Z.t 0 (Z.P k2 1) hS1 ?_
    refine Z.tl 1 1 (Z.n t1.a) (fun _ hs => hs) hS1 ?_
    refine Z.t 2 (.string Z.k17) hS1 ?_
    refine Z.tl 3 0 (.agg (Z.T t1 A1 c1)) (fun _ hs => hs) hS1 ?_
    refine Z.t 4 (Z.P b 0) hS1 ?_
    have y5 := gb_ext (gb_upd (gb_upd y2 x5) x6) x7
    refine Z.oP 5 (fun R hR hE => (ih k (Nat.le_refl k)).f_b1 b S q3 _ R (b7.ext x7) ok3 f3 (by omega) (fun w10 q4 e4 f4 x8 => hE _ _ (And.intro rfl (hP _ q4 (by rw [run_succ]; simp only [stepN, compS, two, y3, e2, kbq2, e3, kbq3, h_c26, h_c26_1, n_c26, n_c26_1, Z.ifs, reduceIte, e4, idl f4]) f4 (gb_upd y5 x8)))) (fun w10 t2 A2 c2 q4 e4 f4 x8 b9 kv2 => hR _ _ ⟨(y4.upd1 x8), ?_⟩))
    have zw10 := x8.size
    have tb9 := b9.lt
    have kbq4 := (okB_iff q4).2 f4
    obtain ⟨ok4, ok4m, ok4x, ok4y⟩ : Tr S q3 q4 := run_facts ok3 e4
    refine Z.oR 6 (.cells #[Z.n t1.k, Z.n t1.a, .string t1.nm, .int .i64 t1.n, .slice A1 t1.ks.length c1, Z.n t2.k, Z.n t2.a, .string t2.nm, .int .i64 t2.n, .slice A2 t2.ks.length c2] 24) 2 2 (fun k4 w11 l4 x9 b10 => ⟨((y4.upd1 x8).ext x9), ?_⟩)
    have zw11 := x9.size
    have tb10 := b10.lt
    refine Z.h ((y4.upd1 x8).ext x9) (fun hS2 => ?_)
    refine Z.t 7 (.agg #[.int .i64 18, Z.n t1.a, .string Z.k17, .int .i64 0, .slice (some ⟨k4, 0, none⟩) 2 2]) hS2 ?_
    refine Z.oSa 8 #[.int .i64 18, Z.n t1.a, .string Z.k17, .int .i64 0, .slice (some ⟨k4, 0, none⟩) 2 2] (((((((((b1.upd1 x2).ext x3).upd1 u1).ext x4).upd1 x5).upd1 x6).ext x7).upd1 x8).ext x9) (fun w12 u3 b11 => ⟨(((y4.upd1 x8).ext x9).upd1 u3), ?_⟩)
    have zw12 := u3.size
    refine Z.q ?_
    refine Z.x (wp_ret (Gx.block_ret (Gx.then_ret (Gx.block_ret (Gx.then_ret (Gx.then_ret (Gx.block_ret (Gx.then_ret (Gx.block_ret (Gx.then_ret (Gx.block_ret (Gx.scope_ret ?_))))))))))))
    refine Gx.ret (Gx.res_c (u := .agg #[.int .i64 18, Z.n t1.a, .string Z.k17, .int .i64 0, .slice (some ⟨k4, 0, none⟩) 2 2]) rfl (by kernel_rfl) b11 (by kernel_rfl)) ?_
    exact hK _ (Nd.mk 18 t1.a Z.k17 (0 : Int) [t1, t2]) (some (⟨k4, 0, none⟩ : Addr)) 2 q4 (by rw [run_succ]; simp only [stepN, compS, two, y3, e2, kbq2, e3, kbq3, e4, kbq4, h_c26, h_c26_1, n_c26, n_c26_1, Z.ifs, reduceIte]) f4 (gb_new (gb_ext (gb_upd y5 x8) x9) u3) ((b9.ext x9).upd1 u3) (KV.of_row [(t1, A1, c1), (t2, A2, c2)] (n := 10) (b10.upd1 u3) rfl ⟨by omega, by omega, (fun hj => by cases hj)⟩ (by intro p hp; simp only [List.mem_cons, List.not_mem_nil, or_false] at hp; rcases hp with rfl | rfl; exact (KV.top (((((((((kv1.ext x3).upd u1).ext x4).upd x5).upd x6).ext x7).upd x8).ext x9).upd u3)); exact (KV.top ((kv2.ext x9).upd u3))))
  refine wp_skip (Z.x (wp_seq (Z.s [(27, .int .i64 0)] ?_)))
  refine wp_block (Z.st [(28, .bool true), (29, .bool true)] ?_)
  refine wp_seq (Z.D (fun w' => Gx.Has w' k2 (.cells (Z.T t1 A1 c1) 24)) (fun w13 x10 zw13 => ?_))
  have n_c26 : isB q1 Z.k8 = true := by simpa using h_c26
  have lt2 := (Z.lt ok1 n_c26 e2)
  have y6 := ((b4.ext x4).upd1 x5).ext x10
  refine Z.h y6 (fun hS3 => ?_)
  refine Z.t 0 (Z.P k2 1) hS3 ?_
  refine Z.tl 1 1 (Z.n t1.a) (fun _ hs => hs) hS3 ?_
  refine Z.t 2 (.string Z.k8) hS3 ?_
  refine Z.tl 3 0 (.agg (Z.T t1 A1 c1)) (fun _ hs => hs) hS3 ?_
  refine Z.t 4 (Z.P b 0) hS3 ?_
  have y7 := gb_ext (gb_upd y2 x5) x10
  refine Z.oP 5 (fun R hR hE => (ih k (Nat.le_refl k)).f_b1 b S q2 _ R (b6.ext x10) ok2 f2 (by omega) (fun w14 q5 e5 f5 x11 => hE _ _ (And.intro rfl (hP _ q5 (by rw [run_succ]; simp only [stepN, compS, two, y3, e2, kbq2, h_c26, n_c26, Z.ifs, reduceIte, e5, idl f5]) f5 (gb_upd y7 x11)))) (fun w14 t3 A3 c3 q5 e5 f5 x11 b12 kv3 => hR _ _ ⟨(y6.upd1 x11), ?_⟩))
  have zw14 := x11.size
  have tb12 := b12.lt
  have kbq5 := (okB_iff q5).2 f5
  obtain ⟨ok5, ok5m, ok5x, ok5y⟩ : Tr S q2 q5 := run_facts ok2 e5
  refine Z.oR 6 (.cells #[Z.n t1.k, Z.n t1.a, .string t1.nm, .int .i64 t1.n, .slice A1 t1.ks.length c1, Z.n t3.k, Z.n t3.a, .string t3.nm, .int .i64 t3.n, .slice A3 t3.ks.length c3] 24) 2 2 (fun k5 w15 l5 x12 b13 => ⟨((y6.upd1 x11).ext x12), ?_⟩)
  have zw15 := x12.size
  have tb13 := b13.lt
  refine Z.h ((y6.upd1 x11).ext x12) (fun hS4 => ?_)
  refine Z.t 7 (.agg #[.int .i64 18, Z.n t1.a, .string Z.k8, .int .i64 0, .slice (some ⟨k5, 0, none⟩) 2 2]) hS4 ?_
  refine Z.oSa 8 #[.int .i64 18, Z.n t1.a, .string Z.k8, .int .i64 0, .slice (some ⟨k5, 0, none⟩) 2 2] ((((((((b1.upd1 x2).ext x3).upd1 u1).ext x4).upd1 x5).ext x10).upd1 x11).ext x12) (fun w16 u4 b14 => ⟨(((y6.upd1 x11).ext x12).upd1 u4), ?_⟩)
  have zw16 := u4.size
  refine Z.q ?_
  refine Z.x (wp_ret (Gx.block_ret (Gx.then_ret (Gx.block_ret (Gx.then_ret (Gx.then_ret (Gx.block_ret (Gx.then_ret (Gx.block_ret (Gx.then_ret (Gx.block_ret (Gx.scope_ret ?_))))))))))))
  refine Gx.ret (Gx.res_c (u := .agg #[.int .i64 18, Z.n t1.a, .string Z.k8, .int .i64 0, .slice (some ⟨k5, 0, none⟩) 2 2]) rfl (by kernel_rfl) b14 (by kernel_rfl)) ?_
  exact hK _ (Nd.mk 18 t1.a Z.k8 (0 : Int) [t1, t3]) (some (⟨k5, 0, none⟩ : Addr)) 2 q5 (by rw [run_succ]; simp only [stepN, compS, two, y3, e2, kbq2, e5, kbq5, h_c26, n_c26, Z.ifs, reduceIte]) f5 (gb_new (gb_ext (gb_upd y7 x11) x12) u4) ((b12.ext x12).upd1 u4) (KV.of_row [(t1, A1, c1), (t3, A3, c3)] (n := 10) (b13.upd1 u4) rfl ⟨by omega, by omega, (fun hj => by cases hj)⟩ (by intro p hp; simp only [List.mem_cons, List.not_mem_nil, or_false] at hp; rcases hp with rfl | rfl; exact (KV.top ((((((((kv1.ext x3).upd u1).ext x4).upd x5).ext x10).upd x11).ext x12).upd u4)); exact (KV.top ((kv3.ext x12).upd u4))))
theorem b1_p (k : Nat) (b : Nat) (S : ByteArray) (q : Rs) (w : World) (K : Ending → World → Prop) (ih : ∀ j, j ≤ k → SpecP j) (hb : Gx.Has w b (rdP S q)) (hok : Ok S q) (f0 : q.fk = 0) (hmu : 16 * M S q + 8 ≤ k + 1) (hP : (PQ w b K ((run S (k + 1) .cons q).2))) (hK : ∀ w' t A c q', run S (k + 1) .cons q = (t, q') → q'.fk = 0 → Gx.G w w' (some b) → Gx.Has w' b (rdP S q') → KV (In w.heap.size w'.heap.size []) w' t.ks A c → K (.returned (.agg (Z.T t A c))) w') :
    Calls Tryd.prog 92 #[Z.P b 0, .int .i64 1] w K := by
  refine Z.en 59 Tryd.func92 ?_
  have tbb := hb.lt
  have kbq := (okB_iff q).2 f0
  refine Z.r [0] ?_
  refine Z.N Z.c0 (fun k1 w1 l1 x1 b1 zw1 tb1 => ?_)
  refine Z.e (wp_scope_straight ?_)
  refine wp_seq (Z.sf [(9, .bool false), (8, .int .i64 1)] ?_)
  refine wp_skip (Z.x (Z.r [0, 1, 2, 3, 4, 5] ?_))
  refine Z.p [0, 1, 2] [3, 4, 5] [(14, .int .i64 2), (13, .int .i64 1), (12, Z.P b 0)] ?_
  have y1 := gb_ext (gb_refl w b) x1
  refine Z.kP (fun R hR hE => (ih k (Nat.le_refl k)).f_b2 b S q _ R (hb.ext x1) hok f0 (by omega) (fun w2 q1 e1 f1 x2 => hE _ _ (And.intro rfl (hP _ q1 (by rw [run_succ]; simp only [stepN, consS, two, kbq, Z.ifs, reduceIte, e1, idl f1]) f1 (gb_upd y1 x2)))) (fun w2 t1 A1 c1 q1 e1 f1 x2 b2 kv1 => hR _ _ ?_))
  have zw2 := x2.size
  have tb2 := b2.lt
  have kbq1 := (okB_iff q1).2 f1
  obtain ⟨ok1, ok1m, ok1x, ok1y⟩ : Tr S q q1 := run_facts hok e1
  refine Z.N Z.c0 (fun k2 w3 l2 x3 b3 zw3 tb3 => ?_)
  refine Z.Sa (Z.T t1 A1 c1) b3 (fun w4 u1 b4 zw4 => ?_)
  refine Z.e (wp_seq (wp_label ?_))
  refine Z.x (wp_block (wp_loop_rounds 1 ?_))
  refine Gx.rounds_step ?_
  refine wp_block (wp_seq (Z.r [0, 1, 2, 3] ?_))
  refine Z.p [0] [1, 2, 3] [(16, .int .i64 1)] ?_
  refine Z.k (fun R hR => signs_p1 _ R (fun w5 k3 x4 l3 b5 => hR _ _ ?_))
  have zw5 := x4.size
  have tb5 := b5.lt
  refine Z.p [2, 3] [] [(19, .int .i64 0), (18, .int .i64 1)] ?_
  refine Z.e (wp_block (wp_loop_rounds 2 ?_))
  refine Gx.rounds_step ?_
  refine Z.s [(20, .bool true)] ?_
  refine wp_seq (Z.ct ?_)
  refine wp_skip (Z.x (wp_seq (wp_block (Z.r [0, 1, 2] ?_))))
  refine Gx.cons (Gx.op_indexAddr (bk := k3) rfl (by kernel_rfl) rfl 9 1 (by kernel_rfl) (by kernel_rfl) 0 1 1 (by kernel_rfl) .i64 0 (by kernel_rfl) (by omega) ?_)
  refine Z.L 0 (.string Z.k9) b5 ?_
  refine Z.p [2] [] [(7, .string Z.k9)] ?_
  refine Z.e (wp_seq (Z.r [0, 1, 2, 3] ?_))
  refine Z.p [0, 1] [2, 3] [(24, .string Z.k9), (23, Z.P b 0)] ?_
  have y2 := gb_ext (gb_new (gb_ext (gb_upd y1 x2) x3) u1) x4
  have y3 := Z.a kbq (Z.a e1 kbq1)
  refine Z.kP (fun R hR hE => eat_p b S q1 Z.k9 _ R (((b2.ext x3).upd1 u1).ext x4) ok1 f1 (fun w6 q2 e2 f2 x5 => hE _ _ (And.intro rfl (hP _ q2 (by rw [run_succ]; simp only [stepN, consS, two, y3, Z.ifs, reduceIte, e2, has_pan e2 f2 f1, idl f2]) f2 (gb_upd y2 x5)))) (fun w6 q2 e2 f2 x5 b6 => hR _ _ ?_))
  have zw6 := x5.size
  have tb6 := b6.lt
  obtain ⟨ok2, ok2m, ok2x, ok2y⟩ : Tr S q1 q2 := e2 ▸ has_tr ok1
  have kbq2 := (okB_iff q2).2 f2
  refine Z.p [3] [] [(26, .bool (!(isB q1 Z.k9)))] ?_
  refine Z.e (Z.c (!(isB q1 Z.k9)) (fun h_c26 => ?_) (fun h_c26 => ?_))
  · skip
    refine wp_exit (Gx.then_exit (Gx.block_exit (Z.x (Z.u [(19, .int .i64 1), (57, .int .i64 1)] ?_))))
    refine Z.x (Gx.rounds_step ?_)
    refine Z.s [(20, .bool false)] ?_
    refine wp_seq (Z.cf ?_)
    refine wp_exit (Gx.then_exit (Gx.then_exit (Gx.block_exit (Z.x (Z.r [0, 1] ?_)))))
    have n_c26 : isB q1 Z.k9 = false := by simpa using h_c26
    refine Z.L 0 (.agg (Z.T t1 A1 c1)) ((b4.ext x4).upd1 x5) ?_
    refine Z.Sa (Z.T t1 A1 c1) (((((b1.upd1 x2).ext x3).upd1 u1).ext x4).upd1 x5) (fun w7 u2 b7 zw7 => ?_)
    refine Z.e (wp_ret (Gx.block_ret (Gx.then_ret (Gx.block_ret (Gx.scope_ret ?_)))))
    refine Gx.ret (Gx.res_c (u := .agg (Z.T t1 A1 c1)) rfl (by kernel_rfl) b7 (by kernel_rfl)) ?_
    exact hK _ t1 A1 c1 q2 (by rw [run_succ]; simp only [stepN, consS, two, y3, e2, kbq2, h_c26, n_c26, Z.ifs, reduceIte]) f2 (gb_new (gb_upd y2 x5) u2) (b6.upd1 u2) (KV.top (((((kv1.ext x3).upd u1).ext x4).upd x5).upd u2))
  refine wp_skip (Z.x (wp_seq (Z.s [(27, .int .i64 1)] ?_)))
  refine wp_block (Z.sf [(28, .bool false), (29, .bool false)] ?_)
  refine Z.st [(38, .bool true), (39, .bool true)] ?_
  refine wp_seq (Z.D (fun w' => Gx.Has w' k2 (.cells (Z.T t1 A1 c1) 24)) (fun w8 x6 zw8 => ?_))
  have n_c26 : isB q1 Z.k9 = true := by simpa using h_c26
  have lt1 := (Z.lt ok1 n_c26 e2)
  have y4 := ((b4.ext x4).upd1 x5).ext x6
  refine Z.h y4 (fun hS1 => ?_)
  refine Z.t 0 (Z.P k2 1) hS1 ?_
  refine Z.tl 1 1 (Z.n t1.a) (fun _ hs => hs) hS1 ?_
  refine Z.tl 2 0 (.agg (Z.T t1 A1 c1)) (fun _ hs => hs) hS1 ?_
  refine Z.t 3 (Z.P b 0) hS1 ?_
  have y5 := gb_ext (gb_upd y2 x5) x6
  refine Z.oP 4 (fun R hR hE => (ih k (Nat.le_refl k)).f_b1 b S q2 _ R (b6.ext x6) ok2 f2 (by omega) (fun w9 q3 e3 f3 x7 => hE _ _ (And.intro rfl (hP _ q3 (by rw [run_succ]; simp only [stepN, consS, two, y3, e2, kbq2, h_c26, n_c26, Z.ifs, reduceIte, e3, idl f3]) f3 (gb_upd y5 x7)))) (fun w9 t2 A2 c2 q3 e3 f3 x7 b8 kv2 => hR _ _ ⟨(y4.upd1 x7), ?_⟩))
  have zw9 := x7.size
  have tb8 := b8.lt
  have kbq3 := (okB_iff q3).2 f3
  obtain ⟨ok3, ok3m, ok3x, ok3y⟩ : Tr S q2 q3 := run_facts ok2 e3
  refine Z.oR 5 (.cells #[Z.n t1.k, Z.n t1.a, .string t1.nm, .int .i64 t1.n, .slice A1 t1.ks.length c1, Z.n t2.k, Z.n t2.a, .string t2.nm, .int .i64 t2.n, .slice A2 t2.ks.length c2] 24) 2 2 (fun k4 w10 l4 x8 b9 => ⟨((y4.upd1 x7).ext x8), ?_⟩)
  have zw10 := x8.size
  have tb9 := b9.lt
  refine Z.h ((y4.upd1 x7).ext x8) (fun hS2 => ?_)
  refine Z.t 6 (.agg #[.int .i64 16, Z.n t1.a, .string Z.E, .int .i64 0, .slice (some ⟨k4, 0, none⟩) 2 2]) hS2 ?_
  refine Z.oSa 7 #[.int .i64 16, Z.n t1.a, .string Z.E, .int .i64 0, .slice (some ⟨k4, 0, none⟩) 2 2] ((((((((b1.upd1 x2).ext x3).upd1 u1).ext x4).upd1 x5).ext x6).upd1 x7).ext x8) (fun w11 u3 b10 => ⟨(((y4.upd1 x7).ext x8).upd1 u3), ?_⟩)
  have zw11 := u3.size
  refine Z.q ?_
  refine Z.x (wp_ret (Gx.block_ret (Gx.then_ret (Gx.block_ret (Gx.then_ret (Gx.then_ret (Gx.block_ret (Gx.then_ret (Gx.block_ret (Gx.then_ret (Gx.block_ret (Gx.scope_ret ?_))))))))))))
  refine Gx.ret (Gx.res_c (u := .agg #[.int .i64 16, Z.n t1.a, .string Z.E, .int .i64 0, .slice (some ⟨k4, 0, none⟩) 2 2]) rfl (by kernel_rfl) b10 (by kernel_rfl)) ?_
  exact hK _ (Nd.mk 16 t1.a Z.E (0 : Int) [t1, t2]) (some (⟨k4, 0, none⟩ : Addr)) 2 q3 (by rw [run_succ]; simp only [stepN, consS, two, y3, e2, kbq2, e3, kbq3, h_c26, n_c26, Z.ifs, reduceIte]) f3 (gb_new (gb_ext (gb_upd y5 x7) x8) u3) ((b8.ext x8).upd1 u3) (KV.of_row [(t1, A1, c1), (t2, A2, c2)] (n := 10) (b9.upd1 u3) rfl ⟨by omega, by omega, (fun hj => by cases hj)⟩ (by intro p hp; simp only [List.mem_cons, List.not_mem_nil, or_false] at hp; rcases hp with rfl | rfl; exact (KV.top ((((((((kv1.ext x3).upd u1).ext x4).upd x5).ext x6).upd x7).ext x8).upd u3)); exact (KV.top ((kv2.ext x8).upd u3))))
theorem b2_p (k : Nat) (b : Nat) (S : ByteArray) (q : Rs) (w : World) (K : Ending → World → Prop) (ih : ∀ j, j ≤ k → SpecP j) (hb : Gx.Has w b (rdP S q)) (hok : Ok S q) (f0 : q.fk = 0) (hmu : 16 * M S q + 7 ≤ k + 1) (hP : (PQ w b K ((run S (k + 1) .sum q).2))) (hK : ∀ w' t A c q', run S (k + 1) .sum q = (t, q') → q'.fk = 0 → Gx.G w w' (some b) → Gx.Has w' b (rdP S q') → KV (In w.heap.size w'.heap.size []) w' t.ks A c → K (.returned (.agg (Z.T t A c))) w') :
    Calls Tryd.prog 92 #[Z.P b 0, .int .i64 2] w K := by
  refine Z.en 59 Tryd.func92 ?_
  have tbb := hb.lt
  have kbq := (okB_iff q).2 f0
  refine Z.r [0] ?_
  refine Z.N Z.c0 (fun k1 w1 l1 x1 b1 zw1 tb1 => ?_)
  refine Z.e (wp_scope_straight ?_)
  refine wp_seq (Z.sf [(9, .bool false), (8, .int .i64 2)] ?_)
  refine wp_skip (Z.x (Z.r [0, 1, 2, 3, 4, 5] ?_))
  refine Z.p [0, 1, 2] [3, 4, 5] [(14, .int .i64 3), (13, .int .i64 2), (12, Z.P b 0)] ?_
  have y1 := gb_ext (gb_refl w b) x1
  refine Z.kP (fun R hR hE => (ih k (Nat.le_refl k)).f_b3 b S q _ R (hb.ext x1) hok f0 (by omega) (fun w2 q1 e1 f1 x2 => hE _ _ (And.intro rfl (hP _ q1 (by rw [run_succ]; simp only [stepN, sumS, two, kbq, Z.ifs, reduceIte, e1, idl f1]) f1 (gb_upd y1 x2)))) (fun w2 t1 A1 c1 q1 e1 f1 x2 b2 kv1 => hR _ _ ?_))
  have zw2 := x2.size
  have tb2 := b2.lt
  have kbq1 := (okB_iff q1).2 f1
  obtain ⟨ok1, ok1m, ok1x, ok1y⟩ : Tr S q q1 := run_facts hok e1
  refine Z.N Z.c0 (fun k2 w3 l2 x3 b3 zw3 tb3 => ?_)
  refine Z.Sa (Z.T t1 A1 c1) b3 (fun w4 u1 b4 zw4 => ?_)
  refine Z.e (wp_seq (wp_label ?_))
  refine Z.x (wp_block (Gx.loop (n' := 59) (d' := []) (fun mz l' w' => ∃ (j : Nat) (p : Rs) (a : Nd) (A : Option Addr) (c : Nat), l' = [(0, Z.P b 0), (1, .int .i64 2), (4, Z.P k1 0), (5, Z.P k2 0)] ∧ mz = M S p ∧ Gx.G w w' (some b) ∧ Gx.Has w' b (.cells #[.string S, Z.n p.k, Z.n p.a, .string p.t, Z.n p.n, Z.n p.e, Z.n p.x, Z.n p.y] 54) ∧ Gx.Has w' k1 Z.c0 ∧ Gx.Has w' k2 (.cells (Z.T a A c) 24) ∧ (j ≤ k) ∧ (16 * M S p + 6 ≤ j) ∧ (run S j (.sumL a) p = run S k (.sumL t1) q1) ∧ (Ok S p) ∧ (KV (In w.heap.size w'.heap.size [k1, k2]) w' a.ks A c) ∧ (p.fk = 0) ∧ (p.x = q1.x ∧ p.y = q1.y)) _ _ [(0, Z.P b 0), (1, .int .i64 2), (4, Z.P k1 0), (5, Z.P k2 0)] (Gx.forget [(0, Z.P b 0), (1, .int .i64 2), (4, Z.P k1 0), (5, Z.P k2 0)] (by kernel_rfl)) ⟨k, q1, t1, A1, c1, rfl, rfl, (gb_new (gb_ext (gb_upd y1 x2) x3) u1), ((b2.ext x3).upd1 u1), (((b1.upd1 x2).ext x3).upd1 u1), b4, (Nat.le_refl _), (by omega), rfl, ok1, (KV.top ((kv1.ext x3).upd u1)), f1, ⟨rfl, rfl⟩⟩ (fun bb1 m1 ll1 w5 hI1 K1 hK1 => ?_)))
  obtain ⟨j, p, a, A, c, rfl, rfl, x4, b5, b6, b7, hj, hm, hr, ho, hkv, hf, hxy⟩ := hI1
  have zw5 := x4.size
  have tb5 := b5.lt
  have tb6 := b6.lt
  have tb7 := b7.lt
  obtain ⟨i, rfl⟩ : ∃ i, j = i + 1 := ⟨j - 1, by omega⟩
  have kbp := (okB_iff p).2 hf
  refine wp_block (wp_seq (Z.r [0, 1, 2, 3] ?_))
  refine Z.p [0] [1, 2, 3] [(16, .int .i64 2)] ?_
  refine Z.k (fun R hR => signs_p2 _ R (fun w6 k3 x5 l3 b8 => hR _ _ ?_))
  have zw6 := x5.size
  have tb8 := b8.lt
  refine Z.p [2, 3] [] [(19, .int .i64 0), (18, .int .i64 2)] ?_
  refine Z.e (wp_block (wp_loop_rounds 3 ?_))
  refine Gx.rounds_step ?_
  refine Z.s [(20, .bool true)] ?_
  refine wp_seq (Z.ct ?_)
  refine wp_skip (Z.x (wp_seq (wp_block (Z.r [0, 1, 2] ?_))))
  refine Gx.cons (Gx.op_indexAddr (bk := k3) rfl (by kernel_rfl) rfl 9 1 (by kernel_rfl) (by kernel_rfl) 0 2 2 (by kernel_rfl) .i64 0 (by kernel_rfl) (by omega) ?_)
  refine Z.L 0 (.string Z.k10) b8 ?_
  refine Z.p [2] [] [(7, .string Z.k10)] ?_
  refine Z.e (wp_seq (Z.r [0, 1, 2, 3] ?_))
  refine Z.p [0, 1] [2, 3] [(24, .string Z.k10), (23, Z.P b 0)] ?_
  have y2 := gb_ext (gb_upd (gb_refl w b) x4) x5
  have y3 := Z.a kbq (Z.a e1 kbq1)
  refine Z.kP (fun R hR hE => eat_p b S p Z.k10 _ R (b5.ext x5) ho hf (fun w7 q2 e2 f2 x6 => hE _ _ (And.intro rfl (hP _ q2 (by have zl : (run S k (.sumL t1) q1).2 = q2 := (by rw [← hr, run_succ]; simp only [run_succ, stepN, sumLS, two, kbp, Z.ifs, reduceIte, e2, has_pan e2 f2 hf, idl f2]); rw [run_succ]; simp only [stepN, sumS, two, y3, Z.ifs, reduceIte, zl, idl f2]) f2 (gb_upd y2 x6)))) (fun w7 q2 e2 f2 x6 b9 => hR _ _ ?_))
  have zw7 := x6.size
  have tb9 := b9.lt
  obtain ⟨ok2, ok2m, ok2x, ok2y⟩ : Tr S p q2 := e2 ▸ has_tr ho
  have kbq2 := (okB_iff q2).2 f2
  refine Z.p [3] [] [(26, .bool (!(isB p Z.k10)))] ?_
  refine Z.e (Z.c (!(isB p Z.k10)) (fun h_c26 => ?_) (fun h_c26 => ?_))
  · skip
    refine wp_exit (Gx.then_exit (Gx.block_exit (Z.x (Z.u [(19, .int .i64 1), (57, .int .i64 1)] ?_))))
    refine Z.x (Gx.rounds_step ?_)
    refine Z.s [(20, .bool true)] ?_
    refine wp_seq (Z.ct ?_)
    refine wp_skip (Z.x (wp_seq (wp_block (Z.r [0, 1, 2] ?_))))
    have n_c26 : isB p Z.k10 = false := by simpa using h_c26
    refine Gx.cons (Gx.op_indexAddr (bk := k3) rfl (by kernel_rfl) rfl 9 1 (by kernel_rfl) (by kernel_rfl) 0 2 2 (by kernel_rfl) .i64 1 (by kernel_rfl) (by omega) ?_)
    refine Z.L 1 (.string Z.k5) (b8.upd1 x6) ?_
    refine Z.p [2] [] [(7, .string Z.k5)] ?_
    refine Z.e (wp_seq (Z.r [0, 1, 2, 3] ?_))
    refine Z.p [0, 1] [2, 3] [(24, .string Z.k5), (23, Z.P b 0)] ?_
    have y4 := Z.a kbp (Z.a e2 kbq2)
    refine Z.kP (fun R hR hE => eat_p b S q2 Z.k5 _ R b9 ok2 f2 (fun w8 q3 e3 f3 x7 => hE _ _ (And.intro rfl (hP _ q3 (by have zl : (run S k (.sumL t1) q1).2 = q3 := (by rw [← hr, run_succ]; simp only [run_succ, stepN, sumLS, two, y4, h_c26, n_c26, Z.ifs, reduceIte, e3, has_pan e3 f3 f2, idl f3]); rw [run_succ]; simp only [stepN, sumS, two, y3, h_c26, n_c26, Z.ifs, reduceIte, zl, idl f3]) f3 (gb_upd (gb_upd y2 x6) x7)))) (fun w8 q3 e3 f3 x7 b10 => hR _ _ ?_))
    have zw8 := x7.size
    have tb10 := b10.lt
    obtain ⟨ok3, ok3m, ok3x, ok3y⟩ : Tr S q2 q3 := e3 ▸ has_tr ok2
    have kbq3 := (okB_iff q3).2 f3
    refine Z.p [3] [] [(26, .bool (!(isB q2 Z.k5)))] ?_
    refine Z.e (Z.c (!(isB q2 Z.k5)) (fun h_c26_1 => ?_) (fun h_c26_1 => ?_))
    · skip
      refine wp_exit (Gx.then_exit (Gx.block_exit (Z.x (Z.u [(19, .int .i64 2), (57, .int .i64 2)] ?_))))
      refine Z.x (Gx.rounds_step ?_)
      refine Z.s [(20, .bool false)] ?_
      refine wp_seq (Z.cf ?_)
      refine wp_exit (Gx.then_exit (Gx.then_exit (Gx.block_exit (Z.x ?_))))
      have n_c26_1 : isB q2 Z.k5 = false := by simpa using h_c26_1
      have e4 : run S k (.sumL t1) q1 = (a, q3) := by rw [← hr, run_succ]; simp only [stepN, sumLS, two, y4, e3, kbq3, h_c26, h_c26_1, n_c26, n_c26_1, Z.ifs, reduceIte]
      refine Z.r [0, 1] ?_
      refine Z.L 0 (.agg (Z.T a A c)) (((b7.ext x5).upd1 x6).upd1 x7) ?_
      refine Z.Sa (Z.T a A c) (((b6.ext x5).upd1 x6).upd1 x7) (fun w9 u2 b11 zw9 => ?_)
      refine Z.e (wp_ret (Gx.block_ret (Gx.then_ret (Gx.block_ret (Gx.scope_ret ?_)))))
      refine Gx.ret (Gx.res_c (u := .agg (Z.T a A c)) rfl (by kernel_rfl) b11 (by kernel_rfl)) ?_
      exact hK _ a A c q3 (by rw [run_succ]; simp only [stepN, sumS, two, y3, e4, h_c26, h_c26_1, n_c26, n_c26_1, Z.ifs, reduceIte]) f3 (gb_new (gb_upd (gb_upd y2 x6) x7) u2) (b10.upd1 u2) (KV.top ((((hkv.ext x5).upd x6).upd x7).upd u2))
    refine wp_skip (Z.x (wp_seq (Z.s [(27, .int .i64 2)] ?_)))
    refine wp_block (Z.sf [(28, .bool false), (29, .bool false)] ?_)
    refine Z.sf [(38, .bool false), (39, .bool false)] ?_
    refine wp_skip (Gx.block_normal (Z.x ?_))
    have n_c26_1 : isB q2 Z.k5 = true := by simpa using h_c26_1
    have lt1 := (Z.lt ok2 n_c26_1 e3)
    have hqx := has_not e2 n_c26; have htx : p.t = Z.k5 := by rw [← hqx]; exact (isB_ok n_c26_1).2.2
    refine wp_seq (Gx.drawE (S := fun w' => Gx.Has w' k2 (.cells (Z.T a A c) 24)) [10] (by kernel_rfl) (fun w10 x8 => ?_))
    have zw10 := x8.size
    have y5 := (((b7.ext x5).upd1 x6).upd1 x7).ext x8
    refine Z.eh y5 (fun hS1 => ?_)
    refine Z.et 0 (Z.P k2 1) (fun _ => hS1) ?_
    refine Z.es 1 [9, 10] 1 (Z.n a.a) (fun _ hs => hs) hS1 ?_
    refine Z.et 2 (.string Z.k5) (fun _ => hS1) ?_
    refine Z.es 3 [8, 9, 10] 0 (.agg (Z.T a A c)) (fun _ hs => hs) hS1 ?_
    refine Z.et 4 (Z.P b 0) (fun _ => hS1) ?_
    refine Z.et 5 (.int .i64 2) (fun _ => hS1) ?_
    refine Z.et 6 (.int .i64 3) (fun _ => hS1) ?_
    have y6 := gb_ext (gb_upd (gb_upd y2 x6) x7) x8
    refine Z.eP 7 (fun R hR hE => (ih i (by omega)).f_b3 b S q3 _ R (b10.ext x8) ok3 f3 (by omega) (fun w11 q4 e5 f4 x9 => hE _ _ (And.intro rfl (hP _ q4 (by have zl : (run S k (.sumL t1) q1).2 = q4 := (by rw [← hr, run_succ]; simp only [run_succ, stepN, sumLS, two, y4, e3, kbq3, htx, h_c26, h_c26_1, n_c26, n_c26_1, Z.ifs, reduceIte, e5, idl f4]); rw [run_succ]; simp only [stepN, sumS, two, y3, h_c26, h_c26_1, n_c26, n_c26_1, Z.ifs, reduceIte, zl, idl f4]) f4 (gb_upd y6 x9)))) (fun w11 t2 A2 c2 q4 e5 f4 x9 b12 kv2 => hR _ _ ⟨(fun _ => (y5.upd1 x9)), ?_⟩))
    have zw11 := x9.size
    have tb12 := b12.lt
    have kbq4 := (okB_iff q4).2 f4
    obtain ⟨ok4, ok4m, ok4x, ok4y⟩ : Tr S q3 q4 := run_facts ok3 e5
    refine Z.eR 8 (.cells #[Z.n a.k, Z.n a.a, .string a.nm, .int .i64 a.n, .slice A a.ks.length c, Z.n t2.k, Z.n t2.a, .string t2.nm, .int .i64 t2.n, .slice A2 t2.ks.length c2] 24) 2 2 (fun k4 w12 l4 x10 b13 => ⟨(fun _ => ((y5.upd1 x9).ext x10)), ?_⟩)
    have zw12 := x10.size
    have tb13 := b13.lt
    refine Z.eh ((y5.upd1 x9).ext x10) (fun hS2 => ?_)
    refine Z.et 9 (.agg #[.int .i64 18, Z.n a.a, .string Z.k5, .int .i64 0, .slice (some ⟨k4, 0, none⟩) 2 2]) (fun _ => hS2) ?_
    refine Z.eSa 10 #[.int .i64 18, Z.n a.a, .string Z.k5, .int .i64 0, .slice (some ⟨k4, 0, none⟩) 2 2] ((y5.upd1 x9).ext x10) (fun w13 u3 b14 => ⟨(Gx.not_clear (by kernel_rfl)), ?_⟩)
    have zw13 := u3.size
    refine Gx.anyE_done (by kernel_rfl) ?_ _
    refine Z.x (wp_exit (Gx.block_other (by kernel_rfl) ?_))
    refine Gx.then_exit (Gx.then_exit (Gx.block_other (by kernel_rfl) ?_))
    refine Gx.then_exit (Gx.block_exit (Z.x ?_))
    rw [Gx.forget [(0, Z.P b 0), (1, .int .i64 2), (4, Z.P k1 0), (5, Z.P k2 0)] (by kernel_rfl)]
    exact hK1 _ _ _ _ (by omega) ⟨i, q4, (Nd.mk 18 a.a Z.k5 (0 : Int) [a, t2]), (some (⟨k4, 0, none⟩ : Addr)), 2, rfl, rfl, (gb_new (gb_ext (gb_upd y6 x9) x10) u3), ((b12.ext x10).upd1 u3), (((((((b6.ext x5).upd1 x6).upd1 x7).ext x8).upd1 x9).ext x10).upd1 u3), b14, (by omega), (by omega), (by rw [← hr, run_succ]; simp only [stepN, sumLS, two, y4, e3, kbq3, htx, e5, kbq4, h_c26, h_c26_1, n_c26, n_c26_1, Z.ifs, reduceIte]), ok4, (KV.of_row [(a, A, c), (t2, A2, c2)] (n := 10) (b13.upd1 u3) rfl ⟨by omega, by omega, (by simp only [List.mem_cons, List.not_mem_nil, or_false, not_or]; omega)⟩ (by intro p hp; simp only [List.mem_cons, List.not_mem_nil, or_false] at hp; rcases hp with rfl | rfl; exact (KV.top (((((((hkv.ext x5).upd x6).upd x7).ext x8).upd x9).ext x10).upd u3)); exact (KV.top ((kv2.ext x10).upd u3)))), f4, ⟨by omega, by omega⟩⟩
  refine wp_skip (Z.x (wp_seq (Z.s [(27, .int .i64 2)] ?_)))
  refine wp_block (Z.sf [(28, .bool false), (29, .bool false)] ?_)
  refine Z.sf [(38, .bool false), (39, .bool false)] ?_
  refine wp_skip (Gx.block_normal (Z.x ?_))
  have n_c26 : isB p Z.k10 = true := by simpa using h_c26
  have lt2 := (Z.lt ho n_c26 e2)
  have htx : p.t = Z.k10 := (isB_ok n_c26).2.2
  refine wp_seq (Gx.drawE (S := fun w' => Gx.Has w' k2 (.cells (Z.T a A c) 24)) [10] (by kernel_rfl) (fun w14 x11 => ?_))
  have zw14 := x11.size
  have y7 := ((b7.ext x5).upd1 x6).ext x11
  refine Z.eh y7 (fun hS3 => ?_)
  refine Z.et 0 (Z.P k2 1) (fun _ => hS3) ?_
  refine Z.es 1 [9, 10] 1 (Z.n a.a) (fun _ hs => hs) hS3 ?_
  refine Z.et 2 (.string Z.k10) (fun _ => hS3) ?_
  refine Z.es 3 [8, 9, 10] 0 (.agg (Z.T a A c)) (fun _ hs => hs) hS3 ?_
  refine Z.et 4 (Z.P b 0) (fun _ => hS3) ?_
  refine Z.et 5 (.int .i64 2) (fun _ => hS3) ?_
  refine Z.et 6 (.int .i64 3) (fun _ => hS3) ?_
  have y8 := gb_ext (gb_upd y2 x6) x11
  refine Z.eP 7 (fun R hR hE => (ih i (by omega)).f_b3 b S q2 _ R (b9.ext x11) ok2 f2 (by omega) (fun w15 q5 e6 f5 x12 => hE _ _ (And.intro rfl (hP _ q5 (by have zl : (run S k (.sumL t1) q1).2 = q5 := (by rw [← hr, run_succ]; simp only [run_succ, stepN, sumLS, two, kbp, e2, kbq2, htx, h_c26, n_c26, Z.ifs, reduceIte, e6, idl f5]); rw [run_succ]; simp only [stepN, sumS, two, y3, h_c26, n_c26, Z.ifs, reduceIte, zl, idl f5]) f5 (gb_upd y8 x12)))) (fun w15 t3 A3 c3 q5 e6 f5 x12 b15 kv3 => hR _ _ ⟨(fun _ => (y7.upd1 x12)), ?_⟩))
  have zw15 := x12.size
  have tb15 := b15.lt
  have kbq5 := (okB_iff q5).2 f5
  obtain ⟨ok5, ok5m, ok5x, ok5y⟩ : Tr S q2 q5 := run_facts ok2 e6
  refine Z.eR 8 (.cells #[Z.n a.k, Z.n a.a, .string a.nm, .int .i64 a.n, .slice A a.ks.length c, Z.n t3.k, Z.n t3.a, .string t3.nm, .int .i64 t3.n, .slice A3 t3.ks.length c3] 24) 2 2 (fun k5 w16 l5 x13 b16 => ⟨(fun _ => ((y7.upd1 x12).ext x13)), ?_⟩)
  have zw16 := x13.size
  have tb16 := b16.lt
  refine Z.eh ((y7.upd1 x12).ext x13) (fun hS4 => ?_)
  refine Z.et 9 (.agg #[.int .i64 18, Z.n a.a, .string Z.k10, .int .i64 0, .slice (some ⟨k5, 0, none⟩) 2 2]) (fun _ => hS4) ?_
  refine Z.eSa 10 #[.int .i64 18, Z.n a.a, .string Z.k10, .int .i64 0, .slice (some ⟨k5, 0, none⟩) 2 2] ((y7.upd1 x12).ext x13) (fun w17 u4 b17 => ⟨(Gx.not_clear (by kernel_rfl)), ?_⟩)
  have zw17 := u4.size
  refine Gx.anyE_done (by kernel_rfl) ?_ _
  refine Z.x (wp_exit (Gx.block_other (by kernel_rfl) ?_))
  refine Gx.then_exit (Gx.then_exit (Gx.block_other (by kernel_rfl) ?_))
  refine Gx.then_exit (Gx.block_exit (Z.x ?_))
  rw [Gx.forget [(0, Z.P b 0), (1, .int .i64 2), (4, Z.P k1 0), (5, Z.P k2 0)] (by kernel_rfl)]
  exact hK1 _ _ _ _ (by omega) ⟨i, q5, (Nd.mk 18 a.a Z.k10 (0 : Int) [a, t3]), (some (⟨k5, 0, none⟩ : Addr)), 2, rfl, rfl, (gb_new (gb_ext (gb_upd y8 x12) x13) u4), ((b15.ext x13).upd1 u4), ((((((b6.ext x5).upd1 x6).ext x11).upd1 x12).ext x13).upd1 u4), b17, (by omega), (by omega), (by rw [← hr, run_succ]; simp only [stepN, sumLS, two, kbp, e2, kbq2, htx, e6, kbq5, h_c26, n_c26, Z.ifs, reduceIte]), ok5, (KV.of_row [(a, A, c), (t3, A3, c3)] (n := 10) (b16.upd1 u4) rfl ⟨by omega, by omega, (by simp only [List.mem_cons, List.not_mem_nil, or_false, not_or]; omega)⟩ (by intro p hp; simp only [List.mem_cons, List.not_mem_nil, or_false] at hp; rcases hp with rfl | rfl; exact (KV.top ((((((hkv.ext x5).upd x6).ext x11).upd x12).ext x13).upd u4)); exact (KV.top ((kv3.ext x13).upd u4)))), f5, ⟨by omega, by omega⟩⟩
theorem b3_p (k : Nat) (b : Nat) (S : ByteArray) (q : Rs) (w : World) (K : Ending → World → Prop) (ih : ∀ j, j ≤ k → SpecP j) (hb : Gx.Has w b (rdP S q)) (hok : Ok S q) (f0 : q.fk = 0) (hmu : 16 * M S q + 6 ≤ k + 1) (hP : (PQ w b K ((run S (k + 1) .mul q).2))) (hK : ∀ w' t A c q', run S (k + 1) .mul q = (t, q') → q'.fk = 0 → Gx.G w w' (some b) → Gx.Has w' b (rdP S q') → KV (In w.heap.size w'.heap.size []) w' t.ks A c → K (.returned (.agg (Z.T t A c))) w') :
    Calls Tryd.prog 92 #[Z.P b 0, .int .i64 3] w K := by
  refine Z.en 59 Tryd.func92 ?_
  have tbb := hb.lt
  have kbq := (okB_iff q).2 f0
  refine Z.r [0] ?_
  refine Z.N Z.c0 (fun k1 w1 l1 x1 b1 zw1 tb1 => ?_)
  refine Z.e (wp_scope_straight ?_)
  refine wp_seq (Z.sf [(9, .bool false), (8, .int .i64 3)] ?_)
  refine wp_skip (Z.x (Z.r [0, 1, 2, 3, 4, 5] ?_))
  refine Z.p [0, 1, 2] [3, 4, 5] [(14, .int .i64 4), (13, .int .i64 3), (12, Z.P b 0)] ?_
  have y1 := gb_ext (gb_refl w b) x1
  refine Z.kP (fun R hR hE => (ih k (Nat.le_refl k)).f_b4 b S q _ R (hb.ext x1) hok f0 (by omega) (fun w2 q1 e1 f1 x2 => hE _ _ (And.intro rfl (hP _ q1 (by rw [run_succ]; simp only [stepN, mulS, two, kbq, Z.ifs, reduceIte, e1, idl f1]) f1 (gb_upd y1 x2)))) (fun w2 t1 A1 c1 q1 e1 f1 x2 b2 kv1 => hR _ _ ?_))
  have zw2 := x2.size
  have tb2 := b2.lt
  have kbq1 := (okB_iff q1).2 f1
  obtain ⟨ok1, ok1m, ok1x, ok1y⟩ : Tr S q q1 := run_facts hok e1
  refine Z.N Z.c0 (fun k2 w3 l2 x3 b3 zw3 tb3 => ?_)
  refine Z.Sa (Z.T t1 A1 c1) b3 (fun w4 u1 b4 zw4 => ?_)
  refine Z.e (wp_seq (wp_label ?_))
  refine Z.x (wp_block (Gx.loop (n' := 59) (d' := []) (fun mz l' w' => ∃ (j : Nat) (p : Rs) (a : Nd) (A : Option Addr) (c : Nat), l' = [(0, Z.P b 0), (1, .int .i64 3), (4, Z.P k1 0), (5, Z.P k2 0)] ∧ mz = M S p ∧ Gx.G w w' (some b) ∧ Gx.Has w' b (.cells #[.string S, Z.n p.k, Z.n p.a, .string p.t, Z.n p.n, Z.n p.e, Z.n p.x, Z.n p.y] 54) ∧ Gx.Has w' k1 Z.c0 ∧ Gx.Has w' k2 (.cells (Z.T a A c) 24) ∧ (j ≤ k) ∧ (16 * M S p + 5 ≤ j) ∧ (run S j (.mulL a) p = run S k (.mulL t1) q1) ∧ (Ok S p) ∧ (KV (In w.heap.size w'.heap.size [k1, k2]) w' a.ks A c) ∧ (p.fk = 0) ∧ (p.x = q1.x ∧ p.y = q1.y)) _ _ [(0, Z.P b 0), (1, .int .i64 3), (4, Z.P k1 0), (5, Z.P k2 0)] (Gx.forget [(0, Z.P b 0), (1, .int .i64 3), (4, Z.P k1 0), (5, Z.P k2 0)] (by kernel_rfl)) ⟨k, q1, t1, A1, c1, rfl, rfl, (gb_new (gb_ext (gb_upd y1 x2) x3) u1), ((b2.ext x3).upd1 u1), (((b1.upd1 x2).ext x3).upd1 u1), b4, (Nat.le_refl _), (by omega), rfl, ok1, (KV.top ((kv1.ext x3).upd u1)), f1, ⟨rfl, rfl⟩⟩ (fun bb1 m1 ll1 w5 hI1 K1 hK1 => ?_)))
  obtain ⟨j, p, a, A, c, rfl, rfl, x4, b5, b6, b7, hj, hm, hr, ho, hkv, hf, hxy⟩ := hI1
  have zw5 := x4.size
  have tb5 := b5.lt
  have tb6 := b6.lt
  have tb7 := b7.lt
  obtain ⟨i, rfl⟩ : ∃ i, j = i + 1 := ⟨j - 1, by omega⟩
  have kbp := (okB_iff p).2 hf
  refine wp_block (wp_seq (Z.r [0, 1, 2, 3] ?_))
  refine Z.p [0] [1, 2, 3] [(16, .int .i64 3)] ?_
  refine Z.k (fun R hR => signs_p3 _ R (fun w6 k3 x5 l3 b8 => hR _ _ ?_))
  have zw6 := x5.size
  have tb8 := b8.lt
  refine Z.p [2, 3] [] [(19, .int .i64 0), (18, .int .i64 1)] ?_
  refine Z.e (wp_block (wp_loop_rounds 2 ?_))
  refine Gx.rounds_step ?_
  refine Z.s [(20, .bool true)] ?_
  refine wp_seq (Z.ct ?_)
  refine wp_skip (Z.x (wp_seq (wp_block (Z.r [0, 1, 2] ?_))))
  refine Gx.cons (Gx.op_indexAddr (bk := k3) rfl (by kernel_rfl) rfl 9 1 (by kernel_rfl) (by kernel_rfl) 0 1 1 (by kernel_rfl) .i64 0 (by kernel_rfl) (by omega) ?_)
  refine Z.L 0 (.string Z.k6) b8 ?_
  refine Z.p [2] [] [(7, .string Z.k6)] ?_
  refine Z.e (wp_seq (Z.r [0, 1, 2, 3] ?_))
  refine Z.p [0, 1] [2, 3] [(24, .string Z.k6), (23, Z.P b 0)] ?_
  have y2 := gb_ext (gb_upd (gb_refl w b) x4) x5
  refine Z.kP (fun R hR hE => eat_p b S p Z.k6 _ R (b5.ext x5) ho hf (fun w7 q2 e2 f2 x6 => hE _ _ (And.intro rfl (hP _ q2 (by have zl : (run S k (.mulL t1) q1).2 = q2 := (by rw [← hr, run_succ]; simp only [run_succ, stepN, mulLS, two, kbp, Z.ifs, reduceIte, e2, has_pan e2 f2 hf, idl f2]); rw [run_succ]; simp only [stepN, mulS, two, kbq, e1, kbq1, Z.ifs, reduceIte, zl, idl f2]) f2 (gb_upd y2 x6)))) (fun w7 q2 e2 f2 x6 b9 => hR _ _ ?_))
  have zw7 := x6.size
  have tb9 := b9.lt
  obtain ⟨ok2, ok2m, ok2x, ok2y⟩ : Tr S p q2 := e2 ▸ has_tr ho
  have kbq2 := (okB_iff q2).2 f2
  refine Z.p [3] [] [(26, .bool (!(isB p Z.k6)))] ?_
  refine Z.e (Z.c (!(isB p Z.k6)) (fun h_c26 => ?_) (fun h_c26 => ?_))
  · skip
    refine wp_exit (Gx.then_exit (Gx.block_exit (Z.x (Z.u [(19, .int .i64 1), (57, .int .i64 1)] ?_))))
    refine Z.x (Gx.rounds_step ?_)
    refine Z.s [(20, .bool false)] ?_
    refine wp_seq (Z.cf ?_)
    refine wp_exit (Gx.then_exit (Gx.then_exit (Gx.block_exit (Z.x ?_))))
    have n_c26 : isB p Z.k6 = false := by simpa using h_c26
    have e3 : run S k (.mulL t1) q1 = (a, q2) := by rw [← hr, run_succ]; simp only [stepN, mulLS, two, kbp, e2, kbq2, h_c26, n_c26, Z.ifs, reduceIte]
    refine Z.r [0, 1] ?_
    refine Z.L 0 (.agg (Z.T a A c)) ((b7.ext x5).upd1 x6) ?_
    refine Z.Sa (Z.T a A c) ((b6.ext x5).upd1 x6) (fun w8 u2 b10 zw8 => ?_)
    refine Z.e (wp_ret (Gx.block_ret (Gx.then_ret (Gx.block_ret (Gx.scope_ret ?_)))))
    refine Gx.ret (Gx.res_c (u := .agg (Z.T a A c)) rfl (by kernel_rfl) b10 (by kernel_rfl)) ?_
    exact hK _ a A c q2 (by rw [run_succ]; simp only [stepN, mulS, two, kbq, e1, kbq1, e3, h_c26, n_c26, Z.ifs, reduceIte]) f2 (gb_new (gb_upd y2 x6) u2) (b9.upd1 u2) (KV.top (((hkv.ext x5).upd x6).upd u2))
  refine wp_skip (Z.x (wp_seq (Z.s [(27, .int .i64 3)] ?_)))
  refine wp_block (Z.sf [(28, .bool false), (29, .bool false)] ?_)
  refine Z.sf [(38, .bool false), (39, .bool false)] ?_
  refine wp_skip (Gx.block_normal (Z.x (wp_seq (Gx.drawE (S := fun w' => Gx.Has w' k2 (.cells (Z.T a A c) 24)) [10] (by kernel_rfl) (fun w9 x7 => ?_)))))
  have zw9 := x7.size
  have n_c26 : isB p Z.k6 = true := by simpa using h_c26
  have lt1 := (Z.lt ho n_c26 e2)
  have y3 := ((b7.ext x5).upd1 x6).ext x7
  refine Z.eh y3 (fun hS1 => ?_)
  refine Z.et 0 (Z.P k2 1) (fun _ => hS1) ?_
  refine Z.es 1 [9, 10] 1 (Z.n a.a) (fun _ hs => hs) hS1 ?_
  refine Z.et 2 (.string Z.k6) (fun _ => hS1) ?_
  refine Z.es 3 [8, 9, 10] 0 (.agg (Z.T a A c)) (fun _ hs => hs) hS1 ?_
  refine Z.et 4 (Z.P b 0) (fun _ => hS1) ?_
  refine Z.et 5 (.int .i64 3) (fun _ => hS1) ?_
  refine Z.et 6 (.int .i64 4) (fun _ => hS1) ?_
  have y4 := gb_ext (gb_upd y2 x6) x7
  refine Z.eP 7 (fun R hR hE => (ih i (by omega)).f_b4 b S q2 _ R (b9.ext x7) ok2 f2 (by omega) (fun w10 q3 e4 f3 x8 => hE _ _ (And.intro rfl (hP _ q3 (by have zl : (run S k (.mulL t1) q1).2 = q3 := (by rw [← hr, run_succ]; simp only [run_succ, stepN, mulLS, two, kbp, e2, kbq2, h_c26, n_c26, Z.ifs, reduceIte, e4, idl f3]); rw [run_succ]; simp only [stepN, mulS, two, kbq, e1, kbq1, h_c26, n_c26, Z.ifs, reduceIte, zl, idl f3]) f3 (gb_upd y4 x8)))) (fun w10 t2 A2 c2 q3 e4 f3 x8 b11 kv2 => hR _ _ ⟨(fun _ => (y3.upd1 x8)), ?_⟩))
  have zw10 := x8.size
  have tb11 := b11.lt
  have kbq3 := (okB_iff q3).2 f3
  obtain ⟨ok3, ok3m, ok3x, ok3y⟩ : Tr S q2 q3 := run_facts ok2 e4
  refine Z.eR 8 (.cells #[Z.n a.k, Z.n a.a, .string a.nm, .int .i64 a.n, .slice A a.ks.length c, Z.n t2.k, Z.n t2.a, .string t2.nm, .int .i64 t2.n, .slice A2 t2.ks.length c2] 24) 2 2 (fun k4 w11 l4 x9 b12 => ⟨(fun _ => ((y3.upd1 x8).ext x9)), ?_⟩)
  have zw11 := x9.size
  have tb12 := b12.lt
  refine Z.eh ((y3.upd1 x8).ext x9) (fun hS2 => ?_)
  refine Z.et 9 (.agg #[.int .i64 18, Z.n a.a, .string Z.k6, .int .i64 0, .slice (some ⟨k4, 0, none⟩) 2 2]) (fun _ => hS2) ?_
  refine Z.eSa 10 #[.int .i64 18, Z.n a.a, .string Z.k6, .int .i64 0, .slice (some ⟨k4, 0, none⟩) 2 2] ((y3.upd1 x8).ext x9) (fun w12 u3 b13 => ⟨(Gx.not_clear (by kernel_rfl)), ?_⟩)
  have zw12 := u3.size
  refine Gx.anyE_done (by kernel_rfl) ?_ _
  refine Z.x (wp_exit (Gx.block_other (by kernel_rfl) ?_))
  refine Gx.then_exit (Gx.then_exit (Gx.block_other (by kernel_rfl) ?_))
  refine Gx.then_exit (Gx.block_exit (Z.x ?_))
  rw [Gx.forget [(0, Z.P b 0), (1, .int .i64 3), (4, Z.P k1 0), (5, Z.P k2 0)] (by kernel_rfl)]
  exact hK1 _ _ _ _ (by omega) ⟨i, q3, (Nd.mk 18 a.a Z.k6 (0 : Int) [a, t2]), (some (⟨k4, 0, none⟩ : Addr)), 2, rfl, rfl, (gb_new (gb_ext (gb_upd y4 x8) x9) u3), ((b11.ext x9).upd1 u3), ((((((b6.ext x5).upd1 x6).ext x7).upd1 x8).ext x9).upd1 u3), b13, (by omega), (by omega), (by rw [← hr, run_succ]; simp only [stepN, mulLS, two, kbp, e2, kbq2, e4, kbq3, h_c26, n_c26, Z.ifs, reduceIte]), ok3, (KV.of_row [(a, A, c), (t2, A2, c2)] (n := 10) (b12.upd1 u3) rfl ⟨by omega, by omega, (by simp only [List.mem_cons, List.not_mem_nil, or_false, not_or]; omega)⟩ (by intro p hp; simp only [List.mem_cons, List.not_mem_nil, or_false] at hp; rcases hp with rfl | rfl; exact (KV.top ((((((hkv.ext x5).upd x6).ext x7).upd x8).ext x9).upd u3)); exact (KV.top ((kv2.ext x9).upd u3)))), f3, ⟨by omega, by omega⟩⟩
theorem app_p (k : Nat) (b : Nat) (S : ByteArray) (q : Rs) (w : World) (K : Ending → World → Prop) (ih : ∀ j, j ≤ k → SpecP j) (hb : Gx.Has w b (rdP S q)) (hok : Ok S q) (f0 : q.fk = 0) (hmu : 16 * M S q + 5 ≤ k + 1) (hP : (PQ w b K ((run S (k + 1) .app q).2))) (hK : ∀ w' t A c q', run S (k + 1) .app q = (t, q') → q'.fk = 0 → Gx.G w w' (some b) → Gx.Has w' b (rdP S q') → KV (In w.heap.size w'.heap.size []) w' t.ks A c → K (.returned (.agg (Z.T t A c))) w') :
    Calls Tryd.prog 104 #[Z.P b 0] w K := by
  refine Z.en 83 Tryd.func104 ?_
  have tbb := hb.lt
  have kbq := (okB_iff q).2 f0
  refine Z.r [0] ?_
  refine Z.N Z.c0 (fun k1 w1 l1 x1 b1 zw1 tb1 => ?_)
  refine Z.e (Z.r [0, 1, 2, 3, 4, 5] ?_)
  refine Z.p [0, 1, 2, 3] [4, 5] [(9, Z.P b 2), (8, Z.P b 1), (7, Z.P b 0), (6, Z.P b 0)] ?_
  refine Z.L 2 (Z.n q.a) (hb.ext x1) ?_
  refine Z.p [5] [] [(3, Z.n q.a)] ?_
  refine Z.e (wp_seq (wp_block (Z.r [0, 1, 2] ?_)))
  refine Z.p [0] [1, 2] [(12, Z.P b 0)] ?_
  have y1 := gb_ext (gb_refl w b) x1
  refine Z.kP (fun R hR hE => eat_p b S q Z.k38 _ R (hb.ext x1) hok f0 (fun w2 q1 e1 f1 x2 => hE _ _ (And.intro rfl (hP _ q1 (by rw [run_succ]; simp only [stepN, appS, maps, kbq, Z.ifs, reduceIte, e1, has_pan e1 f1 f0, idl f1]) f1 (gb_upd y1 x2)))) (fun w2 q1 e1 f1 x2 b2 => hR _ _ ?_))
  have zw2 := x2.size
  have tb2 := b2.lt
  obtain ⟨ok1, ok1m, ok1x, ok1y⟩ : Tr S q q1 := e1 ▸ has_tr hok
  have kbq1 := (okB_iff q1).2 f1
  refine Z.p [2] [] [(11, .bool (isB q Z.k38))] ?_
  refine Z.e (Z.c (isB q Z.k38) (fun h_c11 => ?_) (fun h_c11 => ?_))
  · skip
    refine Z.r [0, 1, 2, 3] ?_
    refine Z.p [0] [1, 2, 3] [(14, Z.P b 0)] ?_
    have lt1 := (Z.lt hok h_c11 e1)
    refine Z.kP (fun R hR hE => named_p b S q1 (19 : Int) _ R b2 ok1 f1 (fun w3 q2 e2 f2 x3 => hE _ _ (And.intro rfl (hP _ q2 (by rw [run_succ]; simp only [stepN, appS, maps, kbq, e1, kbq1, h_c11, Z.ifs, reduceIte, e2, idl f2]) f2 (gb_upd (gb_upd y1 x2) x3)))) (fun w3 q2 e2 f2 x3 b3 => hR _ _ ?_))
    have zw3 := x3.size
    have tb3 := b3.lt
    have kbq2 := (okB_iff q2).2 f2
    obtain ⟨ok2, ok2m, ok2x, ok2y⟩ : Tr S q1 q2 := by have := name_tr ok1; rw [e2] at this; exact this
    have ok2l : M S q2 < M S q1 := by have := name_lt ok1 (by rw [e2]; exact kbq2); rw [e2] at this; exact this
    refine Z.N Z.c0 (fun k2 w4 l2 x4 b4 zw4 tb4 => ?_)
    refine Z.Sa #[.int .i64 19, Z.n q1.a, .string q1.t, .int .i64 0, .slice none 0 0] b4 (fun w5 u1 b5 zw5 => ?_)
    refine Z.e (Z.r [0, 1, 2] ?_)
    refine Z.p [0, 1] [2] [(17, Z.P k2 1), (16, Z.n q.a)] ?_
    refine Z.S 1 (Z.n q.a) b5 #[.int .i64 19, Z.n q.a, .string q1.t, .int .i64 0, .slice none 0 0] (fun w6 u2 b6 zw6 => ?_)
    refine Z.e (wp_seq (Z.D (fun w' => Gx.Has w' k2 (.cells #[.int .i64 19, Z.n q.a, .string q1.t, .int .i64 0, .slice none 0 0] 24)) (fun w7 x5 zw7 => ?_)))
    refine Z.h (b6.ext x5) (fun hS1 => ?_)
    refine Z.tl 0 0 (.agg #[.int .i64 19, Z.n q.a, .string q1.t, .int .i64 0, .slice none 0 0]) (fun _ hs => hs) hS1 ?_
    refine Z.t 1 (Z.P b 0) hS1 ?_
    have y2 := gb_ext (gb_new (gb_new (gb_ext (gb_upd (gb_upd y1 x2) x3) x4) u1) u2) x5
    refine Z.oP 2 (fun R hR hE => (ih k (Nat.le_refl k)).f_atom b S q2 _ R ((((b3.ext x4).upd1 u1).upd1 u2).ext x5) ok2 f2 (by omega) (fun w8 q3 e3 f3 x6 => hE _ _ (And.intro rfl (hP _ q3 (by rw [run_succ]; simp only [stepN, appS, maps, kbq, e1, kbq1, e2, kbq2, h_c11, Z.ifs, reduceIte, e3, idl f3]) f3 (gb_upd y2 x6)))) (fun w8 t1 A1 c1 q3 e3 f3 x6 b7 kv1 => hR _ _ ⟨((b6.ext x5).upd1 x6), ?_⟩))
    have zw8 := x6.size
    have tb7 := b7.lt
    have kbq3 := (okB_iff q3).2 f3
    obtain ⟨ok3, ok3m, ok3x, ok3y⟩ : Tr S q2 q3 := run_facts ok2 e3
    refine Z.oR 3 (.cells (Z.T t1 A1 c1) 24) 1 1 (fun k3 w9 l3 x7 b8 => ⟨(((b6.ext x5).upd1 x6).ext x7), ?_⟩)
    have zw9 := x7.size
    have tb8 := b8.lt
    have ow1 : w9.ownsRow w7.heap.size 24 5 (.slice none 0 0) Z.nl.length (flat Z.nl) := ⟨by simp [flat], .inl ⟨rfl, rfl⟩⟩
    have y3 := ((b6.ext x5).upd1 x6).ext x7
    refine Z.o 4 (fun R hR => with_p w7.heap.size k3 1 Z.nl [(t1, A1, c1)] none 0 (Z.T t1 A1 c1) (19 : Int) ((q.a : Nat) : Int) (0 : Int) q1.t _ R ow1 b8 rfl (by simp only [List.length_append, List.length_cons, List.length_nil]; omega) (by omega) (fun A2 c2 w10 nk1 ow2 nl1 hnk1 g1 => hR _ _ ⟨(y3.upd g1 (fun e => by cases e)), fun hS2 => ?_⟩))
    have zw10 := g1.size
    have hb1 : ∀ j, ((.slice A2 (Z.nl ++ [(t1, A1, c1)]).length c2 : Value) : Value).ownBlock = some j → (j = nk1 ∧ j < w10.heap.size) := fun j e => by have l := (ow2).lt j e; rcases nl1 with q | q; (rw [q] at e; cases e); (rw [q] at e; cases e; omega)
    have hkx1 : Z.ks (InV w7.heap.size w10.heap.size [k1, k2] (.slice A2 (Z.nl ++ [(t1, A1, c1)]).length c2 : Value)) w10 (Z.nl ++ [(t1, A1, c1)]) := Z.m0 (KV.topV (KV.ofIn ((kv1.ext x7).app g1 (fun j e => by cases e)) (fun j e => by have z := hb1 j e; first | (left; omega) | (right; omega) | omega)))
    refine Z.oSa 5 #[.int .i64 19, Z.n q.a, .string q1.t, .int .i64 0, (.slice A2 (Z.nl ++ [(t1, A1, c1)]).length c2 : Value)] (((((((((b1.upd1 x2).upd1 x3).ext x4).upd1 u1).upd1 u2).ext x5).upd1 x6).ext x7).upd g1 (fun e => by cases e)) (fun w11 u3 b9 => ⟨((y3.upd g1 (fun e => by cases e)).upd1 u3), ?_⟩)
    have zw11 := u3.size
    refine Z.q ?_
    refine Z.x (wp_ret (Gx.block_ret (Gx.then_ret (Gx.ret (Gx.res_c (u := .agg #[.int .i64 19, Z.n q.a, .string q1.t, .int .i64 0, (.slice A2 (Z.nl ++ [(t1, A1, c1)]).length c2 : Value)]) rfl (by kernel_rfl) b9 (by kernel_rfl)) ?_))))
    have y4 := Gx.own_upd1 ow2 u3 (fun q e => by have z := hb1 q e; omega)
    obtain ⟨A3, c3, hvkv2, kv2⟩ := KV.of_own (Q := In w7.heap.size w11.heap.size [k1, k2]) (Z.nl ++ [(t1, A1, c1)]) y4 (fun j e => by have := (y4).lt j e; exact ⟨by omega, by omega, (by have z := hb1 j e; simp only [List.mem_cons, List.not_mem_nil, or_false, not_or]; omega)⟩) (fun p' h0 => (KV.topV ((hkx1 p' h0).updV u3)).noV)
    rw [nds_len] at hvkv2; cases hvkv2
    exact hK _ (Nd.mk 19 q.a q1.t (0 : Int) (nds (Z.nl ++ [(t1, A1, c1)]))) A2 c2 q3 (by rw [run_succ]; simp only [stepN, appS, maps, kbq, e1, kbq1, e2, kbq2, e3, kbq3, h_c11, Z.ifs, reduceIte]) f3 (gb_new (gb_app (gb_ext (gb_upd y2 x6) x7) g1 (fun j e => by have := (ow1).lt j e; omega)) u3) (((b7.ext x7).upd g1 (fun e => by cases e)).upd1 u3) (KV.top kv2)
  refine Z.r [0, 1, 2] ?_
  refine Z.p [0] [1, 2] [(24, Z.P b 0)] ?_
  have y5 := Z.a kbq (Z.a e1 kbq1)
  refine Z.kP (fun R hR hE => eat_p b S q1 Z.k36 _ R b2 ok1 f1 (fun w12 q4 e4 f4 x8 => hE _ _ (And.intro rfl (hP _ q4 (by rw [run_succ]; simp only [stepN, appS, maps, y5, h_c11, Z.ifs, reduceIte, e4, has_pan e4 f4 f1, idl f4]) f4 (gb_upd (gb_upd y1 x2) x8)))) (fun w12 q4 e4 f4 x8 b10 => hR _ _ ?_))
  have zw12 := x8.size
  have tb10 := b10.lt
  obtain ⟨ok4, ok4m, ok4x, ok4y⟩ : Tr S q1 q4 := e4 ▸ has_tr ok1
  have kbq4 := (okB_iff q4).2 f4
  refine Z.p [2] [] [(23, .bool (isB q1 Z.k36))] ?_
  refine Z.e (Z.c (isB q1 Z.k36) (fun h_c23 => ?_) (fun h_c23 => ?_))
  · skip
    refine Z.r [0, 1, 2, 3, 4, 5] ?_
    refine Z.p [0, 1] [2, 3, 4, 5] [(27, Z.P b 0), (26, Z.n q.a)] ?_
    have lt2 := (Z.lt ok1 h_c23 e4)
    have y6 := gb_upd (gb_upd y1 x2) x8
    refine Z.kP (fun R hR hE => (ih k (Nat.le_refl k)).f_atom b S q4 _ R b10 ok4 f4 (by omega) (fun w13 q5 e5 f5 x9 => hE _ _ (And.intro rfl (hP _ q5 (by rw [run_succ]; simp only [stepN, appS, maps, y5, e4, kbq4, h_c11, h_c23, Z.ifs, reduceIte, e5, idl f5]) f5 (gb_upd y6 x9)))) (fun w13 t2 A4 c4 q5 e5 f5 x9 b11 kv3 => hR _ _ ?_))
    have zw13 := x9.size
    have tb11 := b11.lt
    have kbq5 := (okB_iff q5).2 f5
    obtain ⟨ok5, ok5m, ok5x, ok5y⟩ : Tr S q4 q5 := run_facts ok4 e5
    refine Z.R (.cells (Z.T t2 A4 c4) 24) 1 1 (fun k4 w14 l4 x10 b12 zw14 tb12 => ?_)
    refine Z.p [4] [5] [(30, .agg #[.int .i64 13, Z.n q.a, .string Z.E, .int .i64 0, .slice (some ⟨k4, 0, none⟩) 1 1])] ?_
    refine Z.Sa #[.int .i64 13, Z.n q.a, .string Z.E, .int .i64 0, .slice (some ⟨k4, 0, none⟩) 1 1] ((((b1.upd1 x2).upd1 x8).upd1 x9).ext x10) (fun w15 u4 b13 zw15 => ?_)
    refine Z.e (wp_ret (Gx.block_ret (Gx.then_ret (Gx.ret (Gx.res_c (u := .agg #[.int .i64 13, Z.n q.a, .string Z.E, .int .i64 0, .slice (some ⟨k4, 0, none⟩) 1 1]) rfl (by kernel_rfl) b13 (by kernel_rfl)) ?_))))
    exact hK _ (Nd.mk 13 q.a Z.E (0 : Int) [t2]) (some (⟨k4, 0, none⟩ : Addr)) 1 q5 (by rw [run_succ]; simp only [stepN, appS, maps, y5, e4, kbq4, e5, kbq5, h_c11, h_c23, Z.ifs, reduceIte]) f5 (gb_new (gb_ext (gb_upd y6 x9) x10) u4) ((b11.ext x10).upd1 u4) (KV.of_row [(t2, A4, c4)] (n := 5) (b12.upd1 u4) rfl ⟨by omega, by omega, (fun hj => by cases hj)⟩ (by intro p hp; simp only [List.mem_cons, List.not_mem_nil, or_false] at hp; subst hp; exact (KV.top ((kv3.ext x10).upd u4))))
  refine Z.r [0, 1, 2] ?_
  refine Z.p [0] [1, 2] [(32, Z.P b 0)] ?_
  have y7 := gb_upd (gb_upd y1 x2) x8
  have y8 := Z.a h_c11 h_c23
  have y9 := Z.a y5 (Z.a e4 kbq4)
  refine Z.kP (fun R hR hE => eat_p b S q4 Z.k37 _ R b10 ok4 f4 (fun w16 q6 e6 f6 x11 => hE _ _ (And.intro rfl (hP _ q6 (by rw [run_succ]; simp only [stepN, appS, maps, y9, y8, Z.ifs, reduceIte, e6, has_pan e6 f6 f4, idl f6]) f6 (gb_upd y7 x11)))) (fun w16 q6 e6 f6 x11 b14 => hR _ _ ?_))
  have zw16 := x11.size
  have tb14 := b14.lt
  obtain ⟨ok6, ok6m, ok6x, ok6y⟩ : Tr S q4 q6 := e6 ▸ has_tr ok4
  have kbq6 := (okB_iff q6).2 f6
  refine Z.p [2] [] [(31, .bool (isB q4 Z.k37))] ?_
  refine Z.e (Z.c (isB q4 Z.k37) (fun h_c31 => ?_) (fun h_c31 => ?_))
  · skip
    refine Z.r [0, 1, 2, 3, 4, 5] ?_
    refine Z.p [0, 1] [2, 3, 4, 5] [(35, Z.P b 0), (34, Z.n q.a)] ?_
    have lt3 := (Z.lt ok4 h_c31 e6)
    refine Z.kP (fun R hR hE => (ih k (Nat.le_refl k)).f_atom b S q6 _ R b14 ok6 f6 (by omega) (fun w17 q7 e7 f7 x12 => hE _ _ (And.intro rfl (hP _ q7 (by rw [run_succ]; simp only [stepN, appS, maps, y9, e6, kbq6, y8, h_c31, Z.ifs, reduceIte, e7, idl f7]) f7 (gb_upd (gb_upd y7 x11) x12)))) (fun w17 t3 A5 c5 q7 e7 f7 x12 b15 kv4 => hR _ _ ?_))
    have zw17 := x12.size
    have tb15 := b15.lt
    have kbq7 := (okB_iff q7).2 f7
    obtain ⟨ok7, ok7m, ok7x, ok7y⟩ : Tr S q6 q7 := run_facts ok6 e7
    refine Z.R (.cells (Z.T t3 A5 c5) 24) 1 1 (fun k5 w18 l5 x13 b16 zw18 tb16 => ?_)
    refine Z.p [4] [5] [(38, .agg #[.int .i64 14, Z.n q.a, .string Z.E, .int .i64 0, .slice (some ⟨k5, 0, none⟩) 1 1])] ?_
    refine Z.Sa #[.int .i64 14, Z.n q.a, .string Z.E, .int .i64 0, .slice (some ⟨k5, 0, none⟩) 1 1] (((((b1.upd1 x2).upd1 x8).upd1 x11).upd1 x12).ext x13) (fun w19 u5 b17 zw19 => ?_)
    refine Z.e (wp_ret (Gx.block_ret (Gx.then_ret (Gx.ret (Gx.res_c (u := .agg #[.int .i64 14, Z.n q.a, .string Z.E, .int .i64 0, .slice (some ⟨k5, 0, none⟩) 1 1]) rfl (by kernel_rfl) b17 (by kernel_rfl)) ?_))))
    exact hK _ (Nd.mk 14 q.a Z.E (0 : Int) [t3]) (some (⟨k5, 0, none⟩ : Addr)) 1 q7 (by rw [run_succ]; simp only [stepN, appS, maps, y9, e6, kbq6, e7, kbq7, y8, h_c31, Z.ifs, reduceIte]) f7 (gb_new (gb_ext (gb_upd (gb_upd y7 x11) x12) x13) u5) ((b15.ext x13).upd1 u5) (KV.of_row [(t3, A5, c5)] (n := 5) (b16.upd1 u5) rfl ⟨by omega, by omega, (fun hj => by cases hj)⟩ (by intro p hp; simp only [List.mem_cons, List.not_mem_nil, or_false] at hp; subst hp; exact (KV.top ((kv4.ext x13).upd u5))))
  refine wp_skip (Gx.block_normal (Z.x (Z.r [0, 1, 2, 3] ?_)))
  refine Z.p [0] [1, 2, 3] [(39, Z.P b 0)] ?_
  have y10 := Z.a y8 h_c31
  have y11 := Z.a y9 (Z.a e6 kbq6)
  refine Z.kP (fun R hR hE => (ih k (Nat.le_refl k)).f_atom b S q6 _ R b14 ok6 f6 (by omega) (fun w20 q8 e8 f8 x14 => hE _ _ (And.intro rfl (hP _ q8 (by rw [run_succ]; simp only [stepN, appS, maps, y11, y10, Z.ifs, reduceIte, e8, idl f8]) f8 (gb_upd (gb_upd y7 x11) x14)))) (fun w20 t4 A6 c6 q8 e8 f8 x14 b18 kv5 => hR _ _ ?_))
  have zw20 := x14.size
  have tb18 := b18.lt
  have kbq8 := (okB_iff q8).2 f8
  obtain ⟨ok8, ok8m, ok8x, ok8y⟩ : Tr S q6 q8 := run_facts ok6 e8
  refine Z.N Z.c0 (fun k6 w21 l6 x15 b19 zw21 tb19 => ?_)
  refine Z.Sa (Z.T t4 A6 c6) b19 (fun w22 u6 b20 zw22 => ?_)
  refine Z.e (wp_seq (wp_block (Gx.loop (n' := 83) (d' := []) (fun mz l' w' => ∃ (j : Nat) (p : Rs) (a : Nd) (A : Option Addr) (c : Nat), l' = [(0, Z.P b 0), (2, Z.P k1 0), (5, Z.P k6 0)] ∧ mz = M S p ∧ Gx.G w w' (some b) ∧ Gx.Has w' b (.cells #[.string S, Z.n p.k, Z.n p.a, .string p.t, Z.n p.n, Z.n p.e, Z.n p.x, Z.n p.y] 54) ∧ Gx.Has w' k1 Z.c0 ∧ Gx.Has w' k6 (.cells (Z.T a A c) 24) ∧ (j ≤ k) ∧ (16 * M S p + 4 ≤ j) ∧ (run S j (.appL a) p = run S k (.appL t4) q8) ∧ (Ok S p) ∧ (KV (In w.heap.size w'.heap.size [k1, k6]) w' a.ks A c) ∧ (p.fk = 0) ∧ (p.x = q8.x ∧ p.y = q8.y)) _ _ [(0, Z.P b 0), (2, Z.P k1 0), (5, Z.P k6 0)] (Gx.forget [(0, Z.P b 0), (2, Z.P k1 0), (5, Z.P k6 0)] (by kernel_rfl)) ⟨k, q8, t4, A6, c6, rfl, rfl, (gb_new (gb_ext (gb_upd (gb_upd y7 x11) x14) x15) u6), ((b18.ext x15).upd1 u6), ((((((b1.upd1 x2).upd1 x8).upd1 x11).upd1 x14).ext x15).upd1 u6), b20, (Nat.le_refl _), (by omega), rfl, ok8, (KV.top ((kv5.ext x15).upd u6)), f8, ⟨rfl, rfl⟩⟩ (fun bb1 m1 ll1 w23 hI1 K1 hK1 => ?_))))
  obtain ⟨j, p, a, A, c, rfl, rfl, x16, b21, b22, b23, hj, hm, hr, ho, hkv, hf, hxy⟩ := hI1
  have zw23 := x16.size
  have tb21 := b21.lt
  have tb22 := b22.lt
  have tb23 := b23.lt
  obtain ⟨i, rfl⟩ : ∃ i, j = i + 1 := ⟨j - 1, by omega⟩
  have kbp := (okB_iff p).2 hf
  refine wp_seq (Z.r [0, 1, 2, 3, 4, 5, 6, 7, 8, 9, 10, 11, 12, 13, 14, 15, 16, 17, 18, 19, 20, 21, 22, 23, 24, 25, 26, 27, 28, 29, 30, 31, 32, 33] ?_)
  refine Z.p [0, 1, 2, 3] [4, 5, 6, 7, 8, 9, 10, 11, 12, 13, 14, 15, 16, 17, 18, 19, 20, 21, 22, 23, 24, 25, 26, 27, 28, 29, 30, 31, 32, 33] [(44, Z.P b 1), (43, Z.P b 1), (42, Z.P b 0), (41, Z.P b 0)] ?_
  refine Z.L 1 (Z.n p.k) b21 ?_
  refine Z.p [5, 6] [7, 8, 9, 10, 11, 12, 13, 14, 15, 16, 17, 18, 19, 20, 21, 22, 23, 24, 25, 26, 27, 28, 29, 30, 31, 32, 33] [(47, .bool (((p.k : Nat) : Int) == (2 : Int))), (46, .bool (((p.k : Nat) : Int) == (2 : Int)))] ?_
  refine Gx.split (((p.k : Nat) : Int) == (2 : Int)) (fun h_g47 => ?_) (fun h_g47 => ?_)
  · rw [h_g47]
    refine Z.p [7, 8, 9, 10, 11, 12, 13, 14, 15, 16, 17, 18, 19, 20, 21, 22, 23, 24, 25, 26, 27, 28, 29, 30, 31, 32, 33] [] [(74, .bool true), (73, undef), (72, undef), (71, .bool true), (70, .bool true), (69, undef), (68, undef), (67, .bool true), (66, .bool true), (65, undef), (64, undef), (63, .bool true), (62, .bool true), (61, undef), (60, undef), (59, .bool true), (58, .bool true), (57, undef), (56, undef), (55, .bool true), (54, .bool true), (53, undef), (52, undef), (51, undef), (50, undef), (49, undef), (48, undef)] ?_
    refine Z.e (Z.ct ?_)
    refine wp_skip (Z.x (wp_block ?_))
    have p_g47 := Gx.k1 h_g47
    have hbg : begB p = true := by simp only [begB, kbp, h_g47, Bool.true_and, Bool.true_or, Bool.or_true, Bool.false_or, Bool.or_false, Bool.and_true]
    refine Gx.drawE (S := fun w' => Gx.Has w' k6 (.cells (Z.T a A c) 24)) [7] (by kernel_rfl) (fun w24 x17 => ?_)
    have zw24 := x17.size
    refine Z.eh (b23.ext x17) (fun hS3 => ?_)
    refine Z.et 0 (Z.P k6 1) (fun _ => hS3) ?_
    refine Z.es 1 [6, 7] 1 (Z.n a.a) (fun _ hs => hs) hS3 ?_
    refine Z.es 2 [5, 6, 7] 0 (.agg (Z.T a A c)) (fun _ hs => hs) hS3 ?_
    refine Z.et 3 (Z.P b 0) (fun _ => hS3) ?_
    have y12 := gb_ext (gb_upd (gb_refl w b) x16) x17
    refine Z.eP 4 (fun R hR hE => (ih i (by omega)).f_atom b S p _ R (b21.ext x17) ho hf (by omega) (fun w25 q9 e9 f9 x18 => hE _ _ (And.intro rfl (hP _ q9 (by have zl : (run S k (.appL t4) q8).2 = q9 := (by rw [← hr, run_succ]; simp only [run_succ, stepN, appLS, kbp, hbg, y10, h_g47, Z.ifs, reduceIte, e9, idl f9]); rw [run_succ]; simp only [stepN, appS, maps, y11, e8, kbq8, y10, h_g47, Z.ifs, reduceIte, zl, idl f9]) f9 (gb_upd y12 x18)))) (fun w25 t5 A7 c7 q9 e9 f9 x18 b24 kv6 => hR _ _ ⟨(fun _ => ((b23.ext x17).upd1 x18)), ?_⟩))
    have zw25 := x18.size
    have tb24 := b24.lt
    have kbq9 := (okB_iff q9).2 f9
    obtain ⟨ok9, ok9m, ok9x, ok9y⟩ : Tr S p q9 := run_facts ho e9
    have lt4 := atom_lt ho (by omega) hbg e9
    have y13 := (b23.ext x17).upd1 x18
    refine Z.eR 5 (.cells #[Z.n a.k, Z.n a.a, .string a.nm, .int .i64 a.n, .slice A a.ks.length c, Z.n t5.k, Z.n t5.a, .string t5.nm, .int .i64 t5.n, .slice A7 t5.ks.length c7] 24) 2 2 (fun k7 w26 l7 x19 b25 => ⟨(fun _ => (y13.ext x19)), ?_⟩)
    have zw26 := x19.size
    have tb25 := b25.lt
    refine Z.eh (y13.ext x19) (fun hS4 => ?_)
    refine Z.et 6 (.agg #[.int .i64 8, Z.n a.a, .string Z.E, .int .i64 0, .slice (some ⟨k7, 0, none⟩) 2 2]) (fun _ => hS4) ?_
    refine Z.eSa 7 #[.int .i64 8, Z.n a.a, .string Z.E, .int .i64 0, .slice (some ⟨k7, 0, none⟩) 2 2] (y13.ext x19) (fun w27 u7 b26 => ⟨(Gx.not_clear (by kernel_rfl)), ?_⟩)
    have zw27 := u7.size
    refine Gx.anyE_done (by kernel_rfl) ?_ _
    refine Gx.block_normal (Z.x ?_)
    rw [Gx.forget [(0, Z.P b 0), (2, Z.P k1 0), (5, Z.P k6 0)] (by kernel_rfl)]
    exact hK1 _ _ _ _ (by omega) ⟨i, q9, (Nd.mk 8 a.a Z.E (0 : Int) [a, t5]), (some (⟨k7, 0, none⟩ : Addr)), 2, rfl, rfl, (gb_new (gb_ext (gb_upd y12 x18) x19) u7), ((b24.ext x19).upd1 u7), ((((b22.ext x17).upd1 x18).ext x19).upd1 u7), b26, (by omega), (by omega), (by rw [← hr, run_succ]; simp only [stepN, appLS, kbp, hbg, e9, kbq9, y10, h_g47, Z.ifs, reduceIte]), ok9, (KV.of_row [(a, A, c), (t5, A7, c7)] (n := 10) (b25.upd1 u7) rfl ⟨by omega, by omega, (by simp only [List.mem_cons, List.not_mem_nil, or_false, not_or]; omega)⟩ (by intro p hp; simp only [List.mem_cons, List.not_mem_nil, or_false] at hp; rcases hp with rfl | rfl; exact (KV.top ((((hkv.ext x17).upd x18).ext x19).upd u7)); exact (KV.top ((kv6.ext x19).upd u7)))), f9, ⟨by omega, by omega⟩⟩
  rw [h_g47]
  refine Z.p [7, 8, 9, 10] [11, 12, 13, 14, 15, 16, 17, 18, 19, 20, 21, 22, 23, 24, 25, 26, 27, 28, 29, 30, 31, 32, 33] [(51, Z.P b 1), (50, Z.P b 1), (49, Z.P b 0), (48, Z.P b 0)] ?_
  refine Z.L 1 (Z.n p.k) b21 ?_
  refine Z.p [12, 13, 14] [15, 16, 17, 18, 19, 20, 21, 22, 23, 24, 25, 26, 27, 28, 29, 30, 31, 32, 33] [(55, .bool (((p.k : Nat) : Int) == (1 : Int))), (54, .bool (((p.k : Nat) : Int) == (1 : Int))), (53, .bool (((p.k : Nat) : Int) == (1 : Int)))] ?_
  refine Gx.split (((p.k : Nat) : Int) == (1 : Int)) (fun h_g55 => ?_) (fun h_g55 => ?_)
  · rw [h_g55]
    refine Z.p [15, 16, 17, 18, 19, 20, 21, 22, 23, 24, 25, 26, 27, 28, 29, 30, 31, 32, 33] [] [(74, .bool true), (73, undef), (72, undef), (71, .bool true), (70, .bool true), (69, undef), (68, undef), (67, .bool true), (66, .bool true), (65, undef), (64, undef), (63, .bool true), (62, .bool true), (61, undef), (60, undef), (59, .bool true), (58, .bool true), (57, undef), (56, undef)] ?_
    refine Z.e (Z.ct ?_)
    refine wp_skip (Z.x (wp_block ?_))
    have p_g47 := Gx.k0 h_g47
    have p_g55 := Gx.k1 h_g55
    have hbg : begB p = true := by simp only [begB, kbp, h_g47, h_g55, Bool.true_and, Bool.true_or, Bool.or_true, Bool.false_or, Bool.or_false, Bool.and_true]
    refine Gx.drawE (S := fun w' => Gx.Has w' k6 (.cells (Z.T a A c) 24)) [7] (by kernel_rfl) (fun w28 x20 => ?_)
    have zw28 := x20.size
    refine Z.eh (b23.ext x20) (fun hS5 => ?_)
    refine Z.et 0 (Z.P k6 1) (fun _ => hS5) ?_
    refine Z.es 1 [6, 7] 1 (Z.n a.a) (fun _ hs => hs) hS5 ?_
    refine Z.es 2 [5, 6, 7] 0 (.agg (Z.T a A c)) (fun _ hs => hs) hS5 ?_
    refine Z.et 3 (Z.P b 0) (fun _ => hS5) ?_
    have y14 := gb_ext (gb_upd (gb_refl w b) x16) x20
    refine Z.eP 4 (fun R hR hE => (ih i (by omega)).f_atom b S p _ R (b21.ext x20) ho hf (by omega) (fun w29 q10 e10 f10 x21 => hE _ _ (And.intro rfl (hP _ q10 (by have zl : (run S k (.appL t4) q8).2 = q10 := (by rw [← hr, run_succ]; simp only [run_succ, stepN, appLS, kbp, hbg, y10, h_g47, h_g55, Z.ifs, reduceIte, e10, idl f10]); rw [run_succ]; simp only [stepN, appS, maps, y11, e8, kbq8, y10, h_g47, h_g55, Z.ifs, reduceIte, zl, idl f10]) f10 (gb_upd y14 x21)))) (fun w29 t6 A8 c8 q10 e10 f10 x21 b27 kv7 => hR _ _ ⟨(fun _ => ((b23.ext x20).upd1 x21)), ?_⟩))
    have zw29 := x21.size
    have tb27 := b27.lt
    have kbq10 := (okB_iff q10).2 f10
    obtain ⟨ok10, ok10m, ok10x, ok10y⟩ : Tr S p q10 := run_facts ho e10
    have lt5 := atom_lt ho (by omega) hbg e10
    have y15 := (b23.ext x20).upd1 x21
    refine Z.eR 5 (.cells #[Z.n a.k, Z.n a.a, .string a.nm, .int .i64 a.n, .slice A a.ks.length c, Z.n t6.k, Z.n t6.a, .string t6.nm, .int .i64 t6.n, .slice A8 t6.ks.length c8] 24) 2 2 (fun k8 w30 l8 x22 b28 => ⟨(fun _ => (y15.ext x22)), ?_⟩)
    have zw30 := x22.size
    have tb28 := b28.lt
    refine Z.eh (y15.ext x22) (fun hS6 => ?_)
    refine Z.et 6 (.agg #[.int .i64 8, Z.n a.a, .string Z.E, .int .i64 0, .slice (some ⟨k8, 0, none⟩) 2 2]) (fun _ => hS6) ?_
    refine Z.eSa 7 #[.int .i64 8, Z.n a.a, .string Z.E, .int .i64 0, .slice (some ⟨k8, 0, none⟩) 2 2] (y15.ext x22) (fun w31 u8 b29 => ⟨(Gx.not_clear (by kernel_rfl)), ?_⟩)
    have zw31 := u8.size
    refine Gx.anyE_done (by kernel_rfl) ?_ _
    refine Gx.block_normal (Z.x ?_)
    rw [Gx.forget [(0, Z.P b 0), (2, Z.P k1 0), (5, Z.P k6 0)] (by kernel_rfl)]
    exact hK1 _ _ _ _ (by omega) ⟨i, q10, (Nd.mk 8 a.a Z.E (0 : Int) [a, t6]), (some (⟨k8, 0, none⟩ : Addr)), 2, rfl, rfl, (gb_new (gb_ext (gb_upd y14 x21) x22) u8), ((b27.ext x22).upd1 u8), ((((b22.ext x20).upd1 x21).ext x22).upd1 u8), b29, (by omega), (by omega), (by rw [← hr, run_succ]; simp only [stepN, appLS, kbp, hbg, e10, kbq10, y10, h_g47, h_g55, Z.ifs, reduceIte]), ok10, (KV.of_row [(a, A, c), (t6, A8, c8)] (n := 10) (b28.upd1 u8) rfl ⟨by omega, by omega, (by simp only [List.mem_cons, List.not_mem_nil, or_false, not_or]; omega)⟩ (by intro p hp; simp only [List.mem_cons, List.not_mem_nil, or_false] at hp; rcases hp with rfl | rfl; exact (KV.top ((((hkv.ext x20).upd x21).ext x22).upd u8)); exact (KV.top ((kv7.ext x22).upd u8)))), f10, ⟨by omega, by omega⟩⟩
  rw [h_g55]
  refine Z.p [15] [16, 17, 18, 19, 20, 21, 22, 23, 24, 25, 26, 27, 28, 29, 30, 31, 32, 33] [(56, Z.P b 0)] ?_
  refine Z.k (fun R hR => at_p b S p Z.k29 _ R b21 hf (hR _ _ ?_))
  refine Z.p [17, 18] [19, 20, 21, 22, 23, 24, 25, 26, 27, 28, 29, 30, 31, 32, 33] [(59, .bool (isB p Z.k29)), (58, .bool (isB p Z.k29))] ?_
  refine Gx.split (isB p Z.k29) (fun h_g59 => ?_) (fun h_g59 => ?_)
  · rw [h_g59]
    refine Z.p [19, 20, 21, 22, 23, 24, 25, 26, 27, 28, 29, 30, 31, 32, 33] [] [(74, .bool true), (73, undef), (72, undef), (71, .bool true), (70, .bool true), (69, undef), (68, undef), (67, .bool true), (66, .bool true), (65, undef), (64, undef), (63, .bool true), (62, .bool true), (61, undef), (60, undef)] ?_
    refine Z.e (Z.ct ?_)
    refine wp_skip (Z.x (wp_block ?_))
    have p_g47 := Gx.k0 h_g47
    have p_g55 := Gx.k0 h_g55
    have y16 := Z.a h_g47 (Z.a h_g55 h_g59)
    have hbg : begB p = true := by simp only [begB, kbp, y16, Bool.true_and, Bool.true_or, Bool.or_true, Bool.false_or, Bool.or_false, Bool.and_true]
    refine Gx.drawE (S := fun w' => Gx.Has w' k6 (.cells (Z.T a A c) 24)) [7] (by kernel_rfl) (fun w32 x23 => ?_)
    have zw32 := x23.size
    refine Z.eh (b23.ext x23) (fun hS7 => ?_)
    refine Z.et 0 (Z.P k6 1) (fun _ => hS7) ?_
    refine Z.es 1 [6, 7] 1 (Z.n a.a) (fun _ hs => hs) hS7 ?_
    refine Z.es 2 [5, 6, 7] 0 (.agg (Z.T a A c)) (fun _ hs => hs) hS7 ?_
    refine Z.et 3 (Z.P b 0) (fun _ => hS7) ?_
    have y17 := gb_ext (gb_upd (gb_refl w b) x16) x23
    refine Z.eP 4 (fun R hR hE => (ih i (by omega)).f_atom b S p _ R (b21.ext x23) ho hf (by omega) (fun w33 q11 e11 f11 x24 => hE _ _ (And.intro rfl (hP _ q11 (by have zl : (run S k (.appL t4) q8).2 = q11 := (by rw [← hr, run_succ]; simp only [run_succ, stepN, appLS, kbp, hbg, y10, y16, Z.ifs, reduceIte, e11, idl f11]); rw [run_succ]; simp only [stepN, appS, maps, y11, e8, kbq8, y10, y16, Z.ifs, reduceIte, zl, idl f11]) f11 (gb_upd y17 x24)))) (fun w33 t7 A9 c9 q11 e11 f11 x24 b30 kv8 => hR _ _ ⟨(fun _ => ((b23.ext x23).upd1 x24)), ?_⟩))
    have zw33 := x24.size
    have tb30 := b30.lt
    have kbq11 := (okB_iff q11).2 f11
    obtain ⟨ok11, ok11m, ok11x, ok11y⟩ : Tr S p q11 := run_facts ho e11
    have lt6 := atom_lt ho (by omega) hbg e11
    have y18 := (b23.ext x23).upd1 x24
    refine Z.eR 5 (.cells #[Z.n a.k, Z.n a.a, .string a.nm, .int .i64 a.n, .slice A a.ks.length c, Z.n t7.k, Z.n t7.a, .string t7.nm, .int .i64 t7.n, .slice A9 t7.ks.length c9] 24) 2 2 (fun k9 w34 l9 x25 b31 => ⟨(fun _ => (y18.ext x25)), ?_⟩)
    have zw34 := x25.size
    have tb31 := b31.lt
    refine Z.eh (y18.ext x25) (fun hS8 => ?_)
    refine Z.et 6 (.agg #[.int .i64 8, Z.n a.a, .string Z.E, .int .i64 0, .slice (some ⟨k9, 0, none⟩) 2 2]) (fun _ => hS8) ?_
    refine Z.eSa 7 #[.int .i64 8, Z.n a.a, .string Z.E, .int .i64 0, .slice (some ⟨k9, 0, none⟩) 2 2] (y18.ext x25) (fun w35 u9 b32 => ⟨(Gx.not_clear (by kernel_rfl)), ?_⟩)
    have zw35 := u9.size
    refine Gx.anyE_done (by kernel_rfl) ?_ _
    refine Gx.block_normal (Z.x ?_)
    rw [Gx.forget [(0, Z.P b 0), (2, Z.P k1 0), (5, Z.P k6 0)] (by kernel_rfl)]
    exact hK1 _ _ _ _ (by omega) ⟨i, q11, (Nd.mk 8 a.a Z.E (0 : Int) [a, t7]), (some (⟨k9, 0, none⟩ : Addr)), 2, rfl, rfl, (gb_new (gb_ext (gb_upd y17 x24) x25) u9), ((b30.ext x25).upd1 u9), ((((b22.ext x23).upd1 x24).ext x25).upd1 u9), b32, (by omega), (by omega), (by rw [← hr, run_succ]; simp only [stepN, appLS, kbp, hbg, e11, kbq11, y10, y16, Z.ifs, reduceIte]), ok11, (KV.of_row [(a, A, c), (t7, A9, c9)] (n := 10) (b31.upd1 u9) rfl ⟨by omega, by omega, (by simp only [List.mem_cons, List.not_mem_nil, or_false, not_or]; omega)⟩ (by intro p hp; simp only [List.mem_cons, List.not_mem_nil, or_false] at hp; rcases hp with rfl | rfl; exact (KV.top ((((hkv.ext x23).upd x24).ext x25).upd u9)); exact (KV.top ((kv8.ext x25).upd u9)))), f11, ⟨by omega, by omega⟩⟩
  rw [h_g59]
  refine Z.p [19] [20, 21, 22, 23, 24, 25, 26, 27, 28, 29, 30, 31, 32, 33] [(60, Z.P b 0)] ?_
  refine Z.k (fun R hR => at_p b S p Z.k13 _ R b21 hf (hR _ _ ?_))
  refine Z.p [21, 22] [23, 24, 25, 26, 27, 28, 29, 30, 31, 32, 33] [(63, .bool (isB p Z.k13)), (62, .bool (isB p Z.k13))] ?_
  refine Gx.split (isB p Z.k13) (fun h_g63 => ?_) (fun h_g63 => ?_)
  · rw [h_g63]
    refine Z.p [23, 24, 25, 26, 27, 28, 29, 30, 31, 32, 33] [] [(74, .bool true), (73, undef), (72, undef), (71, .bool true), (70, .bool true), (69, undef), (68, undef), (67, .bool true), (66, .bool true), (65, undef), (64, undef)] ?_
    refine Z.e (Z.ct ?_)
    refine wp_skip (Z.x (wp_block ?_))
    have p_g47 := Gx.k0 h_g47
    have p_g55 := Gx.k0 h_g55
    have y19 := Z.a h_g47 (Z.a h_g55 (Z.a h_g59 h_g63))
    have hbg : begB p = true := by simp only [begB, kbp, y19, Bool.true_and, Bool.true_or, Bool.or_true, Bool.false_or, Bool.or_false, Bool.and_true]
    refine Gx.drawE (S := fun w' => Gx.Has w' k6 (.cells (Z.T a A c) 24)) [7] (by kernel_rfl) (fun w36 x26 => ?_)
    have zw36 := x26.size
    refine Z.eh (b23.ext x26) (fun hS9 => ?_)
    refine Z.et 0 (Z.P k6 1) (fun _ => hS9) ?_
    refine Z.es 1 [6, 7] 1 (Z.n a.a) (fun _ hs => hs) hS9 ?_
    refine Z.es 2 [5, 6, 7] 0 (.agg (Z.T a A c)) (fun _ hs => hs) hS9 ?_
    refine Z.et 3 (Z.P b 0) (fun _ => hS9) ?_
    have y20 := gb_ext (gb_upd (gb_refl w b) x16) x26
    refine Z.eP 4 (fun R hR hE => (ih i (by omega)).f_atom b S p _ R (b21.ext x26) ho hf (by omega) (fun w37 q12 e12 f12 x27 => hE _ _ (And.intro rfl (hP _ q12 (by have zl : (run S k (.appL t4) q8).2 = q12 := (by rw [← hr, run_succ]; simp only [run_succ, stepN, appLS, kbp, hbg, y10, y19, Z.ifs, reduceIte, e12, idl f12]); rw [run_succ]; simp only [stepN, appS, maps, y11, e8, kbq8, y10, y19, Z.ifs, reduceIte, zl, idl f12]) f12 (gb_upd y20 x27)))) (fun w37 t8 A10 c10 q12 e12 f12 x27 b33 kv9 => hR _ _ ⟨(fun _ => ((b23.ext x26).upd1 x27)), ?_⟩))
    have zw37 := x27.size
    have tb33 := b33.lt
    have kbq12 := (okB_iff q12).2 f12
    obtain ⟨ok12, ok12m, ok12x, ok12y⟩ : Tr S p q12 := run_facts ho e12
    have lt7 := atom_lt ho (by omega) hbg e12
    have y21 := (b23.ext x26).upd1 x27
    refine Z.eR 5 (.cells #[Z.n a.k, Z.n a.a, .string a.nm, .int .i64 a.n, .slice A a.ks.length c, Z.n t8.k, Z.n t8.a, .string t8.nm, .int .i64 t8.n, .slice A10 t8.ks.length c10] 24) 2 2 (fun k10 w38 l10 x28 b34 => ⟨(fun _ => (y21.ext x28)), ?_⟩)
    have zw38 := x28.size
    have tb34 := b34.lt
    refine Z.eh (y21.ext x28) (fun hS10 => ?_)
    refine Z.et 6 (.agg #[.int .i64 8, Z.n a.a, .string Z.E, .int .i64 0, .slice (some ⟨k10, 0, none⟩) 2 2]) (fun _ => hS10) ?_
    refine Z.eSa 7 #[.int .i64 8, Z.n a.a, .string Z.E, .int .i64 0, .slice (some ⟨k10, 0, none⟩) 2 2] (y21.ext x28) (fun w39 u10 b35 => ⟨(Gx.not_clear (by kernel_rfl)), ?_⟩)
    have zw39 := u10.size
    refine Gx.anyE_done (by kernel_rfl) ?_ _
    refine Gx.block_normal (Z.x ?_)
    rw [Gx.forget [(0, Z.P b 0), (2, Z.P k1 0), (5, Z.P k6 0)] (by kernel_rfl)]
    exact hK1 _ _ _ _ (by omega) ⟨i, q12, (Nd.mk 8 a.a Z.E (0 : Int) [a, t8]), (some (⟨k10, 0, none⟩ : Addr)), 2, rfl, rfl, (gb_new (gb_ext (gb_upd y20 x27) x28) u10), ((b33.ext x28).upd1 u10), ((((b22.ext x26).upd1 x27).ext x28).upd1 u10), b35, (by omega), (by omega), (by rw [← hr, run_succ]; simp only [stepN, appLS, kbp, hbg, e12, kbq12, y10, y19, Z.ifs, reduceIte]), ok12, (KV.of_row [(a, A, c), (t8, A10, c10)] (n := 10) (b34.upd1 u10) rfl ⟨by omega, by omega, (by simp only [List.mem_cons, List.not_mem_nil, or_false, not_or]; omega)⟩ (by intro p hp; simp only [List.mem_cons, List.not_mem_nil, or_false] at hp; rcases hp with rfl | rfl; exact (KV.top ((((hkv.ext x26).upd x27).ext x28).upd u10)); exact (KV.top ((kv9.ext x28).upd u10)))), f12, ⟨by omega, by omega⟩⟩
  rw [h_g63]
  refine Z.p [23] [24, 25, 26, 27, 28, 29, 30, 31, 32, 33] [(64, Z.P b 0)] ?_
  refine Z.k (fun R hR => at_p b S p Z.k14 _ R b21 hf (hR _ _ ?_))
  refine Z.p [25, 26] [27, 28, 29, 30, 31, 32, 33] [(67, .bool (isB p Z.k14)), (66, .bool (isB p Z.k14))] ?_
  refine Gx.split (isB p Z.k14) (fun h_g67 => ?_) (fun h_g67 => ?_)
  · rw [h_g67]
    refine Z.p [27, 28, 29, 30, 31, 32, 33] [] [(74, .bool true), (73, undef), (72, undef), (71, .bool true), (70, .bool true), (69, undef), (68, undef)] ?_
    refine Z.e (Z.ct ?_)
    refine wp_skip (Z.x (wp_block ?_))
    have p_g47 := Gx.k0 h_g47
    have p_g55 := Gx.k0 h_g55
    have y22 := Z.a h_g47 (Z.a h_g55 (Z.a h_g59 (Z.a h_g63 h_g67)))
    have hbg : begB p = true := by simp only [begB, kbp, y22, Bool.true_and, Bool.true_or, Bool.or_true, Bool.false_or, Bool.or_false, Bool.and_true]
    refine Gx.drawE (S := fun w' => Gx.Has w' k6 (.cells (Z.T a A c) 24)) [7] (by kernel_rfl) (fun w40 x29 => ?_)
    have zw40 := x29.size
    refine Z.eh (b23.ext x29) (fun hS11 => ?_)
    refine Z.et 0 (Z.P k6 1) (fun _ => hS11) ?_
    refine Z.es 1 [6, 7] 1 (Z.n a.a) (fun _ hs => hs) hS11 ?_
    refine Z.es 2 [5, 6, 7] 0 (.agg (Z.T a A c)) (fun _ hs => hs) hS11 ?_
    refine Z.et 3 (Z.P b 0) (fun _ => hS11) ?_
    have y23 := gb_ext (gb_upd (gb_refl w b) x16) x29
    refine Z.eP 4 (fun R hR hE => (ih i (by omega)).f_atom b S p _ R (b21.ext x29) ho hf (by omega) (fun w41 q13 e13 f13 x30 => hE _ _ (And.intro rfl (hP _ q13 (by have zl : (run S k (.appL t4) q8).2 = q13 := (by rw [← hr, run_succ]; simp only [run_succ, stepN, appLS, kbp, hbg, y10, y22, Z.ifs, reduceIte, e13, idl f13]); rw [run_succ]; simp only [stepN, appS, maps, y11, e8, kbq8, y10, y22, Z.ifs, reduceIte, zl, idl f13]) f13 (gb_upd y23 x30)))) (fun w41 t9 A11 c11 q13 e13 f13 x30 b36 kv10 => hR _ _ ⟨(fun _ => ((b23.ext x29).upd1 x30)), ?_⟩))
    have zw41 := x30.size
    have tb36 := b36.lt
    have kbq13 := (okB_iff q13).2 f13
    obtain ⟨ok13, ok13m, ok13x, ok13y⟩ : Tr S p q13 := run_facts ho e13
    have lt8 := atom_lt ho (by omega) hbg e13
    have y24 := (b23.ext x29).upd1 x30
    refine Z.eR 5 (.cells #[Z.n a.k, Z.n a.a, .string a.nm, .int .i64 a.n, .slice A a.ks.length c, Z.n t9.k, Z.n t9.a, .string t9.nm, .int .i64 t9.n, .slice A11 t9.ks.length c11] 24) 2 2 (fun k11 w42 l11 x31 b37 => ⟨(fun _ => (y24.ext x31)), ?_⟩)
    have zw42 := x31.size
    have tb37 := b37.lt
    refine Z.eh (y24.ext x31) (fun hS12 => ?_)
    refine Z.et 6 (.agg #[.int .i64 8, Z.n a.a, .string Z.E, .int .i64 0, .slice (some ⟨k11, 0, none⟩) 2 2]) (fun _ => hS12) ?_
    refine Z.eSa 7 #[.int .i64 8, Z.n a.a, .string Z.E, .int .i64 0, .slice (some ⟨k11, 0, none⟩) 2 2] (y24.ext x31) (fun w43 u11 b38 => ⟨(Gx.not_clear (by kernel_rfl)), ?_⟩)
    have zw43 := u11.size
    refine Gx.anyE_done (by kernel_rfl) ?_ _
    refine Gx.block_normal (Z.x ?_)
    rw [Gx.forget [(0, Z.P b 0), (2, Z.P k1 0), (5, Z.P k6 0)] (by kernel_rfl)]
    exact hK1 _ _ _ _ (by omega) ⟨i, q13, (Nd.mk 8 a.a Z.E (0 : Int) [a, t9]), (some (⟨k11, 0, none⟩ : Addr)), 2, rfl, rfl, (gb_new (gb_ext (gb_upd y23 x30) x31) u11), ((b36.ext x31).upd1 u11), ((((b22.ext x29).upd1 x30).ext x31).upd1 u11), b38, (by omega), (by omega), (by rw [← hr, run_succ]; simp only [stepN, appLS, kbp, hbg, e13, kbq13, y10, y22, Z.ifs, reduceIte]), ok13, (KV.of_row [(a, A, c), (t9, A11, c11)] (n := 10) (b37.upd1 u11) rfl ⟨by omega, by omega, (by simp only [List.mem_cons, List.not_mem_nil, or_false, not_or]; omega)⟩ (by intro p hp; simp only [List.mem_cons, List.not_mem_nil, or_false] at hp; rcases hp with rfl | rfl; exact (KV.top ((((hkv.ext x29).upd x30).ext x31).upd u11)); exact (KV.top ((kv10.ext x31).upd u11)))), f13, ⟨by omega, by omega⟩⟩
  rw [h_g67]
  refine Z.p [27] [28, 29, 30, 31, 32, 33] [(68, Z.P b 0)] ?_
  refine Z.k (fun R hR => at_p b S p Z.k4 _ R b21 hf (hR _ _ ?_))
  refine Z.p [29, 30] [31, 32, 33] [(71, .bool (isB p Z.k4)), (70, .bool (isB p Z.k4))] ?_
  refine Gx.split (isB p Z.k4) (fun h_g71 => ?_) (fun h_g71 => ?_)
  · rw [h_g71]
    refine Z.p [31, 32, 33] [] [(74, .bool true), (73, undef), (72, undef)] ?_
    refine Z.e (Z.ct ?_)
    refine wp_skip (Z.x (wp_block ?_))
    have p_g47 := Gx.k0 h_g47
    have p_g55 := Gx.k0 h_g55
    have y25 := Z.a h_g47 (Z.a h_g55 (Z.a h_g59 (Z.a h_g63 (Z.a h_g67 h_g71))))
    have hbg : begB p = true := by simp only [begB, kbp, y25, Bool.true_and, Bool.true_or, Bool.or_true, Bool.false_or, Bool.or_false, Bool.and_true]
    refine Gx.drawE (S := fun w' => Gx.Has w' k6 (.cells (Z.T a A c) 24)) [7] (by kernel_rfl) (fun w44 x32 => ?_)
    have zw44 := x32.size
    refine Z.eh (b23.ext x32) (fun hS13 => ?_)
    refine Z.et 0 (Z.P k6 1) (fun _ => hS13) ?_
    refine Z.es 1 [6, 7] 1 (Z.n a.a) (fun _ hs => hs) hS13 ?_
    refine Z.es 2 [5, 6, 7] 0 (.agg (Z.T a A c)) (fun _ hs => hs) hS13 ?_
    refine Z.et 3 (Z.P b 0) (fun _ => hS13) ?_
    have y26 := gb_ext (gb_upd (gb_refl w b) x16) x32
    refine Z.eP 4 (fun R hR hE => (ih i (by omega)).f_atom b S p _ R (b21.ext x32) ho hf (by omega) (fun w45 q14 e14 f14 x33 => hE _ _ (And.intro rfl (hP _ q14 (by have zl : (run S k (.appL t4) q8).2 = q14 := (by rw [← hr, run_succ]; simp only [run_succ, stepN, appLS, kbp, hbg, y10, y25, Z.ifs, reduceIte, e14, idl f14]); rw [run_succ]; simp only [stepN, appS, maps, y11, e8, kbq8, y10, y25, Z.ifs, reduceIte, zl, idl f14]) f14 (gb_upd y26 x33)))) (fun w45 t10 A12 c12 q14 e14 f14 x33 b39 kv11 => hR _ _ ⟨(fun _ => ((b23.ext x32).upd1 x33)), ?_⟩))
    have zw45 := x33.size
    have tb39 := b39.lt
    have kbq14 := (okB_iff q14).2 f14
    obtain ⟨ok14, ok14m, ok14x, ok14y⟩ : Tr S p q14 := run_facts ho e14
    have lt9 := atom_lt ho (by omega) hbg e14
    have y27 := (b23.ext x32).upd1 x33
    refine Z.eR 5 (.cells #[Z.n a.k, Z.n a.a, .string a.nm, .int .i64 a.n, .slice A a.ks.length c, Z.n t10.k, Z.n t10.a, .string t10.nm, .int .i64 t10.n, .slice A12 t10.ks.length c12] 24) 2 2 (fun k12 w46 l12 x34 b40 => ⟨(fun _ => (y27.ext x34)), ?_⟩)
    have zw46 := x34.size
    have tb40 := b40.lt
    refine Z.eh (y27.ext x34) (fun hS14 => ?_)
    refine Z.et 6 (.agg #[.int .i64 8, Z.n a.a, .string Z.E, .int .i64 0, .slice (some ⟨k12, 0, none⟩) 2 2]) (fun _ => hS14) ?_
    refine Z.eSa 7 #[.int .i64 8, Z.n a.a, .string Z.E, .int .i64 0, .slice (some ⟨k12, 0, none⟩) 2 2] (y27.ext x34) (fun w47 u12 b41 => ⟨(Gx.not_clear (by kernel_rfl)), ?_⟩)
    have zw47 := u12.size
    refine Gx.anyE_done (by kernel_rfl) ?_ _
    refine Gx.block_normal (Z.x ?_)
    rw [Gx.forget [(0, Z.P b 0), (2, Z.P k1 0), (5, Z.P k6 0)] (by kernel_rfl)]
    exact hK1 _ _ _ _ (by omega) ⟨i, q14, (Nd.mk 8 a.a Z.E (0 : Int) [a, t10]), (some (⟨k12, 0, none⟩ : Addr)), 2, rfl, rfl, (gb_new (gb_ext (gb_upd y26 x33) x34) u12), ((b39.ext x34).upd1 u12), ((((b22.ext x32).upd1 x33).ext x34).upd1 u12), b41, (by omega), (by omega), (by rw [← hr, run_succ]; simp only [stepN, appLS, kbp, hbg, e14, kbq14, y10, y25, Z.ifs, reduceIte]), ok14, (KV.of_row [(a, A, c), (t10, A12, c12)] (n := 10) (b40.upd1 u12) rfl ⟨by omega, by omega, (by simp only [List.mem_cons, List.not_mem_nil, or_false, not_or]; omega)⟩ (by intro p hp; simp only [List.mem_cons, List.not_mem_nil, or_false] at hp; rcases hp with rfl | rfl; exact (KV.top ((((hkv.ext x32).upd x33).ext x34).upd u12)); exact (KV.top ((kv11.ext x34).upd u12)))), f14, ⟨by omega, by omega⟩⟩
  rw [h_g71]
  refine Z.p [31] [32, 33] [(72, Z.P b 0)] ?_
  refine Z.k (fun R hR => at_p b S p Z.k18 _ R b21 hf (hR _ _ ?_))
  refine Z.p [33] [] [(74, .bool (isB p Z.k18))] ?_
  refine Z.e (Z.c (isB p Z.k18) (fun h_c74 => ?_) (fun h_c74 => ?_))
  · skip
    refine wp_skip (Z.x (wp_block ?_))
    have p_g47 := Gx.k0 h_g47
    have p_g55 := Gx.k0 h_g55
    have y28 := Z.a h_g47 (Z.a h_g55 (Z.a h_g59 (Z.a h_g63 (Z.a h_g67 (Z.a h_g71 h_c74)))))
    have hbg : begB p = true := by simp only [begB, kbp, y28, Bool.true_and, Bool.true_or, Bool.or_true, Bool.false_or, Bool.or_false, Bool.and_true]
    refine Gx.drawE (S := fun w' => Gx.Has w' k6 (.cells (Z.T a A c) 24)) [7] (by kernel_rfl) (fun w48 x35 => ?_)
    have zw48 := x35.size
    refine Z.eh (b23.ext x35) (fun hS15 => ?_)
    refine Z.et 0 (Z.P k6 1) (fun _ => hS15) ?_
    refine Z.es 1 [6, 7] 1 (Z.n a.a) (fun _ hs => hs) hS15 ?_
    refine Z.es 2 [5, 6, 7] 0 (.agg (Z.T a A c)) (fun _ hs => hs) hS15 ?_
    refine Z.et 3 (Z.P b 0) (fun _ => hS15) ?_
    have y29 := gb_ext (gb_upd (gb_refl w b) x16) x35
    refine Z.eP 4 (fun R hR hE => (ih i (by omega)).f_atom b S p _ R (b21.ext x35) ho hf (by omega) (fun w49 q15 e15 f15 x36 => hE _ _ (And.intro rfl (hP _ q15 (by have zl : (run S k (.appL t4) q8).2 = q15 := (by rw [← hr, run_succ]; simp only [run_succ, stepN, appLS, kbp, hbg, y10, y28, Z.ifs, reduceIte, e15, idl f15]); rw [run_succ]; simp only [stepN, appS, maps, y11, e8, kbq8, y10, y28, Z.ifs, reduceIte, zl, idl f15]) f15 (gb_upd y29 x36)))) (fun w49 t11 A13 c13 q15 e15 f15 x36 b42 kv12 => hR _ _ ⟨(fun _ => ((b23.ext x35).upd1 x36)), ?_⟩))
    have zw49 := x36.size
    have tb42 := b42.lt
    have kbq15 := (okB_iff q15).2 f15
    obtain ⟨ok15, ok15m, ok15x, ok15y⟩ : Tr S p q15 := run_facts ho e15
    have lt10 := atom_lt ho (by omega) hbg e15
    have y30 := (b23.ext x35).upd1 x36
    refine Z.eR 5 (.cells #[Z.n a.k, Z.n a.a, .string a.nm, .int .i64 a.n, .slice A a.ks.length c, Z.n t11.k, Z.n t11.a, .string t11.nm, .int .i64 t11.n, .slice A13 t11.ks.length c13] 24) 2 2 (fun k13 w50 l13 x37 b43 => ⟨(fun _ => (y30.ext x37)), ?_⟩)
    have zw50 := x37.size
    have tb43 := b43.lt
    refine Z.eh (y30.ext x37) (fun hS16 => ?_)
    refine Z.et 6 (.agg #[.int .i64 8, Z.n a.a, .string Z.E, .int .i64 0, .slice (some ⟨k13, 0, none⟩) 2 2]) (fun _ => hS16) ?_
    refine Z.eSa 7 #[.int .i64 8, Z.n a.a, .string Z.E, .int .i64 0, .slice (some ⟨k13, 0, none⟩) 2 2] (y30.ext x37) (fun w51 u13 b44 => ⟨(Gx.not_clear (by kernel_rfl)), ?_⟩)
    have zw51 := u13.size
    refine Gx.anyE_done (by kernel_rfl) ?_ _
    refine Gx.block_normal (Z.x ?_)
    rw [Gx.forget [(0, Z.P b 0), (2, Z.P k1 0), (5, Z.P k6 0)] (by kernel_rfl)]
    exact hK1 _ _ _ _ (by omega) ⟨i, q15, (Nd.mk 8 a.a Z.E (0 : Int) [a, t11]), (some (⟨k13, 0, none⟩ : Addr)), 2, rfl, rfl, (gb_new (gb_ext (gb_upd y29 x36) x37) u13), ((b42.ext x37).upd1 u13), ((((b22.ext x35).upd1 x36).ext x37).upd1 u13), b44, (by omega), (by omega), (by rw [← hr, run_succ]; simp only [stepN, appLS, kbp, hbg, e15, kbq15, y10, y28, Z.ifs, reduceIte]), ok15, (KV.of_row [(a, A, c), (t11, A13, c13)] (n := 10) (b43.upd1 u13) rfl ⟨by omega, by omega, (by simp only [List.mem_cons, List.not_mem_nil, or_false, not_or]; omega)⟩ (by intro p hp; simp only [List.mem_cons, List.not_mem_nil, or_false] at hp; rcases hp with rfl | rfl; exact (KV.top ((((hkv.ext x35).upd x36).ext x37).upd u13)); exact (KV.top ((kv12.ext x37).upd u13)))), f15, ⟨by omega, by omega⟩⟩
  refine wp_exit (Gx.then_exit (Gx.then_exit (Gx.block_exit (Z.x ?_))))
  have p_g47 := Gx.k0 h_g47
  have p_g55 := Gx.k0 h_g55
  have y31 := Z.a h_g47 (Z.a h_g55 (Z.a h_g59 (Z.a h_g63 (Z.a h_g67 (Z.a h_g71 h_c74)))))
  have hbg : begB p = false := by simp only [begB, kbp, y31, Bool.true_and, Bool.true_or, Bool.or_true, Bool.false_or, Bool.or_false, Bool.and_true]
  have e16 : run S k (.appL t4) q8 = (a, p) := by rw [← hr, run_succ]; simp only [stepN, appLS, kbp, hbg, y10, y31, Z.ifs, reduceIte]
  refine Z.r [0, 1] ?_
  refine Z.L 0 (.agg (Z.T a A c)) b23 ?_
  refine Z.Sa (Z.T a A c) b22 (fun w52 u14 b45 zw52 => ?_)
  refine Z.e (wp_ret (Gx.ret (Gx.res_c (u := .agg (Z.T a A c)) rfl (by kernel_rfl) b45 (by kernel_rfl)) ?_))
  exact hK _ a A c p (by rw [run_succ]; simp only [stepN, appS, maps, y11, e8, kbq8, e16, y10, y31, Z.ifs, reduceIte]) hf (gb_new (gb_upd (gb_refl w b) x16) u14) (b21.upd1 u14) (KV.top (hkv.upd u14))
theorem b4_p (k : Nat) (b : Nat) (S : ByteArray) (q : Rs) (w : World) (K : Ending → World → Prop) (ih : ∀ j, j ≤ k → SpecP j) (hb : Gx.Has w b (rdP S q)) (hok : Ok S q) (f0 : q.fk = 0) (hmu : 16 * M S q + 5 ≤ k + 1) (hP : (PQ w b K ((run S (k + 1) .app q).2))) (hK : ∀ w' t A c q', run S (k + 1) .app q = (t, q') → q'.fk = 0 → Gx.G w w' (some b) → Gx.Has w' b (rdP S q') → KV (In w.heap.size w'.heap.size []) w' t.ks A c → K (.returned (.agg (Z.T t A c))) w') :
    Calls Tryd.prog 92 #[Z.P b 0, .int .i64 4] w K := by
  refine Z.en 59 Tryd.func92 ?_
  have tbb := hb.lt
  have kbq := (okB_iff q).2 f0
  refine Z.r [0] ?_
  refine Z.N Z.c0 (fun k1 w1 l1 x1 b1 zw1 tb1 => ?_)
  refine Z.e (wp_scope_straight ?_)
  refine wp_seq (Z.st [(9, .bool true), (8, .int .i64 4)] ?_)
  refine Z.r [0, 1, 2] ?_
  refine Z.p [0] [1, 2] [(10, Z.P b 0)] ?_
  have y1 := gb_ext (gb_refl w b) x1
  refine Z.kP (fun R hR hE => app_p k b S q _ R  ih (hb.ext x1) hok f0 (by omega) (fun w2 q1 e1 f1 x2 => hE _ _ (And.intro rfl (hP _ q1 (by simp only [stepN, appS, kbq, Z.ifs, reduceIte, e1, idl f1]) f1 (gb_upd y1 x2)))) (fun w2 t1 A1 c1 q1 e1 f1 x2 b2 kv1 => hR _ _ ?_))
  have zw2 := x2.size
  have tb2 := b2.lt
  have kbq1 := (okB_iff q1).2 f1
  obtain ⟨ok1, ok1m, ok1x, ok1y⟩ : Tr S q q1 := run_facts hok e1
  refine Z.Sa (Z.T t1 A1 c1) (b1.upd1 x2) (fun w3 u1 b3 zw3 => ?_)
  refine Z.e (wp_ret (Gx.then_ret (Gx.scope_ret ?_)))
  refine Gx.ret (Gx.res_c (u := .agg (Z.T t1 A1 c1)) rfl (by kernel_rfl) b3 (by kernel_rfl)) ?_
  exact hK _ t1 A1 c1 q1 (by simp only [stepN, appS, kbq, e1, kbq1, Z.ifs, reduceIte]) f1 (gb_new (gb_upd y1 x2) u1) (b2.upd1 u1) (KV.top (kv1.upd u1))
theorem id_num {S : ByteArray} {q q1 : Rs} (f : q1.fk ≠ 0) : (numS S q q1).2 = q1 := by
  unfold numS
  rw [id_ok f, if_neg (by decide)]
  exact id_nx f S
theorem atom_p (k : Nat) (b : Nat) (S : ByteArray) (q : Rs) (w : World) (K : Ending → World → Prop) (ih : ∀ j, j ≤ k → SpecP j) (hb : Gx.Has w b (rdP S q)) (hok : Ok S q) (f0 : q.fk = 0) (hmu : 16 * M S q + 3 ≤ k + 1) (hP : (PQ w b K ((run S (k + 1) .atom q).2))) (hK : ∀ w' t A c q', run S (k + 1) .atom q = (t, q') → q'.fk = 0 → Gx.G w w' (some b) → Gx.Has w' b (rdP S q') → KV (In w.heap.size w'.heap.size []) w' t.ks A c → K (.returned (.agg (Z.T t A c))) w') :
    Calls Tryd.prog 113 #[Z.P b 0] w K := by
  refine Z.en 114 Tryd.func113 ?_
  have tbb := hb.lt
  have kbq := (okB_iff q).2 f0
  refine Z.r [0] ?_
  refine Z.N Z.c0 (fun k1 w1 l1 x1 b1 zw1 tb1 => ?_)
  refine Z.e (Z.r [0, 1, 2, 3, 4, 5, 6, 7] ?_)
  refine Z.p [0, 1, 2, 3] [4, 5, 6, 7] [(10, Z.P b 2), (9, Z.P b 1), (8, Z.P b 0), (7, Z.P b 0)] ?_
  refine Z.L 2 (Z.n q.a) (hb.ext x1) ?_
  refine Z.p [5] [6, 7] [(12, .agg #[.int .i64 0, Z.n q.a, .string Z.E, .int .i64 0, .slice none 0 0])] ?_
  refine Z.N Z.c0 (fun k2 w2 l2 x2 b2 zw2 tb2 => ?_)
  refine Z.Sa #[.int .i64 0, Z.n q.a, .string Z.E, .int .i64 0, .slice none 0 0] b2 (fun w3 u1 b3 zw3 => ?_)
  refine Z.e (wp_seq (wp_block (Z.r [0, 1, 2, 3, 4, 5, 6] ?_)))
  refine Z.p [0, 1, 2, 3] [4, 5, 6] [(55, Z.P b 1), (54, Z.P b 1), (53, Z.P b 0), (52, Z.P b 0)] ?_
  have y1 := ((hb.ext x1).ext x2).upd1 u1
  refine Z.L 1 (Z.n q.k) y1 ?_
  refine Z.p [5, 6] [] [(51, .bool (((q.k : Nat) : Int) == (2 : Int))), (57, .bool (((q.k : Nat) : Int) == (2 : Int)))] ?_
  refine Z.e (Z.c (((q.k : Nat) : Int) == (2 : Int)) (fun h_c51 => ?_) (fun h_c51 => ?_))
  · skip
    refine Z.r [0, 1, 2] ?_
    refine Z.p [0] [1, 2] [(58, Z.P b 0)] ?_
    have p_c51 := Gx.k1 h_c51
    have y2 := gb_new (gb_ext (gb_ext (gb_refl w b) x1) x2) u1
    refine Z.kP (fun R hR hE => named_p b S q (6 : Int) _ R y1 hok f0 (fun w4 q1 e1 f1 x3 => hE _ _ (And.intro rfl (hP _ q1 (by rw [run_succ]; simp only [stepN, atomS, roundS, squareS, squareLS, Nd.ks, maps, kbq, h_c51, Z.ifs, reduceIte, e1, nm_nextp (S := S) f0 (by omega) e1, idl f1, id_num f1]) f1 (gb_upd y2 x3)))) (fun w4 q1 e1 f1 x3 b4 => hR _ _ ?_))
    have zw4 := x3.size
    have tb4 := b4.lt
    have kbq1 := (okB_iff q1).2 f1
    obtain ⟨ok1, ok1m, ok1x, ok1y⟩ : Tr S q q1 := by have := name_tr hok; rw [e1] at this; exact this
    have ok1l : M S q1 < M S q := by have := name_lt hok (by rw [e1]; exact kbq1); rw [e1] at this; exact this
    have nxq1 := nm_next f0 f1 e1
    refine Z.Sa #[.int .i64 6, Z.n q.a, .string q.t, .int .i64 0, .slice none 0 0] (((b1.ext x2).upd1 u1).upd1 x3) (fun w5 u2 b5 zw5 => ?_)
    refine Z.e (wp_ret (Gx.block_ret (Gx.then_ret (Gx.ret (Gx.res_c (u := .agg #[.int .i64 6, Z.n q.a, .string q.t, .int .i64 0, .slice none 0 0]) rfl (by kernel_rfl) b5 (by kernel_rfl)) ?_))))
    exact hK _ (Nd.mk 6 q.a q.t (0 : Int) []) none 0 q1 (by rw [run_succ]; simp only [stepN, atomS, roundS, squareS, squareLS, Nd.ks, maps, kbq, e1, kbq1, nxq1, h_c51, Z.ifs, reduceIte]) f1 (gb_new (gb_upd y2 x3) u2) (b4.upd1 u2) KV.nil
  refine Z.r [0, 1, 2, 3, 4, 5, 6] ?_
  refine Z.p [0, 1, 2, 3] [4, 5, 6] [(64, Z.P b 1), (63, Z.P b 1), (62, Z.P b 0), (61, Z.P b 0)] ?_
  have p_c51 := Gx.k0 h_c51
  refine Z.L 1 (Z.n q.k) y1 ?_
  refine Z.p [5, 6] [] [(60, .bool (((q.k : Nat) : Int) == (1 : Int))), (66, .bool (((q.k : Nat) : Int) == (1 : Int)))] ?_
  refine Z.e (Z.c (((q.k : Nat) : Int) == (1 : Int)) (fun h_c60 => ?_) (fun h_c60 => ?_))
  · skip
    refine Z.g [0, 1, 2, 3, 4, 5] ?_
    refine Z.p [0] [1, 2, 3, 4, 5] [(67, Z.P b 0)] ?_
    have p_c60 := Gx.k1 h_c60
    have y3 := gb_new (gb_ext (gb_ext (gb_refl w b) x1) x2) u1
    refine Z.kP (fun R hR hE => number_p b S q _ R y1 hok f0 (fun w6 q2 e2 f2 x4 => hE _ _ (And.intro rfl (hP _ q2 (by rw [run_succ]; simp only [stepN, atomS, roundS, squareS, squareLS, Nd.ks, maps, kbq, h_c51, h_c60, Z.ifs, reduceIte, (show nextR S q = q2 from (num_yes (by omega)).symm.trans e2), idl f2, id_num f2]) f2 (gb_upd y3 x4)))) (fun w6 q2 hkq2 e2 f2 x4 b6 => hR _ _ ?_))
    have zw6 := x4.size
    have tb6 := b6.lt
    obtain ⟨ok2, ok2m, ok2x, ok2y⟩ : Tr S q q2 := e2 ▸ next_tr hok
    have kbq2 := (okB_iff q2).2 f2
    refine Z.p [2] [3, 4, 5] [(69, Z.P k2 0)] ?_
    refine Z.S 0 (.int .i64 3) (b3.upd1 x4) #[.int .i64 3, Z.n q.a, .string Z.E, .int .i64 0, .slice none 0 0] (fun w7 u3 b7 zw7 => ?_)
    refine Z.p [4] [5] [(70, Z.P k2 3)] ?_
    refine Z.S 3 (Z.n q.n) b7 #[.int .i64 3, Z.n q.a, .string Z.E, Z.n q.n, .slice none 0 0] (fun w8 u4 b8 zw8 => ?_)
    refine Gx.ops_nil (Gx.block_normal (Z.x (Z.r [0, 1] ?_)))
    refine Z.L 0 (.agg #[.int .i64 3, Z.n q.a, .string Z.E, Z.n q.n, .slice none 0 0]) b8 ?_
    refine Z.Sa #[.int .i64 3, Z.n q.a, .string Z.E, Z.n q.n, .slice none 0 0] (((((b1.ext x2).upd1 u1).upd1 x4).upd1 u3).upd1 u4) (fun w9 u5 b9 zw9 => ?_)
    refine Z.e (wp_ret (Gx.ret (Gx.res_c (u := .agg #[.int .i64 3, Z.n q.a, .string Z.E, Z.n q.n, .slice none 0 0]) rfl (by kernel_rfl) b9 (by kernel_rfl)) ?_))
    exact hK _ (Nd.mk 3 q.a Z.E ((q.n : Nat) : Int) []) none 0 q2 (by rw [run_succ]; simp only [stepN, atomS, roundS, squareS, squareLS, Nd.ks, maps, kbq, e2, kbq2, h_c51, h_c60, Z.ifs, reduceIte]) f2 (gb_new (gb_new (gb_new (gb_upd y3 x4) u3) u4) u5) (((b6.upd1 u3).upd1 u4).upd1 u5) KV.nil
  refine Z.r [0, 1, 2] ?_
  refine Z.p [0] [1, 2] [(72, Z.P b 0)] ?_
  have p_c60 := Gx.k0 h_c60
  have y4 := gb_new (gb_ext (gb_ext (gb_refl w b) x1) x2) u1
  have y5 := Z.a h_c51 h_c60
  refine Z.kP (fun R hR hE => eat_p b S q Z.k29 _ R y1 hok f0 (fun w10 q3 e3 f3 x5 => hE _ _ (And.intro rfl (hP _ q3 (by rw [run_succ]; simp only [stepN, atomS, roundS, squareS, squareLS, Nd.ks, maps, kbq, y5, Z.ifs, reduceIte, e3, has_pan e3 f3 f0, idl f3, id_num f3]) f3 (gb_upd y4 x5)))) (fun w10 q3 e3 f3 x5 b10 => hR _ _ ?_))
  have zw10 := x5.size
  have tb10 := b10.lt
  obtain ⟨ok3, ok3m, ok3x, ok3y⟩ : Tr S q q3 := e3 ▸ has_tr hok
  have kbq3 := (okB_iff q3).2 f3
  refine Z.p [2] [] [(71, .bool (isB q Z.k29))] ?_
  refine Z.e (Z.c (isB q Z.k29) (fun h_c71 => ?_) (fun h_c71 => ?_))
  · skip
    refine Z.g [0, 1, 2, 3, 4, 5, 6] ?_
    refine Z.p [0] [1, 2, 3, 4, 5, 6] [(74, Z.P b 0)] ?_
    have lt1 := (Z.lt hok h_c71 e3)
    refine Z.kP (fun R hR hE => number_p b S q3 _ R b10 ok3 f3 (fun w11 q4 e4 f4 x6 => hE _ _ (And.intro rfl (hP _ q4 (by rw [run_succ]; simp only [stepN, atomS, roundS, squareS, squareLS, Nd.ks, maps, kbq, e3, kbq3, y5, h_c71, Z.ifs, reduceIte, (show numR S q3 = q4 from e4), num_2 (S := S) (q := q) kbq3, idl f4, id_num f4]) f4 (gb_upd (gb_upd y4 x5) x6)))) (fun w11 q4 hkq4 e4 f4 x6 b11 => hR _ _ ?_))
    have zw11 := x6.size
    have tb11 := b11.lt
    obtain ⟨ok4, ok4m, ok4x, ok4y⟩ : Tr S q3 q4 := e4 ▸ next_tr ok3
    have kbq4 := (okB_iff q4).2 f4
    have nsq4 := num_1 (S := S) (q := q) kbq3 hkq4
    refine Gx.pure_eq [2] [3, 4, 5, 6] [(76, .int .i64 (IntKind.i64.wrap (0 - ((q3.n : Nat) : Int))))] [(76, .int .i64 (-((q3.n : Nat) : Int)))] rfl (by kernel_rfl) (Gx.eqI (by rw [IntWalk.i64_in _ (by have := ok3.n; omega)]; omega)) ?_
    refine Z.p [3] [4, 5, 6] [(77, Z.P k2 0)] ?_
    refine Z.S 0 (.int .i64 3) ((b3.upd1 x5).upd1 x6) #[.int .i64 3, Z.n q.a, .string Z.E, .int .i64 0, .slice none 0 0] (fun w12 u6 b12 zw12 => ?_)
    refine Z.p [5] [6] [(78, Z.P k2 3)] ?_
    refine Z.S 3 (.int .i64 (-((q3.n : Nat) : Int))) b12 #[.int .i64 3, Z.n q.a, .string Z.E, .int .i64 (-((q3.n : Nat) : Int)), .slice none 0 0] (fun w13 u7 b13 zw13 => ?_)
    refine Gx.ops_nil (Gx.block_normal (Z.x (Z.r [0, 1] ?_)))
    refine Z.L 0 (.agg #[.int .i64 3, Z.n q.a, .string Z.E, .int .i64 (-((q3.n : Nat) : Int)), .slice none 0 0]) b13 ?_
    refine Z.Sa #[.int .i64 3, Z.n q.a, .string Z.E, .int .i64 (-((q3.n : Nat) : Int)), .slice none 0 0] ((((((b1.ext x2).upd1 u1).upd1 x5).upd1 x6).upd1 u6).upd1 u7) (fun w14 u8 b14 zw14 => ?_)
    refine Z.e (wp_ret (Gx.ret (Gx.res_c (u := .agg #[.int .i64 3, Z.n q.a, .string Z.E, .int .i64 (-((q3.n : Nat) : Int)), .slice none 0 0]) rfl (by kernel_rfl) b14 (by kernel_rfl)) ?_))
    exact hK _ (Nd.mk 3 q.a Z.E (-((q3.n : Nat) : Int)) []) none 0 q4 (by rw [run_succ]; simp only [stepN, atomS, roundS, squareS, squareLS, Nd.ks, maps, kbq, e3, kbq3, e4, kbq4, hkq4, nsq4, y5, h_c71, Z.ifs, reduceIte]) f4 (gb_new (gb_new (gb_new (gb_upd (gb_upd y4 x5) x6) u6) u7) u8) (((b11.upd1 u6).upd1 u7).upd1 u8) KV.nil
  refine Z.r [0, 1, 2] ?_
  refine Z.p [0] [1, 2] [(80, Z.P b 0)] ?_
  have y6 := Z.a kbq (Z.a e3 kbq3)
  have y7 := Z.a y5 h_c71
  refine Z.kP (fun R hR hE => eat_p b S q3 Z.k13 _ R b10 ok3 f3 (fun w15 q5 e5 f5 x7 => hE _ _ (And.intro rfl (hP _ q5 (by rw [run_succ]; simp only [stepN, atomS, roundS, squareS, squareLS, Nd.ks, maps, y6, y7, Z.ifs, reduceIte, e5, has_pan e5 f5 f3, idl f5, id_num f5]) f5 (gb_upd (gb_upd y4 x5) x7)))) (fun w15 q5 e5 f5 x7 b15 => hR _ _ ?_))
  have zw15 := x7.size
  have tb15 := b15.lt
  obtain ⟨ok5, ok5m, ok5x, ok5y⟩ : Tr S q3 q5 := e5 ▸ has_tr ok3
  have kbq5 := (okB_iff q5).2 f5
  refine Z.p [2] [] [(79, .bool (isB q3 Z.k13))] ?_
  refine Z.e (Z.c (isB q3 Z.k13) (fun h_c79 => ?_) (fun h_c79 => ?_))
  · skip
    refine Z.g [0, 1, 2, 3] ?_
    refine Z.p [0] [1, 2, 3] [(82, Z.P k2 0)] ?_
    have lt2 := (Z.lt ok3 h_c79 e5)
    refine Z.S 0 (.int .i64 4) ((b3.upd1 x5).upd1 x7) #[.int .i64 4, Z.n q.a, .string Z.E, .int .i64 0, .slice none 0 0] (fun w16 u9 b16 zw16 => ?_)
    refine Z.p [2] [3] [(83, Z.P k2 3)] ?_
    refine Z.S 3 (.int .i64 1) b16 #[.int .i64 4, Z.n q.a, .string Z.E, .int .i64 1, .slice none 0 0] (fun w17 u10 b17 zw17 => ?_)
    refine Gx.ops_nil (Gx.block_normal (Z.x (Z.r [0, 1] ?_)))
    refine Z.L 0 (.agg #[.int .i64 4, Z.n q.a, .string Z.E, .int .i64 1, .slice none 0 0]) b17 ?_
    refine Z.Sa #[.int .i64 4, Z.n q.a, .string Z.E, .int .i64 1, .slice none 0 0] ((((((b1.ext x2).upd1 u1).upd1 x5).upd1 x7).upd1 u9).upd1 u10) (fun w18 u11 b18 zw18 => ?_)
    refine Z.e (wp_ret (Gx.ret (Gx.res_c (u := .agg #[.int .i64 4, Z.n q.a, .string Z.E, .int .i64 1, .slice none 0 0]) rfl (by kernel_rfl) b18 (by kernel_rfl)) ?_))
    exact hK _ (Nd.mk 4 q.a Z.E (1 : Int) []) none 0 q5 (by rw [run_succ]; simp only [stepN, atomS, roundS, squareS, squareLS, Nd.ks, maps, y6, e5, kbq5, y7, h_c79, Z.ifs, reduceIte]) f5 (gb_new (gb_new (gb_new (gb_upd (gb_upd y4 x5) x7) u9) u10) u11) (((b15.upd1 u9).upd1 u10).upd1 u11) KV.nil
  refine Z.r [0, 1, 2] ?_
  refine Z.p [0] [1, 2] [(85, Z.P b 0)] ?_
  have y8 := gb_upd (gb_upd y4 x5) x7
  have y9 := Z.a y6 (Z.a e5 kbq5)
  have y10 := Z.a y7 h_c79
  refine Z.kP (fun R hR hE => eat_p b S q5 Z.k14 _ R b15 ok5 f5 (fun w19 q6 e6 f6 x8 => hE _ _ (And.intro rfl (hP _ q6 (by rw [run_succ]; simp only [stepN, atomS, roundS, squareS, squareLS, Nd.ks, maps, y9, y10, Z.ifs, reduceIte, e6, has_pan e6 f6 f5, idl f6, id_num f6]) f6 (gb_upd y8 x8)))) (fun w19 q6 e6 f6 x8 b19 => hR _ _ ?_))
  have zw19 := x8.size
  have tb19 := b19.lt
  obtain ⟨ok6, ok6m, ok6x, ok6y⟩ : Tr S q5 q6 := e6 ▸ has_tr ok5
  have kbq6 := (okB_iff q6).2 f6
  refine Z.p [2] [] [(84, .bool (isB q5 Z.k14))] ?_
  refine Z.e (Z.c (isB q5 Z.k14) (fun h_c84 => ?_) (fun h_c84 => ?_))
  · skip
    refine Z.g [0, 1] ?_
    refine Z.p [0] [1] [(87, Z.P k2 0)] ?_
    have lt3 := (Z.lt ok5 h_c84 e6)
    refine Z.S 0 (.int .i64 4) (((b3.upd1 x5).upd1 x7).upd1 x8) #[.int .i64 4, Z.n q.a, .string Z.E, .int .i64 0, .slice none 0 0] (fun w20 u12 b20 zw20 => ?_)
    refine Gx.ops_nil (Gx.block_normal (Z.x (Z.r [0, 1] ?_)))
    refine Z.L 0 (.agg #[.int .i64 4, Z.n q.a, .string Z.E, .int .i64 0, .slice none 0 0]) b20 ?_
    refine Z.Sa #[.int .i64 4, Z.n q.a, .string Z.E, .int .i64 0, .slice none 0 0] ((((((b1.ext x2).upd1 u1).upd1 x5).upd1 x7).upd1 x8).upd1 u12) (fun w21 u13 b21 zw21 => ?_)
    refine Z.e (wp_ret (Gx.ret (Gx.res_c (u := .agg #[.int .i64 4, Z.n q.a, .string Z.E, .int .i64 0, .slice none 0 0]) rfl (by kernel_rfl) b21 (by kernel_rfl)) ?_))
    exact hK _ (Nd.mk 4 q.a Z.E (0 : Int) []) none 0 q6 (by rw [run_succ]; simp only [stepN, atomS, roundS, squareS, squareLS, Nd.ks, maps, y9, e6, kbq6, y10, h_c84, Z.ifs, reduceIte]) f6 (gb_new (gb_new (gb_upd y8 x8) u12) u13) ((b19.upd1 u12).upd1 u13) KV.nil
  refine Z.r [0, 1, 2] ?_
  refine Z.p [0] [1, 2] [(89, Z.P b 0)] ?_
  have y11 := Z.a y9 (Z.a e6 kbq6)
  have y12 := Z.a y10 h_c84
  refine Z.kP (fun R hR hE => eat_p b S q6 Z.k4 _ R b19 ok6 f6 (fun w22 q7 e7 f7 x9 => hE _ _ (And.intro rfl (hP _ q7 (by rw [run_succ]; simp only [stepN, atomS, roundS, squareS, squareLS, Nd.ks, maps, y11, y12, Z.ifs, reduceIte, e7, has_pan e7 f7 f6, idl f7, id_num f7]) f7 (gb_upd (gb_upd y8 x8) x9)))) (fun w22 q7 e7 f7 x9 b22 => hR _ _ ?_))
  have zw22 := x9.size
  have tb22 := b22.lt
  obtain ⟨ok7, ok7m, ok7x, ok7y⟩ : Tr S q6 q7 := e7 ▸ has_tr ok6
  have kbq7 := (okB_iff q7).2 f7
  refine Z.p [2] [] [(88, .bool (isB q6 Z.k4))] ?_
  refine Z.e (Z.c (isB q6 Z.k4) (fun h_c88 => ?_) (fun h_c88 => ?_))
  · skip
    refine wp_seq ?_
    have lt4 := (Z.lt ok6 h_c88 e7)
    obtain ⟨kk, hkk⟩ : ∃ kk, k = kk + 1 := ⟨k - 1, by omega⟩
    have hrd : run S k (.round q.a) q7 = roundS S (run S kk) q.a q7 := by rw [hkk, run_succ]; rfl
    refine Z.r [0, 1] ?_
    refine Z.p [0] [1] [(91, Z.P b 0)] ?_
    have y13 := gb_upd (gb_upd y8 x8) x9
    have y14 := Z.a y11 (Z.a e7 (Z.a kbq7 hrd))
    have y15 := Z.a y12 h_c88
    refine Z.kP (fun R hR hE => eat_p b S q7 Z.k2 _ R b22 ok7 f7 (fun w23 q8 e8 f8 x10 => hE _ _ (And.intro rfl (hP _ q8 (by rw [run_succ]; simp only [stepN, atomS, roundS, squareS, squareLS, Nd.ks, maps, y14, y15, Z.ifs, reduceIte, e8, has_pan e8 f8 f7, idl f8, id_num f8]) f8 (gb_upd y13 x10)))) (fun w23 q8 e8 f8 x10 b23 => hR _ _ ?_))
    have zw23 := x10.size
    have tb23 := b23.lt
    obtain ⟨ok8, ok8m, ok8x, ok8y⟩ : Tr S q7 q8 := e8 ▸ has_tr ok7
    have kbq8 := (okB_iff q8).2 f8
    refine Z.e (Z.c (isB q7 Z.k2) (fun h_c92 => ?_) (fun h_c92 => ?_))
    · skip
      refine Z.r [0, 1] ?_
      refine Z.p [0] [1] [(93, Z.P k2 0)] ?_
      have lt5 := (Z.lt ok7 h_c92 e8)
      refine Z.S 0 (.int .i64 5) (((((b3.upd1 x5).upd1 x7).upd1 x8).upd1 x9).upd1 x10) #[.int .i64 5, Z.n q.a, .string Z.E, .int .i64 0, .slice none 0 0] (fun w24 u14 b24 zw24 => ?_)
      refine Z.e (wp_exit (Gx.then_exit (Gx.block_exit (Z.x (Z.r [0, 1] ?_)))))
      refine Z.L 0 (.agg #[.int .i64 5, Z.n q.a, .string Z.E, .int .i64 0, .slice none 0 0]) b24 ?_
      refine Z.Sa #[.int .i64 5, Z.n q.a, .string Z.E, .int .i64 0, .slice none 0 0] ((((((((b1.ext x2).upd1 u1).upd1 x5).upd1 x7).upd1 x8).upd1 x9).upd1 x10).upd1 u14) (fun w25 u15 b25 zw25 => ?_)
      refine Z.e (wp_ret (Gx.ret (Gx.res_c (u := .agg #[.int .i64 5, Z.n q.a, .string Z.E, .int .i64 0, .slice none 0 0]) rfl (by kernel_rfl) b25 (by kernel_rfl)) ?_))
      exact hK _ (Nd.mk 5 q.a Z.E (0 : Int) []) none 0 q8 (by rw [run_succ]; simp only [stepN, atomS, roundS, squareS, squareLS, Nd.ks, maps, y14, e8, kbq8, y15, h_c92, Z.ifs, reduceIte]) f8 (gb_new (gb_new (gb_upd y13 x10) u14) u15) ((b23.upd1 u14).upd1 u15) KV.nil
    refine wp_skip (Z.x (Z.r [0, 1, 2, 3] ?_))
    refine Z.p [0] [1, 2, 3] [(94, Z.P b 0)] ?_
    have y16 := Z.a y14 (Z.a e8 kbq8)
    have y17 := Z.a y15 h_c92
    refine Z.kP (fun R hR hE => (ih kk (by omega)).f_expr b S q8 _ R b23 ok8 f8 (by omega) (fun w26 q9 e9 f9 x11 => hE _ _ (And.intro rfl (hP _ q9 (by rw [run_succ]; simp only [stepN, atomS, roundS, squareS, squareLS, Nd.ks, maps, y16, y17, Z.ifs, reduceIte, e9, idl f9, id_num f9]) f9 (gb_upd (gb_upd y13 x10) x11)))) (fun w26 t1 A1 c1 q9 e9 f9 x11 b26 kv1 => hR _ _ ?_))
    have zw26 := x11.size
    have tb26 := b26.lt
    have kbq9 := (okB_iff q9).2 f9
    obtain ⟨ok9, ok9m, ok9x, ok9y⟩ : Tr S q8 q9 := run_facts ok8 e9
    refine Z.N Z.c0 (fun k3 w27 l3 x12 b27 zw27 tb27 => ?_)
    refine Z.Sa (Z.T t1 A1 c1) b27 (fun w28 u16 b28 zw28 => ?_)
    refine Z.e (wp_seq (Z.r [0, 1, 2] ?_))
    refine Z.p [0] [1, 2] [(96, Z.P b 0)] ?_
    have y18 := gb_new (gb_ext (gb_upd (gb_upd y13 x10) x11) x12) u16
    have y19 := Z.a y16 (Z.a e9 kbq9)
    refine Z.kP (fun R hR hE => eat_p b S q9 Z.k16 _ R ((b26.ext x12).upd1 u16) ok9 f9 (fun w29 q10 e10 f10 x13 => hE _ _ (And.intro rfl (hP _ q10 (by rw [run_succ]; simp only [stepN, atomS, roundS, squareS, squareLS, Nd.ks, maps, y19, y17, Z.ifs, reduceIte, e10, has_pan e10 f10 f9, idl f10, id_num f10]) f10 (gb_upd y18 x13)))) (fun w29 q10 e10 f10 x13 b29 => hR _ _ ?_))
    have zw29 := x13.size
    have tb29 := b29.lt
    obtain ⟨ok10, ok10m, ok10x, ok10y⟩ : Tr S q9 q10 := e10 ▸ has_tr ok9
    have kbq10 := (okB_iff q10).2 f10
    refine Z.p [2] [] [(98, .bool (!(isB q9 Z.k16)))] ?_
    refine Z.e (Z.c (!(isB q9 Z.k16)) (fun h_c98 => ?_) (fun h_c98 => ?_))
    · skip
      refine Z.r [0, 1, 2] ?_
      refine Z.p [0] [1, 2] [(99, Z.P b 0)] ?_
      refine Z.R (.cells #[.string Z.k2] 9) 1 1 (fun k4 w30 l4 x14 b30 zw30 tb30 => ?_)
      have n_c98 : isB q9 Z.k16 = false := by simpa using h_c98
      have y20 := gb_ext (gb_upd y18 x13) x14
      refine Z.kP (fun R hR hE => need_p b S q10 [Z.k2] k4 1 _ R (b29.ext x14) ok10 f10 b30 (by omega) (Nat.le_of_ble_eq_true rfl) (fun w31 q11 e11 f11 x15 => hE _ _ (And.intro rfl (hP _ q11 (by rw [run_succ]; simp only [stepN, atomS, roundS, squareS, squareLS, Nd.ks, maps, y19, e10, kbq10, y17, h_c98, n_c98, Z.ifs, reduceIte, (show mustR S q10 Z.k2 = q11 from e11), idl f11, id_num f11]) f11 (gb_upd y20 x15)))) (fun w31 q11 e11 f11 x15 b31 => hR _ _ ?_))
      have zw31 := x15.size
      have tb31 := b31.lt
      obtain ⟨ok11, ok11m, ok11x, ok11y⟩ : Tr S q10 q11 := e11 ▸ musts_tr _ ok10
      have e11 : mustR S q10 Z.k2 = q11 := e11
      have kbq11 := (okB_iff q11).2 f11
      refine Z.e (Z.r [0, 1] ?_)
      refine Z.L 0 (.agg (Z.T t1 A1 c1)) (((b28.upd1 x13).ext x14).upd1 x15) ?_
      refine Z.Sa (Z.T t1 A1 c1) (((((((((((((b1.ext x2).upd1 u1).upd1 x5).upd1 x7).upd1 x8).upd1 x9).upd1 x10).upd1 x11).ext x12).upd1 u16).upd1 x13).ext x14).upd1 x15) (fun w32 u17 b32 zw32 => ?_)
      refine Z.e (wp_ret (Gx.then_ret (Gx.block_ret (Gx.then_ret (Gx.ret (Gx.res_c (u := .agg (Z.T t1 A1 c1)) rfl (by kernel_rfl) b32 (by kernel_rfl)) ?_)))))
      exact hK _ t1 A1 c1 q11 (by rw [run_succ]; simp only [stepN, atomS, roundS, squareS, squareLS, Nd.ks, maps, y19, e10, kbq10, e11, kbq11, y17, h_c98, n_c98, Z.ifs, reduceIte]) f11 (gb_new (gb_upd y20 x15) u17) (b31.upd1 u17) (KV.top ((((((kv1.ext x12).upd u16).upd x13).ext x14).upd x15).upd u17))
    refine wp_skip (Z.x (Z.r [0, 1] ?_))
    refine Z.p [0] [1] [(103, Z.P k2 0)] ?_
    have n_c98 : isB q9 Z.k16 = true := by simpa using h_c98
    have lt6 := (Z.lt ok9 n_c98 e10)
    refine Z.S 0 (.int .i64 12) (((((((((b3.upd1 x5).upd1 x7).upd1 x8).upd1 x9).upd1 x10).upd1 x11).ext x12).upd1 u16).upd1 x13) #[.int .i64 12, Z.n q.a, .string Z.E, .int .i64 0, .slice none 0 0] (fun w33 u18 b33 zw33 => ?_)
    refine Z.e (wp_seq (Gx.drawE (S := fun w' => Gx.Has w' k2 (.cells #[.int .i64 12, Z.n q.a, .string Z.E, .int .i64 0, .slice none 0 0] 24) ∧ Gx.Has w' k3 (.cells (Z.T t1 A1 c1) 24)) [6] (by kernel_rfl) (fun w34 x16 => ?_)))
    have zw34 := x16.size
    have y21 := ((b28.upd1 x13).upd1 u18).ext x16
    refine Z.eh ⟨(b33.ext x16), y21⟩ (fun hS1 => ?_)
    refine Z.es 0 [5, 6] 0 (.agg #[.int .i64 12, Z.n q.a, .string Z.E, .int .i64 0, .slice none 0 0]) (fun _ hs => hs.1) hS1 ?_
    refine Z.es 1 [4, 5, 6] 0 (.agg (Z.T t1 A1 c1)) (fun _ hs => hs.2) hS1 ?_
    refine Z.et 2 (Z.P b 0) (fun _ => hS1) ?_
    have y22 := gb_ext (gb_new (gb_upd y18 x13) u18) x16
    refine Z.eP 3 (fun R hR hE => (ih kk (by omega)).f_expr b S q10 _ R ((b29.upd1 u18).ext x16) ok10 f10 (by omega) (fun w35 q12 e12 f12 x17 => hE _ _ (And.intro rfl (hP _ q12 (by rw [run_succ]; simp only [stepN, atomS, roundS, squareS, squareLS, Nd.ks, maps, y19, e10, kbq10, y17, h_c98, n_c98, Z.ifs, reduceIte, e12, idl f12, id_num f12]) f12 (gb_upd y22 x17)))) (fun w35 t2 A2 c2 q12 e12 f12 x17 b34 kv2 => hR _ _ ⟨(fun _ => ⟨((b33.ext x16).upd1 x17), (y21.upd1 x17)⟩), ?_⟩))
    have zw35 := x17.size
    have tb34 := b34.lt
    have kbq12 := (okB_iff q12).2 f12
    obtain ⟨ok12, ok12m, ok12x, ok12y⟩ : Tr S q10 q12 := run_facts ok10 e12
    have y23 := (b33.ext x16).upd1 x17
    refine Z.eR 4 (.cells #[Z.n t1.k, Z.n t1.a, .string t1.nm, .int .i64 t1.n, .slice A1 t1.ks.length c1, Z.n t2.k, Z.n t2.a, .string t2.nm, .int .i64 t2.n, .slice A2 t2.ks.length c2] 24) 2 2 (fun k5 w36 l5 x18 b35 => ⟨(fun _ => ⟨(y23.ext x18), ((y21.upd1 x17).ext x18)⟩), ?_⟩)
    have zw36 := x18.size
    have tb35 := b35.lt
    have ow1 : w36.ownsRow w23.heap.size 24 5 (.slice none 0 0) Z.nl.length (flat Z.nl) := ⟨by simp [flat], .inl ⟨rfl, rfl⟩⟩
    refine Z.eK 5 (fun R hR => with_p w23.heap.size k5 2 Z.nl [(t1, A1, c1), (t2, A2, c2)] none 0 #[Z.n t1.k, Z.n t1.a, .string t1.nm, .int .i64 t1.n, .slice A1 t1.ks.length c1, Z.n t2.k, Z.n t2.a, .string t2.nm, .int .i64 t2.n, .slice A2 t2.ks.length c2] (12 : Int) ((q.a : Nat) : Int) (0 : Int) Z.E _ R ow1 b35 rfl (by simp only [List.length_append, List.length_cons, List.length_nil]; omega) (by omega) (fun A3 c3 w37 nk1 ow2 nl1 hnk1 g1 => hR _ _ ⟨(fun _ => ⟨((y23.ext x18).upd g1 (fun e => by cases e)), (((y21.upd1 x17).ext x18).upd g1 (fun e => by cases e))⟩), ?_⟩))
    have zw37 := g1.size
    have hb1 : ∀ j, ((.slice A3 (Z.nl ++ [(t1, A1, c1), (t2, A2, c2)]).length c3 : Value) : Value).ownBlock = some j → (j = nk1 ∧ j < w37.heap.size) := fun j e => by have l := (ow2).lt j e; rcases nl1 with q | q; (rw [q] at e; cases e); (rw [q] at e; cases e; omega)
    have hkx1 : ∀ p' ∈ (Z.nl ++ [(t1, A1, c1), (t2, A2, c2)]), KV (InV w23.heap.size w37.heap.size [k1, k2, k3] (.slice A3 (Z.nl ++ [(t1, A1, c1), (t2, A2, c2)]).length c3 : Value)) w37 p'.1.ks p'.2.1 p'.2.2 := fun p' hp' => (List.mem_append.1 hp').elim (fun h0 => (by cases h0)) (fun h1 => (by simp only [List.mem_cons, List.not_mem_nil, or_false] at h1; rcases h1 with rfl | rfl; exact (KV.topV (KV.ofIn ((((((((kv1.ext x12).upd u16).upd x13).upd u18).ext x16).upd x17).ext x18).app g1 (fun j e => by cases e)) (fun j e => by have z := hb1 j e; first | (left; omega) | (right; omega) | omega))); exact (KV.topV (KV.ofIn ((kv2.ext x18).app g1 (fun j e => by cases e)) (fun j e => by have z := hb1 j e; first | (left; omega) | (right; omega) | omega)))))
    refine Z.eSa 6 #[.int .i64 12, Z.n q.a, .string Z.E, .int .i64 0, (.slice A3 (Z.nl ++ [(t1, A1, c1), (t2, A2, c2)]).length c3 : Value)] ((y23.ext x18).upd g1 (fun e => by cases e)) (fun w38 u19 b36 => ⟨(Gx.not_clear (by kernel_rfl)), ?_⟩)
    have zw38 := u19.size
    refine Gx.anyE_done (by kernel_rfl) ?_ _
    refine Z.x (Z.g [0, 1, 2] ?_)
    refine Z.p [0] [1, 2] [(110, Z.P b 0)] ?_
    refine Z.R (.cells #[.string Z.k2] 9) 1 1 (fun k6 w39 l6 x19 b37 zw39 tb37 => ?_)
    have y24 := gb_ext (gb_new (gb_app (gb_ext (gb_upd y22 x17) x18) g1 (fun j e => by have := (ow1).lt j e; omega)) u19) x19
    refine Z.kP (fun R hR hE => need_p b S q12 [Z.k2] k6 1 _ R ((((b34.ext x18).upd g1 (fun e => by cases e)).upd1 u19).ext x19) ok12 f12 b37 (by omega) (Nat.le_of_ble_eq_true rfl) (fun w40 q13 e13 f13 x20 => hE _ _ (And.intro rfl (hP _ q13 (by rw [run_succ]; simp only [stepN, atomS, roundS, squareS, squareLS, Nd.ks, maps, y19, e10, kbq10, e12, kbq12, y17, h_c98, n_c98, Z.ifs, reduceIte, (show mustR S q12 Z.k2 = q13 from e13), idl f13, id_num f13]) f13 (gb_upd y24 x20)))) (fun w40 q13 e13 f13 x20 b38 => hR _ _ ?_))
    have zw40 := x20.size
    have tb38 := b38.lt
    obtain ⟨ok13, ok13m, ok13x, ok13y⟩ : Tr S q12 q13 := e13 ▸ musts_tr _ ok12
    have e13 : mustR S q12 Z.k2 = q13 := e13
    have kbq13 := (okB_iff q13).2 f13
    refine Gx.ops_nil (Gx.block_normal (Z.x (Z.r [0, 1] ?_)))
    refine Z.L 0 (.agg #[.int .i64 12, Z.n q.a, .string Z.E, .int .i64 0, (.slice A3 (Z.nl ++ [(t1, A1, c1), (t2, A2, c2)]).length c3 : Value)]) ((b36.ext x19).upd1 x20) ?_
    refine Z.Sa #[.int .i64 12, Z.n q.a, .string Z.E, .int .i64 0, (.slice A3 (Z.nl ++ [(t1, A1, c1), (t2, A2, c2)]).length c3 : Value)] (((((((((((((((((((b1.ext x2).upd1 u1).upd1 x5).upd1 x7).upd1 x8).upd1 x9).upd1 x10).upd1 x11).ext x12).upd1 u16).upd1 x13).upd1 u18).ext x16).upd1 x17).ext x18).upd g1 (fun e => by cases e)).upd1 u19).ext x19).upd1 x20) (fun w41 u20 b39 zw41 => ?_)
    refine Z.e (wp_ret (Gx.ret (Gx.res_c (u := .agg #[.int .i64 12, Z.n q.a, .string Z.E, .int .i64 0, (.slice A3 (Z.nl ++ [(t1, A1, c1), (t2, A2, c2)]).length c3 : Value)]) rfl (by kernel_rfl) b39 (by kernel_rfl)) ?_))
    have y25 := Gx.own_upd1 (Gx.own_upd1 (Gx.own_ext (Gx.own_upd1 ow2 u19 (fun q e => by have z := hb1 q e; omega)) x19) x20 (fun q e => by have z := hb1 q e; omega)) u20 (fun q e => by have z := hb1 q e; omega)
    obtain ⟨A4, c4, hvkv3, kv3⟩ := KV.of_own (Q := In w23.heap.size w41.heap.size [k1, k2, k3]) (Z.nl ++ [(t1, A1, c1), (t2, A2, c2)]) y25 (fun j e => by have := (y25).lt j e; exact ⟨by omega, by omega, (by have z := hb1 j e; simp only [List.mem_cons, List.not_mem_nil, or_false, not_or]; omega)⟩) (fun p' h0 => (KV.topV (((((hkx1 p' h0).updV u19).extV x19).updV x20).updV u20)).noV)
    rw [nds_len] at hvkv3; cases hvkv3
    exact hK _ (Nd.mk 12 q.a Z.E (0 : Int) (nds (Z.nl ++ [(t1, A1, c1), (t2, A2, c2)]))) A3 c3 q13 (by rw [run_succ]; simp only [stepN, atomS, roundS, squareS, squareLS, Nd.ks, maps, y19, e10, kbq10, e12, kbq12, e13, kbq13, y17, h_c98, n_c98, Z.ifs, reduceIte]) f13 (gb_new (gb_upd y24 x20) u20) (b38.upd1 u20) (KV.top kv3)
  refine Z.r [0, 1, 2] ?_
  refine Z.p [0] [1, 2] [(13, Z.P b 0)] ?_
  refine Z.R (.cells #[.string Z.k18] 9) 1 1 (fun k7 w42 l7 x21 b40 zw42 tb40 => ?_)
  have y26 := gb_ext (gb_upd (gb_upd y8 x8) x9) x21
  have y27 := Z.a y12 h_c88
  have y28 := Z.a y11 (Z.a e7 kbq7)
  refine Z.kP (fun R hR hE => need_p b S q7 [Z.k18] k7 1 _ R (b22.ext x21) ok7 f7 b40 (by omega) (Nat.le_of_ble_eq_true rfl) (fun w43 q14 e14 f14 x22 => hE _ _ (And.intro rfl (hP _ q14 (by rcases must_pan e14 f7 with ⟨my, mh, mn⟩ | ⟨my, mh, mn⟩; all_goals (rw [run_succ]; simp only [stepN, atomS, roundS, squareS, squareLS, Nd.ks, maps, y28, y27, Z.ifs, reduceIte, (show mustR S q7 Z.k18 = q14 from e14), my, mh, mn, idl f14, id_num f14])) f14 (gb_upd y26 x22)))) (fun w43 q14 e14 f14 x22 b41 => hR _ _ ?_))
  have zw43 := x22.size
  have tb41 := b41.lt
  obtain ⟨ok14, ok14m, ok14x, ok14y⟩ : Tr S q7 q14 := e14 ▸ musts_tr _ ok7
  have e14 : mustR S q7 Z.k18 = q14 := e14
  have kbq14 := (okB_iff q14).2 f14
  obtain ⟨my1, mh1, mn1⟩ := must_ok e14 f7 f14
  have ml1 : M S q14 < M S q7 := by have := has_lt ok7 my1; rw [mh1] at this; exact this
  refine Z.e ?_
  obtain ⟨kk, hkk⟩ : ∃ kk, k = kk + 1 := ⟨k - 1, by omega⟩
  have hrd : run S k (.square q.a) q14 = squareS S (run S kk) q.a q14 := by rw [hkk, run_succ]; rfl
  refine Z.r [0, 1] ?_
  refine Z.p [0] [1] [(16, Z.P k2 0)] ?_
  refine Z.S 0 (.int .i64 15) ((((((b3.upd1 x5).upd1 x7).upd1 x8).upd1 x9).ext x21).upd1 x22) #[.int .i64 15, Z.n q.a, .string Z.E, .int .i64 0, .slice none 0 0] (fun w44 u21 b42 zw44 => ?_)
  refine Z.e (wp_seq (Z.r [0, 1] ?_))
  refine Z.p [0] [1] [(17, Z.P b 0)] ?_
  have y29 := gb_new (gb_upd y26 x22) u21
  have y30 := Z.a y28 (Z.a e14 (Z.a kbq14 (Z.a my1 (Z.a mh1 (Z.a mn1 hrd)))))
  refine Z.kP (fun R hR hE => eat_p b S q14 Z.k22 _ R (b41.upd1 u21) ok14 f14 (fun w45 q15 e15 f15 x23 => hE _ _ (And.intro rfl (hP _ q15 (by rw [run_succ]; simp only [stepN, atomS, roundS, squareS, squareLS, Nd.ks, maps, y30, y27, Z.ifs, reduceIte, e15, has_pan e15 f15 f14, idl f15, id_num f15]) f15 (gb_upd y29 x23)))) (fun w45 q15 e15 f15 x23 b43 => hR _ _ ?_))
  have zw45 := x23.size
  have tb43 := b43.lt
  obtain ⟨ok15, ok15m, ok15x, ok15y⟩ : Tr S q14 q15 := e15 ▸ has_tr ok14
  have kbq15 := (okB_iff q15).2 f15
  refine Z.e (Z.c (isB q14 Z.k22) (fun h_c18 => ?_) (fun h_c18 => ?_))
  · skip
    refine wp_exit (Gx.then_exit (Gx.block_exit (Z.x (Z.r [0, 1] ?_))))
    have lt7 := (Z.lt ok14 h_c18 e15)
    refine Z.L 0 (.agg #[.int .i64 15, Z.n q.a, .string Z.E, .int .i64 0, .slice none 0 0]) (b42.upd1 x23) ?_
    refine Z.Sa #[.int .i64 15, Z.n q.a, .string Z.E, .int .i64 0, .slice none 0 0] ((((((((((b1.ext x2).upd1 u1).upd1 x5).upd1 x7).upd1 x8).upd1 x9).ext x21).upd1 x22).upd1 u21).upd1 x23) (fun w46 u22 b44 zw46 => ?_)
    refine Z.e (wp_ret (Gx.ret (Gx.res_c (u := .agg #[.int .i64 15, Z.n q.a, .string Z.E, .int .i64 0, .slice none 0 0]) rfl (by kernel_rfl) b44 (by kernel_rfl)) ?_))
    exact hK _ (Nd.mk 15 q.a Z.E (0 : Int) []) none 0 q15 (by rw [run_succ]; simp only [stepN, atomS, roundS, squareS, squareLS, Nd.ks, maps, y30, e15, kbq15, y27, h_c18, Z.ifs, reduceIte]) f15 (gb_new (gb_upd y29 x23) u22) (b43.upd1 u22) KV.nil
  refine wp_skip (Z.x ?_)
  obtain ⟨kl, hkl⟩ : ∃ kl, kk = kl + 1 := ⟨kk - 1, by omega⟩
  have hsl : run S kk (.squareL []) q15 = squareLS S (run S kl) [] q15 := by rw [hkl, run_succ]; rfl
  refine Z.r [0, 1, 2, 3] ?_
  refine Z.p [0] [1, 2, 3] [(19, Z.P b 0)] ?_
  have y31 := Z.a y27 h_c18
  have y32 := Z.a y30 (Z.a e15 kbq15)
  refine Z.kP (fun R hR hE => (ih kl (by omega)).f_expr b S q15 _ R b43 ok15 f15 (by omega) (fun w47 q16 e16 f16 x24 => hE _ _ (And.intro rfl (hP _ q16 (by rw [run_succ]; simp only [stepN, atomS, roundS, squareS, squareLS, Nd.ks, maps, y32, hsl, y31, Z.ifs, reduceIte, e16, idl f16, id_num f16]) f16 (gb_upd (gb_upd y29 x23) x24)))) (fun w47 t3 A5 c5 q16 e16 f16 x24 b45 kv4 => hR _ _ ?_))
  have zw47 := x24.size
  have tb45 := b45.lt
  have kbq16 := (okB_iff q16).2 f16
  obtain ⟨ok16, ok16m, ok16x, ok16y⟩ : Tr S q15 q16 := run_facts ok15 e16
  refine Z.R (.cells (Z.T t3 A5 c5) 24) 1 1 (fun k8 w48 l8 x25 b46 zw48 tb46 => ?_)
  refine Z.p [3] [] [(5, .slice (some ⟨k8, 0, none⟩) 1 1)] ?_
  refine Z.e (wp_seq (wp_block ?_))
  have hbv : ∀ j, (.slice (some ⟨k8, 0, none⟩) 1 1 : Value).ownBlock = some j → j = k8 := fun j e => by cases e; rfl
  have hbz : w45.heap.size ≤ w48.heap.size := by omega
  have y33 := Z.a y32 (Z.a e16 kbq16)
  refine Gx.loop (n' := 114) (d' := []) (fun mz l' w' => ∃ (j : Nat) (p : Rs) (v : Value) (L : List (Nd × Option Addr × Nat)), l' = [(0, Z.P b 0), (2, Z.P k1 0), (3, Z.P k2 0), (5, v)] ∧ mz = M S p ∧ Gx.G w w' (some b) ∧ Gx.Has w' b (.cells #[.string S, Z.n p.k, Z.n p.a, .string p.t, Z.n p.n, Z.n p.e, Z.n p.x, Z.n p.y] 54) ∧ Gx.Has w' k1 Z.c0 ∧ Gx.Has w' k2 (.cells #[.int .i64 15, Z.n q.a, .string Z.E, .int .i64 0, .slice none 0 0] 24) ∧ (j ≤ k) ∧ (16 * M S p + 12 ≤ j) ∧ (sqT S (run S j) (nds L) p = run S kk (.squareL []) q15) ∧ (Ok S p) ∧ (w'.ownsRow k8 24 5 v L.length (flat L)) ∧ (∀ p' ∈ L, KV (InV w45.heap.size w'.heap.size [k1, k2] v) w' p'.1.ks p'.2.1 p'.2.2) ∧ (L.length + M S p ≤ 4000) ∧ (M S p ≤ M S q16) ∧ (p.x = q16.x ∧ p.y = q16.y) ∧ (k8 ≤ w'.heap.size) ∧ (p.fk = 0) ∧ (∀ j, v.ownBlock = some j → k8 ≤ j ∧ j ≠ k1 ∧ j ≠ k2) ∧ (0 < L.length)) _ _ [(0, Z.P b 0), (2, Z.P k1 0), (3, Z.P k2 0), (5, (.slice (some ⟨k8, 0, none⟩) 1 1 : Value))] (Gx.forget [(0, Z.P b 0), (2, Z.P k1 0), (3, Z.P k2 0), (5, (.slice (some ⟨k8, 0, none⟩) 1 1 : Value))] (by kernel_rfl)) ⟨kl, q16, (.slice (some ⟨k8, 0, none⟩) 1 1 : Value), [(t3, A5, c5)], rfl, rfl, (gb_ext (gb_upd (gb_upd y29 x23) x24) x25), (b45.ext x25), ((((((((((((b1.ext x2).upd1 u1).upd1 x5).upd1 x7).upd1 x8).upd1 x9).ext x21).upd1 x22).upd1 u21).upd1 x23).upd1 x24).ext x25), (((b42.upd1 x23).upd1 x24).ext x25), (by omega), (by omega), (by rw [hkl, run_succ]; simp only [stepN, squareLS, sqT, y33, maps]), ok16, (Gx.own_row (n := 1) b46 rfl (by unfold maxLen; omega)), (by intro p hp; simp only [List.mem_cons, List.not_mem_nil, or_false] at hp; rcases hp with rfl; exact (KV.topV (KV.ofIn (kv4.ext x25) (fun j e => by have q := hbv j e; first | (left; omega) | (right; omega))))), (by have := M_le ok16; simp only [List.length_append, List.length_cons, List.length_nil]; omega), (Nat.le_refl _), ⟨rfl, rfl⟩, (by omega), f16, (fun j e => by have z := hbv j e; omega), (Nat.succ_pos _)⟩ (fun bb1 m1 ll1 w49 hI1 K1 hK1 => ?_)
  obtain ⟨j, p, v, L, rfl, rfl, x26, b47, b48, b49, hj, hm, hr, ho, how, hks, hlen, hM, hxy, hbs, hf, hnx, hpos⟩ := hI1
  have zw49 := x26.size
  have tb47 := b47.lt
  have tb48 := b48.lt
  have tb49 := b49.lt
  have hbl : ∀ j, v.ownBlock = some j → (k8 ≤ j ∧ j < w49.heap.size ∧ j ≠ k1 ∧ j ≠ k2) := fun j e => by have z := how.lt j e; have z' := hnx j e; omega
  obtain ⟨i, rfl⟩ : ∃ i, j = i + 1 := ⟨j - 1, by omega⟩
  have kbp := (okB_iff p).2 hf
  refine wp_seq (Z.r [0, 1] ?_)
  refine Z.p [0] [1] [(22, Z.P b 0)] ?_
  have y34 := gb_upd (gb_refl w b) x26
  refine Z.kP (fun R hR hE => eat_p b S p Z.k16 _ R b47 ho hf (fun w50 q17 e17 f17 x27 => hE _ _ (And.intro rfl (hP _ q17 (by have zl : (run S kk (.squareL []) q15).2 = q17 := (by rw [← hr]; simp only [run_succ, stepN, sqT, squareLS, kbp, y31, Z.ifs, reduceIte, e17, has_pan e17 f17 hf, idl f17, id_num f17]); rw [run_succ]; simp only [stepN, atomS, roundS, squareS, squareLS, Nd.ks, maps, y33, y31, Z.ifs, reduceIte, zl, idl f17, id_num f17]) f17 (gb_upd y34 x27)))) (fun w50 q17 e17 f17 x27 b50 => hR _ _ ?_))
  have zw50 := x27.size
  have tb50 := b50.lt
  obtain ⟨ok17, ok17m, ok17x, ok17y⟩ : Tr S p q17 := e17 ▸ has_tr ho
  have kbq17 := (okB_iff q17).2 f17
  refine Z.e (Z.c (isB p Z.k16) (fun h_c23 => ?_) (fun h_c23 => ?_))
  · skip
    refine wp_skip (Z.x (wp_block (Z.g [0, 1, 2, 3, 4, 5] ?_)))
    refine Z.p [0, 1] [2, 3, 4, 5] [(25, Z.P b 0), (24, v)] ?_
    have lt8 := (Z.lt ho h_c23 e17)
    refine Z.kP (fun R hR hE => (ih i (by omega)).f_expr b S q17 _ R b50 ok17 f17 (by omega) (fun w51 q18 e18 f18 x28 => hE _ _ (And.intro rfl (hP _ q18 (by have zl : (run S kk (.squareL []) q15).2 = q18 := (by rw [← hr]; simp only [run_succ, stepN, sqT, squareLS, kbp, e17, kbq17, y31, h_c23, Z.ifs, reduceIte, e18, idl f18, id_num f18]); rw [run_succ]; simp only [stepN, atomS, roundS, squareS, squareLS, Nd.ks, maps, y33, y31, h_c23, Z.ifs, reduceIte, zl, idl f18, id_num f18]) f18 (gb_upd (gb_upd y34 x27) x28)))) (fun w51 t4 A6 c6 q18 e18 f18 x28 b51 kv5 => hR _ _ ?_))
    have zw51 := x28.size
    have tb51 := b51.lt
    have kbq18 := (okB_iff q18).2 f18
    obtain ⟨ok18, ok18m, ok18x, ok18y⟩ : Tr S q17 q18 := run_facts ok17 e18
    refine Z.R (.cells (Z.T t4 A6 c6) 24) 1 1 (fun k9 w52 l9 x29 b52 zw52 tb52 => ?_)
    have y35 := Gx.own_ext (Gx.own_upd1 (Gx.own_upd1 how x27 (fun q e => by have z := hbl q e; omega)) x28 (fun q e => by have z := hbl q e; omega)) x29
    refine Gx.cons (Gx.op_appendAt rfl (by kernel_rfl) rfl 24 5 64 (by kernel_rfl) (by kernel_rfl) (by kernel_rfl) (k8) (by kernel_rfl) y35 0 1 1 (by kernel_rfl) b52 [Z.n t4.k, Z.n t4.a, .string t4.nm, .int .i64 t4.n, .slice A6 t4.ks.length c6] rfl rfl (List.all_eq_true.1 rfl) (by unfold maxLen; omega) (by omega) (by omega) (fun v1 w53 ow3 g2 nl2 => ?_))
    have zw53 := g2.size
    have hb2 : ∀ j, (v1 : Value).ownBlock = some j → (k8 ≤ j ∧ j < w49.heap.size ∧ j ≠ k1 ∧ j ≠ k2) ∨ (j = w52.heap.size ∧ j < w53.heap.size) := fun j e => by have l := (ow3).lt j e; rcases nl2 with q | q; (rw [q] at e; have z := hbl j e; omega); (rw [q] at e; cases e; omega)
    have owx1 : w53.ownsRow k8 24 5 v1 (L ++ [(t4, A6, c6)]).length (flat (L ++ [(t4, A6, c6)])) := by rw [flat_snoc, List.length_append]; exact ow3
    have hkx2 : Z.ks (InV w45.heap.size w53.heap.size [k1, k2] v1) w53 (L ++ [(t4, A6, c6)]) := Z.m1 (Q' := fun _ => True) (w' := w53) (fun p' h0 => (KV.topV (((((((hks p' h0).updV x27).updV x28).extV x29)).appV g2).toV nl2 (by omega)))) (KV.topV (KV.ofIn ((kv5.ext x29).app g2 (fun j e => by have z := hbl j e; first | (left; omega) | (right; left; omega) | omega)) (fun j e => by have z := hb2 j e; first | (left; omega) | (right; omega) | omega)))
    refine Z.p [5] [] [(5, v1)] ?_
    refine Gx.ops_nil (Gx.block_normal (Z.x ?_))
    rw [Gx.forget [(0, Z.P b 0), (2, Z.P k1 0), (3, Z.P k2 0), (5, v1)] (by kernel_rfl)]
    exact hK1 _ _ _ _ (by omega) ⟨i, q18, v1, (L ++ [(t4, A6, c6)]), rfl, rfl, (gb_app (gb_ext (gb_upd (gb_upd y34 x27) x28) x29) g2 (fun j e => by have := (y35).lt j e; omega)), ((b51.ext x29).upd g2 (fun e => by have := hbl _ e.symm; omega)), ((((b48.upd1 x27).upd1 x28).ext x29).upd g2 (fun e => by have := hbl _ e.symm; omega)), ((((b49.upd1 x27).upd1 x28).ext x29).upd g2 (fun e => by have := hbl _ e.symm; omega)), (by omega), (by omega), (by rw [← hr]; simp only [run_succ, stepN, sqT, squareLS, kbp, e17, kbq17, e18, kbq18, y31, h_c23, Z.ifs, reduceIte, maps]), ok18, owx1, (fun p' h0 => KV.topV (hkx2 p' h0)), (by rw [List.length_append]; show L.length + 1 + _ ≤ _; omega), (by omega), ⟨by omega, by omega⟩, (by omega), f18, (fun j e => by have z := hb2 j e; omega), (by rw [List.length_append]; show 0 < _ + 1; omega)⟩
  refine wp_exit (Gx.then_exit (Gx.then_exit (Gx.block_exit (Z.x ?_))))
  have e19 : run S kk (.squareL []) q15 = ((Nd.mk 0 0 Z.E 0 (nds L)), q17) := by rw [← hr]; simp only [run_succ, stepN, sqT, squareLS, kbp, e17, kbq17, y31, h_c23, Z.ifs, reduceIte, maps]
  have y36 := Gx.own_upd1 how x27 (fun q e => by have z := hbl q e; omega)
  obtain ⟨A7, c7, hvkv6, kv6⟩ := KV.of_own (Q := In w45.heap.size w50.heap.size [k1, k2]) L y36 (fun j e => by have := (y36).lt j e; exact ⟨by omega, by omega, (by have z := hbl j e; simp only [List.mem_cons, List.not_mem_nil, or_false, not_or]; omega)⟩) (fun p' h0 => (KV.topV ((hks p' h0).updV x27)).noV)
  subst hvkv6
  have hnl : (nds L).length ≤ 9000 := by rw [nds_len]; omega
  refine Z.r [0, 1, 2] ?_
  refine Z.p [0] [1, 2] [(29, Z.P b 0)] ?_
  refine Z.R (.cells #[.string Z.k22] 9) 1 1 (fun k10 w54 l10 x30 b53 zw54 tb53 => ?_)
  have y37 := gb_ext (gb_upd y34 x27) x30
  refine Z.kP (fun R hR hE => need_p b S q17 [Z.k22] k10 1 _ R (b50.ext x30) ok17 f17 b53 (by omega) (Nat.le_of_ble_eq_true rfl) (fun w55 q19 e20 f19 x31 => hE _ _ (And.intro rfl (hP _ q19 (by rw [run_succ]; simp only [stepN, atomS, roundS, squareS, squareLS, Nd.ks, maps, y33, e19, y31, h_c23, Z.ifs, reduceIte, (show mustR S q17 Z.k22 = q19 from e20), idl f19, id_num f19]) f19 (gb_upd y37 x31)))) (fun w55 q19 e20 f19 x31 b54 => hR _ _ ?_))
  have zw55 := x31.size
  have tb54 := b54.lt
  obtain ⟨ok19, ok19m, ok19x, ok19y⟩ : Tr S q17 q19 := e20 ▸ musts_tr _ ok17
  have e20 : mustR S q17 Z.k22 = q19 := e20
  have kbq19 := (okB_iff q19).2 f19
  refine Z.e (Z.r [0, 1, 2, 3] ?_)
  refine Z.p [0, 1] [2, 3] [(33, .int .i64 (((nds L).length : Nat) : Int)), (32, .slice A7 ((nds L).length) c7)] ?_
  refine Gx.pure_eq [2] [3] [(34, .int .i64 (IntKind.i64.wrap ((((nds L).length : Nat) : Int) - (1 : Int))))] [(34, .int .i64 ((((nds L).length : Nat) : Int) - (1 : Int)))] rfl (by kernel_rfl) (Gx.eqI (IntWalk.i64_in _ (by omega))) ?_
  refine Z.p [3] [] [(6, .int .i64 ((((nds L).length : Nat) : Int) - (1 : Int)))] ?_
  refine Z.e (wp_block (Gx.loop (n' := 114) (d' := []) (fun mz l' w' => ∃ (m : Nat) (ez : Nd) (Az : Option Addr) (cz : Nat), l' = [(2, Z.P k1 0), (3, Z.P k2 0), (5, .slice A7 ((nds L).length) c7), (6, .int .i64 (((m : Nat) : Int) - (1 : Int)))] ∧ mz = 0 + m ∧ Gx.G w w' (some b) ∧ Gx.Has w' b (.cells #[.string S, Z.n q19.k, Z.n q19.a, .string q19.t, Z.n q19.n, Z.n q19.e, Z.n q19.x, Z.n q19.y] 54) ∧ Gx.Has w' k1 Z.c0 ∧ Gx.Has w' k2 (.cells (Z.T ez Az cz) 24) ∧ Gx.Has w' k10 (.cells #[.string Z.k22] 9) ∧ (m ≤ (nds L).length) ∧ (((nds L).drop m).foldr consF (Nd.mk 15 q.a Z.E 0 []) = ez) ∧ (KV (In w.heap.size w'.heap.size [k1, k2]) w' ez.ks Az cz) ∧ (KV (In w.heap.size w'.heap.size [k1, k2]) w' (nds L) A7 c7) ∧ (0 ≤ m)) _ _ [(2, Z.P k1 0), (3, Z.P k2 0), (5, .slice A7 ((nds L).length) c7), (6, .int .i64 ((((nds L).length : Nat) : Int) - (1 : Int)))] (Gx.forget [(2, Z.P k1 0), (3, Z.P k2 0), (5, .slice A7 ((nds L).length) c7), (6, .int .i64 ((((nds L).length : Nat) : Int) - (1 : Int)))] (by kernel_rfl)) ⟨(nds L).length, (Nd.mk 15 q.a Z.E 0 []), none, 0, rfl, rfl, (gb_upd y37 x31), b54, (((b48.upd1 x27).ext x30).upd1 x31), (((b49.upd1 x27).ext x30).upd1 x31), (b53.upd1 x31), (Nat.le_refl _), (by rw [List.drop_length]; rfl), KV.nil, (KV.top ((kv6.ext x30).upd x31)), (Nat.zero_le _)⟩ (fun bb2 m2 ll2 w56 hI2 K2 hK2 => ?_)))
  obtain ⟨m, ez, Az, cz, rfl, rfl, x32, b55, b56, b57, b58, hmle, hce, hkz, hkl2, hm0⟩ := hI2
  have zw56 := x32.size
  have tb55 := b55.lt
  have tb56 := b56.lt
  have tb57 := b57.lt
  have tb58 := b58.lt
  obtain ⟨As, cs, hrd2, hch⟩ := KV.at_ hkl2
  refine wp_seq (Z.s [(36, .bool (decide ((((m : Nat) : Int) - (1 : Int)) ≥ (0 : Int)))), (35, .int .i64 (((m : Nat) : Int) - (1 : Int)))] ?_)
  refine Z.c (decide ((((m : Nat) : Int) - (1 : Int)) ≥ (0 : Int))) (fun h_c36 => ?_) (fun h_c36 => ?_)
  · skip
    refine wp_skip (Z.x (wp_seq (wp_block ?_)))
    have p_c36 := of_decide_eq_true h_c36
    obtain ⟨i, rfl⟩ : ∃ i, m = i + 1 := ⟨m - 1, by omega⟩
    rw [show ((((i + 1 : Nat) : Nat) : Int) - (1 : Int)) = ((i : Nat) : Int) by omega]
    refine Gx.drawE (S := fun w' => Gx.Has w' k2 (.cells (Z.T ez Az cz) 24) ∧ Gx.Ext w56 w') [12] (by kernel_rfl) (fun w57 x33 => ?_)
    have zw57 := x33.size
    have y38 := (Gx.Ext.refl w56).trans x33
    refine Z.eh ⟨(b57.ext x33), y38⟩ (fun hS2 => ?_)
    refine Z.et 0 (.slice A7 ((nds L).length) c7) (fun _ => hS2) ?_
    refine Z.et 1 (Z.n i) (fun _ => hS2) ?_
    obtain ⟨a1, ha1, hc1⟩ := hrd2 i (by omega)
    refine Z.ew 2 rfl (.pointer (some (a1.add (i * 5)))) (fun _ => hS2) (fun _ => Gx.run_indexAddrO rfl 24 5 (by kernel_rfl) (by kernel_rfl) a1 ha1 ((nds L).length) c7 (by kernel_rfl) .i64 i (by kernel_rfl) (by omega)) ?_
    refine Z.ew 3 rfl (.pointer (some ((a1.add (i * 5)).add 1))) (fun _ => hS2) (fun _ => Gx.run_fieldAddrO rfl (a1.add (i * 5)) (by kernel_rfl) 1 (by kernel_rfl)) ?_
    refine Z.ev 4 [11, 12] rfl (.int .i64 ((((nds L).getD i nd0).a : Nat) : Int)) (fun _ hs => Gx.run_loadO rfl [.int .i64 ((((nds L).getD i nd0).a : Nat) : Int)] (.int .i64 ((((nds L).getD i nd0).a : Nat) : Int)) (by kernel_rfl) 1 (Gx.cells_ext (Gx.cells_sub hc1 1 1 rfl) (by decide) hs.2) (by kernel_rfl) (by kernel_rfl)) hS2 ?_
    refine Z.et 5 (.slice A7 ((nds L).length) c7) (fun _ => hS2) ?_
    refine Z.et 6 (Z.n i) (fun _ => hS2) ?_
    obtain ⟨a2, ha2, hc2⟩ := hrd2 i (by omega)
    refine Z.ew 7 rfl (.pointer (some (a2.add (i * 5)))) (fun _ => hS2) (fun _ => Gx.run_indexAddrO rfl 24 5 (by kernel_rfl) (by kernel_rfl) a2 ha2 ((nds L).length) c7 (by kernel_rfl) .i64 i (by kernel_rfl) (by omega)) ?_
    refine Z.ev 8 [10, 11, 12] rfl (.agg #[.int .i64 ((((nds L).getD i nd0).k : Nat) : Int), .int .i64 ((((nds L).getD i nd0).a : Nat) : Int), .string (((nds L).getD i nd0).nm), .int .i64 (((nds L).getD i nd0).n), .slice (As i) (((nds L).getD i nd0).ks.length) (cs i)]) (fun _ hs => Gx.run_loadO rfl [.int .i64 ((((nds L).getD i nd0).k : Nat) : Int), .int .i64 ((((nds L).getD i nd0).a : Nat) : Int), .string (((nds L).getD i nd0).nm), .int .i64 (((nds L).getD i nd0).n), .slice (As i) (((nds L).getD i nd0).ks.length) (cs i)] (.agg #[.int .i64 ((((nds L).getD i nd0).k : Nat) : Int), .int .i64 ((((nds L).getD i nd0).a : Nat) : Int), .string (((nds L).getD i nd0).nm), .int .i64 (((nds L).getD i nd0).n), .slice (As i) (((nds L).getD i nd0).ks.length) (cs i)]) (by kernel_rfl) 5 (Gx.cells_ext hc2 (by decide) hs.2) (by kernel_rfl) (by kernel_rfl)) hS2 ?_
    refine Z.es 9 [10, 11, 12] 0 (.agg (Z.T ez Az cz)) (fun _ hs => hs.1) hS2 ?_
    refine Z.eR 10 (.cells #[.int .i64 ((((nds L).getD i nd0).k : Nat) : Int), .int .i64 ((((nds L).getD i nd0).a : Nat) : Int), .string (((nds L).getD i nd0).nm), .int .i64 (((nds L).getD i nd0).n), .slice (As i) (((nds L).getD i nd0).ks.length) (cs i), Z.n ez.k, Z.n ez.a, .string ez.nm, .int .i64 ez.n, .slice Az ez.ks.length cz] 24) 2 2 (fun k11 w58 l11 x34 b59 => ⟨(fun _ => ⟨((b57.ext x33).ext x34), (y38.trans x34)⟩), ?_⟩)
    have zw58 := x34.size
    have tb59 := b59.lt
    refine Z.eh ⟨((b57.ext x33).ext x34), (y38.trans x34)⟩ (fun hS3 => ?_)
    refine Z.et 11 (.agg #[.int .i64 16, .int .i64 ((((nds L).getD i nd0).a : Nat) : Int), .string Z.E, .int .i64 0, .slice (some ⟨k11, 0, none⟩) 2 2]) (fun _ => hS3) ?_
    refine Z.eSa 12 #[.int .i64 16, .int .i64 ((((nds L).getD i nd0).a : Nat) : Int), .string Z.E, .int .i64 0, .slice (some ⟨k11, 0, none⟩) 2 2] ((b57.ext x33).ext x34) (fun w59 u23 b60 => ⟨(Gx.not_clear (by kernel_rfl)), ?_⟩)
    have zw59 := u23.size
    refine Gx.anyE_done (by kernel_rfl) ?_ _
    refine Gx.block_normal (Z.x (Z.g [0, 1, 2] ?_))
    refine Z.p [0] [1, 2] [(37, Z.n i)] ?_
    refine Gx.pure_eq [1] [2] [(38, .int .i64 (IntKind.i64.wrap (((i : Nat) : Int) - (1 : Int))))] [(38, .int .i64 (((i : Nat) : Int) - (1 : Int)))] rfl (by kernel_rfl) (Gx.eqI (IntWalk.i64_in _ (by omega))) ?_
    refine Z.p [2] [] [(6, .int .i64 (((i : Nat) : Int) - (1 : Int)))] ?_
    refine Gx.ops_nil (Z.x ?_)
    rw [Gx.forget [(2, Z.P k1 0), (3, Z.P k2 0), (5, .slice A7 ((nds L).length) c7), (6, .int .i64 (((i : Nat) : Int) - (1 : Int)))] (by kernel_rfl)]
    exact hK2 _ _ _ _ (by omega) ⟨i, (Nd.mk 16 (((nds L).getD i nd0).a) Z.E (0 : Int) [((nds L).getD i nd0), ez]), (some (⟨k11, 0, none⟩ : Addr)), 2, rfl, rfl, (gb_new (gb_ext (gb_ext (gb_upd (gb_refl w b) x32) x33) x34) u23), (((b55.ext x33).ext x34).upd1 u23), (((b56.ext x33).ext x34).upd1 u23), b60, (((b58.ext x33).ext x34).upd1 u23), (by omega), (by rw [consF_drop _ (by omega), hce]; rfl), (KV.of_row [(((nds L).getD i nd0), (As i), (cs i)), (ez, Az, cz)] (n := 10) (b59.upd1 u23) rfl ⟨by omega, by omega, (by simp only [List.mem_cons, List.not_mem_nil, or_false, not_or]; omega)⟩ (by intro p hp; simp only [List.mem_cons, List.not_mem_nil, or_false] at hp; rcases hp with rfl | rfl; exact (KV.top ((((hch i (by omega)).ext x33).ext x34).upd u23)); exact (KV.top (((hkz.ext x33).ext x34).upd u23)))), (KV.top (((hkl2.ext x33).ext x34).upd u23)), (by omega)⟩
  refine wp_exit (Gx.then_exit (Gx.then_exit (Gx.block_exit (Gx.block_normal (Z.x ?_)))))
  have p_c36 := of_decide_eq_false h_c36
  obtain rfl : m = 0 := by omega
  have hcz : consAll q.a (nds L) = ez := hce
  try simp only [maps] at hcz
  refine Z.r [0, 1] ?_
  refine Z.L 0 (.agg (Z.T ez Az cz)) b57 ?_
  refine Z.Sa (Z.T ez Az cz) b56 (fun w60 u24 b61 zw60 => ?_)
  refine Z.e (wp_ret (Gx.ret (Gx.res_c (u := .agg (Z.T ez Az cz)) rfl (by kernel_rfl) b61 (by kernel_rfl)) ?_))
  exact hK _ ez Az cz q19 (by rw [run_succ]; simp only [stepN, atomS, roundS, squareS, squareLS, Nd.ks, maps, y33, e19, e20, kbq19, hcz, y31, h_c23, h_c36, Z.ifs, reduceIte]) f19 (gb_new (gb_upd (gb_refl w b) x32) u24) (b55.upd1 u24) (KV.top (hkz.upd u24))
end Par
end Go.Proofs.YtinilkomfggjiaaDoor
