/- The walks, written by a program of ours (wip/gx/gx.py, syngen.py). -/
import Derived.Test.YtinilkomfggjiaaRows
import Derived.Test.YtinilkomfggjiaaGs
import Derived.Test.YtinilkomfggjiaaSynPlain
import Derived.Test.YtinilkomfggjiaaLexWalks2
import Derived.Test.YtinilkomfggjiaaSynWalks2
set_option linter.unusedVariables false
set_option linter.unusedSimpArgs false
namespace Go.Proofs.Ytinilkomfggjiaa
open Go.RowKit Go.Lex Go.Syn
attribute [local irreducible] Go.wpOps Go.Code.wp Go.wpOp Go.wpAnyH Go.Calls
namespace Doc
set_option maxHeartbeats 1000000 in
set_option maxRecDepth 10000 in
theorem expr_c (k : Nat) (b : Nat) (S : ByteArray) (q : Rs) (w : World) (K : Ending → World → Prop) (ih : ∀ j, j ≤ k → Spec j) (hb : Gx.Has w b (rdO S q)) (hok : Ok S q) (hmu : 16 * M S q + 11 ≤ k + 1) (hK : ∀ w' t A c q', run S (k + 1) .expr q = (t, q') → Gx.G w w' (some b) → Gx.Has w' b (rdO S q') → KV (In w.heap.size w'.heap.size []) w' t.ks A c → K (.returned (.agg #[Z.n t.k, Z.n t.a, .string t.nm, .int .i64 t.n, .slice A t.ks.length c])) w') :
    Calls Try.prog 32 #[Z.P b 0] w K := by
  refine Gx.enter 40 Try.func32 rfl rfl (Nat.le_of_ble_eq_true rfl) ?_
  have tbb := hb.lt
  refine Z.r [0] ?_
  refine Z.N (.cells #[.int .i64 0, .int .i64 0, .string Z.E, .int .i64 0, .slice none 0 0] 24) (fun k1 w1 l1 x1 b1 zw1 tb1 => ?_)
  refine Z.e (wp_seq (Z.r [0, 1, 2] ?_))
  refine Z.p [0] [1, 2] [(4, Z.P b 0)] ?_
  refine Z.k (fun R hR => ok_c b S q _ R (hb.ext x1) (hR _ _ ?_))
  refine Z.p [2] [] [(6, .bool (!(okB q)))] ?_
  refine Z.e (Z.c (!(okB q)) (fun h_c6 => ?_) (fun h_c6 => ?_))
  · skip
    refine Z.r [0, 1] ?_
    refine Z.p [0] [1] [(7, .agg #[.int .i64 0, .int .i64 0, .string Z.E, .int .i64 0, .slice none 0 0])] ?_
    refine Z.Sa #[.int .i64 0, .int .i64 0, .string Z.E, .int .i64 0, .slice none 0 0] b1 (fun w2 u1 b2 zw2 => ?_)
    refine Z.e (wp_ret (Gx.then_ret (Gx.ret (Gx.res_c (u := .agg #[.int .i64 0, .int .i64 0, .string Z.E, .int .i64 0, .slice none 0 0]) rfl (by kernel_rfl) b2 (by kernel_rfl)) ?_)))
    have n_c6 : okB q = false := by simpa using h_c6
    exact hK _ nd0 none 0 q (by rw [run_succ]; simp only [stepN, exprS, h_c6, n_c6, Z.ifs, reduceIte]) (gb_new (gb_ext (gb_refl w b) x1) u1) ((hb.ext x1).upd1 u1) KV.nil
  refine wp_skip (Z.x (wp_seq (Z.r [0, 1, 2, 3, 4] ?_)))
  refine Z.p [0, 1, 2] [3, 4] [(10, Z.P b 8), (9, Z.P b 0), (8, Z.P b 0)] ?_
  refine Z.L 8 (Z.n q.x) (hb.ext x1) ?_
  refine Z.p [4] [] [(12, .bool (decide (((q.x : Nat) : Int) ≥ (200 : Int))))] ?_
  refine Z.e (Z.c (decide (((q.x : Nat) : Int) ≥ (200 : Int))) (fun h_c12 => ?_) (fun h_c12 => ?_))
  · skip
    refine Z.r [0, 1, 2, 3, 4, 5, 6, 7, 8, 9] ?_
    refine Z.p [0, 1, 2, 3, 4] [5, 6, 7, 8, 9] [(17, Z.P b 2), (16, Z.P b 1), (15, Z.P b 0), (14, Z.P b 0), (13, Z.P b 0)] ?_
    refine Z.L 2 (Z.n q.a) (hb.ext x1) ?_
    refine Z.p [6, 7, 8] [9] [(21, Z.P b 6), (20, Z.P b 0), (19, .agg #[.int .i64 5, Z.n q.a])] ?_
    refine Z.S 6 (.agg #[.int .i64 5, Z.n q.a]) (hb.ext x1) #[.string S, Z.n q.k, Z.n q.a, .string q.t, Z.n q.n, Z.n q.e, .int .i64 5, Z.n q.a, Z.n q.x, Z.n q.y] (fun w3 u2 b3 zw3 => ?_)
    refine Z.e (Z.r [0, 1] ?_)
    refine Z.p [0] [1] [(22, .agg #[.int .i64 0, .int .i64 0, .string Z.E, .int .i64 0, .slice none 0 0])] ?_
    have n_c6 : okB q = true := by simpa using h_c6
    have p_c12 := of_decide_eq_true h_c12
    refine Z.Sa #[.int .i64 0, .int .i64 0, .string Z.E, .int .i64 0, .slice none 0 0] (b1.upd1 u2) (fun w4 u3 b4 zw4 => ?_)
    refine Z.e (wp_ret (Gx.then_ret (Gx.ret (Gx.res_c (u := .agg #[.int .i64 0, .int .i64 0, .string Z.E, .int .i64 0, .slice none 0 0]) rfl (by kernel_rfl) b4 (by kernel_rfl)) ?_)))
    exact hK _ nd0 none 0 (⟨q.k, q.a, q.t, q.n, q.e, 5, q.a, q.x, q.y⟩ : Rs) (by rw [run_succ]; simp only [stepN, exprS, h_c6, h_c12, n_c6, Z.ifs, reduceIte]) (gb_new (gb_upd (gb_ext (gb_refl w b) x1) u2) u3) (b3.upd1 u3) KV.nil
  refine wp_skip (Z.x (Z.r [0, 1, 2, 3, 4, 5, 6, 7] ?_))
  refine Z.p [0, 1, 2] [3, 4, 5, 6, 7] [(25, Z.P b 8), (24, Z.P b 0), (23, Z.P b 0)] ?_
  refine Z.L 8 (Z.n q.x) (hb.ext x1) ?_
  have n_c6 : okB q = true := by simpa using h_c6
  have p_c12 := of_decide_eq_false h_c12
  refine Gx.pure_eq [4] [5, 6, 7] [(27, .int .i64 (IntKind.i64.wrap (((q.x : Nat) : Int) + (1 : Int))))] [(27, .int .i64 ((q.x + 1 : Nat) : Int))] rfl (by kernel_rfl) (Gx.eqI (Gx.i64n (by omega) (by omega))) ?_
  refine Z.p [5, 6] [7] [(29, Z.P b 8), (28, Z.P b 0)] ?_
  refine Z.S 8 (.int .i64 ((q.x + 1 : Nat) : Int)) (hb.ext x1) #[.string S, Z.n q.k, Z.n q.a, .string q.t, Z.n q.n, Z.n q.e, Z.n q.fk, Z.n q.fa, .int .i64 ((q.x + 1 : Nat) : Int), Z.n q.y] (fun w5 u4 b5 zw5 => ?_)
  refine Z.e (Z.r [0, 1, 2, 3] ?_)
  refine Z.p [0] [1, 2, 3] [(30, Z.P b 0)] ?_
  have ok1 : Ok S (⟨q.k, q.a, q.t, q.n, q.e, q.fk, q.fa, (q.x + 1), q.y⟩ : Rs) := ⟨hok.size, hok.e, by have := hok.x; have := hok.y; dsimp only; omega, by have := hok.x; have := hok.y; dsimp only; omega, hok.a, hok.n, hok.t, hok.k, hok.end_, hok.nm, hok.sg⟩
  have mq1 : M S (⟨q.k, q.a, q.t, q.n, q.e, q.fk, q.fa, (q.x + 1), q.y⟩ : Rs) = M S q := rfl
  refine Z.k (fun R hR => (ih k (Nat.le_refl k)).f_any b S (⟨q.k, q.a, q.t, q.n, q.e, q.fk, q.fa, (q.x + 1), q.y⟩ : Rs) _ R b5 ok1 (by omega) (fun w6 t1 A1 c1 q1 e1 x2 b6 kv1 => hR _ _ ?_))
  have zw6 := x2.size
  have tb6 := b6.lt
  obtain ⟨ok2, m1, tr1x, tr1y⟩ : Tr S (⟨q.k, q.a, q.t, q.n, q.e, q.fk, q.fa, (q.x + 1), q.y⟩ : Rs) q1 := run_facts ok1 e1
  dsimp only at tr1x tr1y
  refine Z.N (.cells #[.int .i64 0, .int .i64 0, .string Z.E, .int .i64 0, .slice none 0 0] 24) (fun k2 w7 l2 x3 b7 zw7 tb7 => ?_)
  refine Z.Sa #[Z.n t1.k, Z.n t1.a, .string t1.nm, .int .i64 t1.n, .slice A1 t1.ks.length c1] b7 (fun w8 u5 b8 zw8 => ?_)
  refine Z.e (Z.r [0, 1, 2, 3, 4, 5, 6, 7] ?_)
  refine Z.p [0, 1, 2] [3, 4, 5, 6, 7] [(34, Z.P b 8), (33, Z.P b 0), (32, Z.P b 0)] ?_
  refine Z.L 8 (Z.n q1.x) ((b6.ext x3).upd1 u5) ?_
  refine Gx.pure_eq [4] [5, 6, 7] [(36, .int .i64 (IntKind.i64.wrap (((q1.x : Nat) : Int) - (1 : Int))))] [(36, .int .i64 ((q1.x - 1 : Nat) : Int))] rfl (by kernel_rfl) (Gx.eqI (by rw [IntWalk.i64_in _ (by omega)]; omega)) ?_
  refine Z.p [5, 6] [7] [(38, Z.P b 8), (37, Z.P b 0)] ?_
  refine Z.S 8 (.int .i64 ((q1.x - 1 : Nat) : Int)) ((b6.ext x3).upd1 u5) #[.string S, Z.n q1.k, Z.n q1.a, .string q1.t, Z.n q1.n, Z.n q1.e, Z.n q1.fk, Z.n q1.fa, .int .i64 ((q1.x - 1 : Nat) : Int), Z.n q1.y] (fun w9 u6 b9 zw9 => ?_)
  refine Z.e (Z.r [0, 1] ?_)
  refine Z.L 0 (.agg #[Z.n t1.k, Z.n t1.a, .string t1.nm, .int .i64 t1.n, .slice A1 t1.ks.length c1]) (b8.upd1 u6) ?_
  refine Z.Sa #[Z.n t1.k, Z.n t1.a, .string t1.nm, .int .i64 t1.n, .slice A1 t1.ks.length c1] (((((b1.upd1 u4).upd1 x2).ext x3).upd1 u5).upd1 u6) (fun w10 u7 b10 zw10 => ?_)
  refine Z.e (wp_ret (Gx.ret (Gx.res_c (u := .agg #[Z.n t1.k, Z.n t1.a, .string t1.nm, .int .i64 t1.n, .slice A1 t1.ks.length c1]) rfl (by kernel_rfl) b10 (by kernel_rfl)) ?_))
  exact hK _ t1 A1 c1 (⟨q1.k, q1.a, q1.t, q1.n, q1.e, q1.fk, q1.fa, (q1.x - 1), q1.y⟩ : Rs) (by rw [run_succ]; simp only [stepN, exprS, e1, h_c6, h_c12, n_c6, Z.ifs, reduceIte]) (gb_new (gb_upd (gb_new (gb_ext (gb_upd (gb_upd (gb_ext (gb_refl w b) x1) u4) x2) x3) u5) u6) u7) (b9.upd1 u7) (KV.top ((((kv1.ext x3).upd u5).upd u6).upd u7))
set_option maxHeartbeats 1000000 in
set_option maxRecDepth 10000 in
theorem any_c (k : Nat) (b : Nat) (S : ByteArray) (q : Rs) (w : World) (K : Ending → World → Prop) (ih : ∀ j, j ≤ k → Spec j) (hb : Gx.Has w b (rdO S q)) (hok : Ok S q) (hmu : 16 * M S q + 10 ≤ k + 1) (hK : ∀ w' t A c q', run S (k + 1) .any q = (t, q') → Gx.G w w' (some b) → Gx.Has w' b (rdO S q') → KV (In w.heap.size w'.heap.size []) w' t.ks A c → K (.returned (.agg #[Z.n t.k, Z.n t.a, .string t.nm, .int .i64 t.n, .slice A t.ks.length c])) w') :
    Calls Try.prog 49 #[Z.P b 0] w K := by
  refine Gx.enter 77 Try.func49 rfl rfl (Nat.le_of_ble_eq_true rfl) ?_
  have tbb := hb.lt
  refine Z.r [0] ?_
  refine Z.N (.cells #[.int .i64 0, .int .i64 0, .string Z.E, .int .i64 0, .slice none 0 0] 24) (fun k1 w1 l1 x1 b1 zw1 tb1 => ?_)
  refine Z.e (Z.r [0, 1, 2, 3, 4, 5] ?_)
  refine Z.p [0, 1, 2, 3] [4, 5] [(13, Z.P b 2), (12, Z.P b 1), (11, Z.P b 0), (10, Z.P b 0)] ?_
  refine Z.L 2 (Z.n q.a) (hb.ext x1) ?_
  refine Z.p [5] [] [(3, Z.n q.a)] ?_
  refine Z.e (wp_seq (wp_block (Z.r [0, 1, 2] ?_)))
  refine Z.p [0] [1, 2] [(16, Z.P b 0)] ?_
  refine Z.k (fun R hR => has_c b S q (Z.B [108, 101, 116]) _ R (hb.ext x1) hok (fun w2 q1 e1 x2 b2 => hR _ _ ?_))
  have zw2 := x2.size
  have tb2 := b2.lt
  obtain ⟨ok1, m1, tr1x, tr1y⟩ : Tr S q q1 := e1 ▸ has_tr hok
  refine Z.p [2] [] [(15, .bool (isB q (Z.B [108, 101, 116])))] ?_
  refine Z.e (Z.c (isB q (Z.B [108, 101, 116])) (fun h_c15 => ?_) (fun h_c15 => ?_))
  · skip
    refine Z.r [0, 1, 2, 3] ?_
    refine Z.p [0, 1] [2, 3] [(19, Z.n q.a), (18, Z.P b 0)] ?_
    have lt1 := (by have := has_lt hok h_c15; rw [e1] at this; exact this : M S q1 < M S q)
    refine Z.k (fun R hR => (ih k (Nat.le_refl k)).f_letN b S q1 q.a _ R b2 ok1 (by omega) (fun w3 t1 A1 c1 q2 e2 x3 b3 kv1 => hR _ _ ?_))
    have zw3 := x3.size
    have tb3 := b3.lt
    obtain ⟨ok2, m2, tr2x, tr2y⟩ : Tr S q1 q2 := run_facts ok1 e2
    refine Z.Sa #[Z.n t1.k, Z.n t1.a, .string t1.nm, .int .i64 t1.n, .slice A1 t1.ks.length c1] ((b1.upd1 x2).upd1 x3) (fun w4 u1 b4 zw4 => ?_)
    refine Z.e (wp_ret (Gx.block_ret (Gx.then_ret (Gx.ret (Gx.res_c (u := .agg #[Z.n t1.k, Z.n t1.a, .string t1.nm, .int .i64 t1.n, .slice A1 t1.ks.length c1]) rfl (by kernel_rfl) b4 (by kernel_rfl)) ?_))))
    exact hK _ t1 A1 c1 q2 (by rw [run_succ]; simp only [stepN, anyS, e1, e2, h_c15, Z.ifs, reduceIte]) (gb_new (gb_upd (gb_upd (gb_ext (gb_refl w b) x1) x2) x3) u1) (b3.upd1 u1) (KV.top (kv1.upd u1))
  refine Z.r [0, 1, 2] ?_
  refine Z.p [0] [1, 2] [(22, Z.P b 0)] ?_
  refine Z.k (fun R hR => has_c b S q1 (Z.B [102, 110]) _ R b2 ok1 (fun w5 q3 e3 x4 b5 => hR _ _ ?_))
  have zw5 := x4.size
  have tb5 := b5.lt
  obtain ⟨ok3, m3, tr3x, tr3y⟩ : Tr S q1 q3 := e3 ▸ has_tr ok1
  refine Z.p [2] [] [(21, .bool (isB q1 (Z.B [102, 110])))] ?_
  refine Z.e (Z.c (isB q1 (Z.B [102, 110])) (fun h_c21 => ?_) (fun h_c21 => ?_))
  · skip
    refine Z.r [0, 1, 2, 3] ?_
    refine Z.p [0] [1, 2, 3] [(24, Z.P b 0)] ?_
    have lt2 := (by have := has_lt ok1 h_c21; rw [e3] at this; exact this : M S q3 < M S q1)
    refine Z.k (fun R hR => (ih k (Nat.le_refl k)).f_params b S q3 (Z.B [61, 62]) true _ R b5 ok3 (by omega) (fun w6 t2 A2 c2 q4 e4 x5 b6 kv2 => hR _ _ ?_))
    have zw6 := x5.size
    have tb6 := b6.lt
    obtain ⟨ok4, m4, tr4x, tr4y⟩ : Tr S q3 q4 := run_facts ok3 e4
    refine Z.N (.cells #[.int .i64 0, .int .i64 0, .string Z.E, .int .i64 0, .slice none 0 0] 24) (fun k2 w7 l2 x6 b7 zw7 tb7 => ?_)
    refine Z.Sa #[Z.n t2.k, Z.n t2.a, .string t2.nm, .int .i64 t2.n, .slice A2 t2.ks.length c2] b7 (fun w8 u2 b8 zw8 => ?_)
    refine Z.e (Z.r [0, 1, 2] ?_)
    refine Z.p [0, 1] [2] [(27, Z.P k2 1), (26, Z.n q.a)] ?_
    refine Z.S 1 (Z.n q.a) b8 #[Z.n t2.k, Z.n q.a, .string t2.nm, .int .i64 t2.n, .slice A2 t2.ks.length c2] (fun w9 u3 b9 zw9 => ?_)
    refine Z.e (Z.r [0, 1] ?_)
    refine Z.L 0 (.agg #[Z.n t2.k, Z.n q.a, .string t2.nm, .int .i64 t2.n, .slice A2 t2.ks.length c2]) b9 ?_
    refine Z.Sa #[Z.n t2.k, Z.n q.a, .string t2.nm, .int .i64 t2.n, .slice A2 t2.ks.length c2] ((((((b1.upd1 x2).upd1 x4).upd1 x5).ext x6).upd1 u2).upd1 u3) (fun w10 u4 b10 zw10 => ?_)
    refine Z.e (wp_ret (Gx.block_ret (Gx.then_ret (Gx.ret (Gx.res_c (u := .agg #[Z.n t2.k, Z.n q.a, .string t2.nm, .int .i64 t2.n, .slice A2 t2.ks.length c2]) rfl (by kernel_rfl) b10 (by kernel_rfl)) ?_))))
    exact hK _ (Nd.mk t2.k q.a t2.nm t2.n t2.ks) A2 c2 q4 (by rw [run_succ]; simp only [stepN, anyS, e1, e3, e4, h_c15, h_c21, Z.ifs, reduceIte]) (gb_new (gb_new (gb_new (gb_ext (gb_upd (gb_upd (gb_upd (gb_ext (gb_refl w b) x1) x2) x4) x5) x6) u2) u3) u4) ((((b6.ext x6).upd1 u2).upd1 u3).upd1 u4) (KV.top ((((kv2.ext x6).upd u2).upd u3).upd u4))
  refine Z.r [0, 1, 2] ?_
  refine Z.p [0] [1, 2] [(30, Z.P b 0)] ?_
  refine Z.k (fun R hR => has_c b S q3 (Z.B [105, 102]) _ R b5 ok3 (fun w11 q5 e5 x7 b11 => hR _ _ ?_))
  have zw11 := x7.size
  have tb11 := b11.lt
  obtain ⟨ok5, m5, tr5x, tr5y⟩ : Tr S q3 q5 := e5 ▸ has_tr ok3
  refine Z.p [2] [] [(29, .bool (isB q3 (Z.B [105, 102])))] ?_
  refine Z.e (Z.c (isB q3 (Z.B [105, 102])) (fun h_c29 => ?_) (fun h_c29 => ?_))
  · skip
    refine Z.r [0, 1, 2, 3] ?_
    refine Z.p [0] [1, 2, 3] [(32, Z.P b 0)] ?_
    have lt3 := (by have := has_lt ok3 h_c29; rw [e5] at this; exact this : M S q5 < M S q3)
    refine Z.k (fun R hR => (ih k (Nat.le_refl k)).f_expr b S q5 _ R b11 ok5 (by omega) (fun w12 t3 A3 c3 q6 e6 x8 b12 kv3 => hR _ _ ?_))
    have zw12 := x8.size
    have tb12 := b12.lt
    obtain ⟨ok6, m6, tr6x, tr6y⟩ : Tr S q5 q6 := run_facts ok5 e6
    refine Z.N (.cells #[.int .i64 0, .int .i64 0, .string Z.E, .int .i64 0, .slice none 0 0] 24) (fun k3 w13 l3 x9 b13 zw13 tb13 => ?_)
    refine Z.Sa #[Z.n t3.k, Z.n t3.a, .string t3.nm, .int .i64 t3.n, .slice A3 t3.ks.length c3] b13 (fun w14 u5 b14 zw14 => ?_)
    refine Z.e (Z.r [0, 1] ?_)
    refine Z.p [0] [1] [(34, Z.P b 0)] ?_
    refine Z.k (fun R hR => must_c b S q6 (Z.B [116, 104, 101, 110]) _ R ((b12.ext x9).upd1 u5) ok6 (fun w15 q7 e7 x10 b15 => hR _ _ ?_))
    have zw15 := x10.size
    have tb15 := b15.lt
    obtain ⟨ok7, m7, tr7x, tr7y⟩ : Tr S q6 q7 := e7 ▸ must_tr ok6
    refine Z.e (Z.r [0, 1, 2, 3] ?_)
    refine Z.p [0] [1, 2, 3] [(36, Z.P b 0)] ?_
    refine Z.k (fun R hR => (ih k (Nat.le_refl k)).f_expr b S q7 _ R b15 ok7 (by omega) (fun w16 t4 A4 c4 q8 e8 x11 b16 kv4 => hR _ _ ?_))
    have zw16 := x11.size
    have tb16 := b16.lt
    obtain ⟨ok8, m8, tr8x, tr8y⟩ : Tr S q7 q8 := run_facts ok7 e8
    refine Z.N (.cells #[.int .i64 0, .int .i64 0, .string Z.E, .int .i64 0, .slice none 0 0] 24) (fun k4 w17 l4 x12 b17 zw17 tb17 => ?_)
    refine Z.Sa #[Z.n t4.k, Z.n t4.a, .string t4.nm, .int .i64 t4.n, .slice A4 t4.ks.length c4] b17 (fun w18 u6 b18 zw18 => ?_)
    refine Z.e (Z.r [0, 1] ?_)
    refine Z.p [0] [1] [(38, Z.P b 0)] ?_
    refine Z.k (fun R hR => must_c b S q8 (Z.B [101, 108, 115, 101]) _ R ((b16.ext x12).upd1 u6) ok8 (fun w19 q9 e9 x13 b19 => hR _ _ ?_))
    have zw19 := x13.size
    have tb19 := b19.lt
    obtain ⟨ok9, m9, tr9x, tr9y⟩ : Tr S q8 q9 := e9 ▸ must_tr ok8
    refine Z.e (Z.r [0, 1, 2, 3] ?_)
    refine Z.p [0] [1, 2, 3] [(40, Z.P b 0)] ?_
    refine Z.k (fun R hR => (ih k (Nat.le_refl k)).f_expr b S q9 _ R b19 ok9 (by omega) (fun w20 t5 A5 c5 q10 e10 x14 b20 kv5 => hR _ _ ?_))
    have zw20 := x14.size
    have tb20 := b20.lt
    obtain ⟨ok10, m10, tr10x, tr10y⟩ : Tr S q9 q10 := run_facts ok9 e10
    refine Z.N (.cells #[.int .i64 0, .int .i64 0, .string Z.E, .int .i64 0, .slice none 0 0] 24) (fun k5 w21 l5 x15 b21 zw21 tb21 => ?_)
    refine Z.Sa #[Z.n t5.k, Z.n t5.a, .string t5.nm, .int .i64 t5.n, .slice A5 t5.ks.length c5] b21 (fun w22 u7 b22 zw22 => ?_)
    refine Z.e (Z.r [0, 1, 2, 3, 4, 5, 6] ?_)
    refine Z.p [0] [1, 2, 3, 4, 5, 6] [(42, Z.n q.a)] ?_
    refine Z.L 0 (.agg #[Z.n t3.k, Z.n t3.a, .string t3.nm, .int .i64 t3.n, .slice A3 t3.ks.length c3]) ((((((((b14.upd1 x10).upd1 x11).ext x12).upd1 u6).upd1 x13).upd1 x14).ext x15).upd1 u7) ?_
    refine Z.L 0 (.agg #[Z.n t4.k, Z.n t4.a, .string t4.nm, .int .i64 t4.n, .slice A4 t4.ks.length c4]) ((((b18.upd1 x13).upd1 x14).ext x15).upd1 u7) ?_
    refine Z.L 0 (.agg #[Z.n t5.k, Z.n t5.a, .string t5.nm, .int .i64 t5.n, .slice A5 t5.ks.length c5]) b22 ?_
    refine Z.R (.cells #[Z.n t3.k, Z.n t3.a, .string t3.nm, .int .i64 t3.n, .slice A3 t3.ks.length c3, Z.n t4.k, Z.n t4.a, .string t4.nm, .int .i64 t4.n, .slice A4 t4.ks.length c4, Z.n t5.k, Z.n t5.a, .string t5.nm, .int .i64 t5.n, .slice A5 t5.ks.length c5] 24) 3 3 (fun k6 w23 l6 x16 b23 zw23 tb23 => ?_)
    refine Z.k (fun R hR => Node_c (11 : Int) ((q.a : Nat) : Int) (some (⟨k6, 0, none⟩ : Addr)) 3 3 _ R (fun w24 x17 => hR _ _ ?_))
    have zw24 := x17.size
    refine Z.Sa #[.int .i64 11, Z.n q.a, .string Z.E, .int .i64 0, .slice (some ⟨k6, 0, none⟩) 3 3] ((((((((((((((((b1.upd1 x2).upd1 x4).upd1 x7).upd1 x8).ext x9).upd1 u5).upd1 x10).upd1 x11).ext x12).upd1 u6).upd1 x13).upd1 x14).ext x15).upd1 u7).ext x16).ext x17) (fun w25 u8 b24 zw25 => ?_)
    refine Z.e (wp_ret (Gx.block_ret (Gx.then_ret (Gx.ret (Gx.res_c (u := .agg #[.int .i64 11, Z.n q.a, .string Z.E, .int .i64 0, .slice (some ⟨k6, 0, none⟩) 3 3]) rfl (by kernel_rfl) b24 (by kernel_rfl)) ?_))))
    exact hK _ (Nd.mk 11 q.a Z.E (0 : Int) [t3, t4, t5]) (some (⟨k6, 0, none⟩ : Addr)) 3 q10 (by rw [run_succ]; simp only [stepN, anyS, e1, e3, e5, e6, e7, e8, e9, e10, h_c15, h_c21, h_c29, Z.ifs, reduceIte]) (gb_new (gb_ext (gb_ext (gb_new (gb_ext (gb_upd (gb_upd (gb_new (gb_ext (gb_upd (gb_upd (gb_new (gb_ext (gb_upd (gb_upd (gb_upd (gb_upd (gb_ext (gb_refl w b) x1) x2) x4) x7) x8) x9) u5) x10) x11) x12) u6) x13) x14) x15) u7) x16) x17) u8) (((((b20.ext x15).upd1 u7).ext x16).ext x17).upd1 u8) (KV.of_row [(t3, A3, c3), (t4, A4, c4), (t5, A5, c5)] (n := 15) ((b23.ext x17).upd1 u8) rfl ⟨by omega, by omega, (fun hj => by cases hj)⟩ (by intro p hp; simp only [List.mem_cons, List.not_mem_nil, or_false] at hp; rcases hp with rfl | rfl | rfl; exact (KV.top (((((((((((((kv3.ext x9).upd u5).upd x10).upd x11).ext x12).upd u6).upd x13).upd x14).ext x15).upd u7).ext x16).ext x17).upd u8)); exact (KV.top (((((((((kv4.ext x12).upd u6).upd x13).upd x14).ext x15).upd u7).ext x16).ext x17).upd u8)); exact (KV.top (((((kv5.ext x15).upd u7).ext x16).ext x17).upd u8))))
  refine Z.r [0, 1, 2] ?_
  refine Z.p [0] [1, 2] [(49, Z.P b 0)] ?_
  refine Z.k (fun R hR => has_c b S q5 (Z.B [99, 97, 115, 101]) _ R b11 ok5 (fun w26 q11 e11 x18 b25 => hR _ _ ?_))
  have zw26 := x18.size
  have tb25 := b25.lt
  obtain ⟨ok11, m11, tr11x, tr11y⟩ : Tr S q5 q11 := e11 ▸ has_tr ok5
  refine Z.p [2] [] [(48, .bool (isB q5 (Z.B [99, 97, 115, 101])))] ?_
  refine Z.e (Z.c (isB q5 (Z.B [99, 97, 115, 101])) (fun h_c48 => ?_) (fun h_c48 => ?_))
  · skip
    refine Z.r [0, 1, 2, 3] ?_
    refine Z.p [0, 1] [2, 3] [(52, Z.n q.a), (51, Z.P b 0)] ?_
    have lt4 := (by have := has_lt ok5 h_c48; rw [e11] at this; exact this : M S q11 < M S q5)
    refine Z.k (fun R hR => (ih k (Nat.le_refl k)).f_cases b S q11 q.a _ R b25 ok11 (by omega) (fun w27 t6 A6 c6 q12 e12 x19 b26 kv6 => hR _ _ ?_))
    have zw27 := x19.size
    have tb26 := b26.lt
    obtain ⟨ok12, m12, tr12x, tr12y⟩ : Tr S q11 q12 := run_facts ok11 e12
    refine Z.Sa #[Z.n t6.k, Z.n t6.a, .string t6.nm, .int .i64 t6.n, .slice A6 t6.ks.length c6] (((((b1.upd1 x2).upd1 x4).upd1 x7).upd1 x18).upd1 x19) (fun w28 u9 b27 zw28 => ?_)
    refine Z.e (wp_ret (Gx.block_ret (Gx.then_ret (Gx.ret (Gx.res_c (u := .agg #[Z.n t6.k, Z.n t6.a, .string t6.nm, .int .i64 t6.n, .slice A6 t6.ks.length c6]) rfl (by kernel_rfl) b27 (by kernel_rfl)) ?_))))
    exact hK _ t6 A6 c6 q12 (by rw [run_succ]; simp only [stepN, anyS, e1, e3, e5, e11, e12, h_c15, h_c21, h_c29, h_c48, Z.ifs, reduceIte]) (gb_new (gb_upd (gb_upd (gb_upd (gb_upd (gb_upd (gb_ext (gb_refl w b) x1) x2) x4) x7) x18) x19) u9) (b26.upd1 u9) (KV.top (kv6.upd u9))
  refine Z.r [0, 1, 2, 3, 4, 5, 6] ?_
  refine Z.p [0] [1, 2, 3, 4, 5, 6] [(55, Z.P b 0)] ?_
  refine Z.k (fun R hR => is_c b S q11 (Z.B [104, 97, 110, 100, 108, 101]) _ R b25 (hR _ _ ?_))
  refine Z.p [2] [3, 4, 5, 6] [(57, .bool (isB q11 (Z.B [104, 97, 110, 100, 108, 101])))] ?_
  refine Gx.split (isB q11 (Z.B [104, 97, 110, 100, 108, 101])) (fun h_g57 => ?_) (fun h_g57 => ?_)
  · rw [h_g57]
    refine Z.p [3, 4, 5, 6] [] [(54, .bool true), (60, .bool true), (59, undef), (58, undef)] ?_
    refine Z.e (Z.ct ?_)
    refine Z.r [0, 1, 2, 3] ?_
    refine Z.p [0, 1] [2, 3] [(62, Z.n q.a), (61, Z.P b 0)] ?_
    refine Z.k (fun R hR => (ih k (Nat.le_refl k)).f_handle b S q11 q.a _ R b25 ok11 (by omega) (.inl h_g57) (fun w29 t7 A7 c7 q13 e13 x20 b28 kv7 => hR _ _ ?_))
    have zw29 := x20.size
    have tb28 := b28.lt
    obtain ⟨ok13, m13, tr13x, tr13y⟩ : Tr S q11 q13 := run_facts ok11 e13
    refine Z.Sa #[Z.n t7.k, Z.n t7.a, .string t7.nm, .int .i64 t7.n, .slice A7 t7.ks.length c7] (((((b1.upd1 x2).upd1 x4).upd1 x7).upd1 x18).upd1 x20) (fun w30 u10 b29 zw30 => ?_)
    refine Z.e (wp_ret (Gx.block_ret (Gx.then_ret (Gx.ret (Gx.res_c (u := .agg #[Z.n t7.k, Z.n t7.a, .string t7.nm, .int .i64 t7.n, .slice A7 t7.ks.length c7]) rfl (by kernel_rfl) b29 (by kernel_rfl)) ?_))))
    exact hK _ t7 A7 c7 q13 (by rw [run_succ]; simp only [stepN, anyS, e1, e3, e5, e11, e13, h_c15, h_c21, h_c29, h_c48, h_g57, Z.ifs, reduceIte]) (gb_new (gb_upd (gb_upd (gb_upd (gb_upd (gb_upd (gb_ext (gb_refl w b) x1) x2) x4) x7) x18) x20) u10) (b28.upd1 u10) (KV.top (kv7.upd u10))
  rw [h_g57]
  refine Z.p [3] [4, 5, 6] [(58, Z.P b 0)] ?_
  refine Z.k (fun R hR => is_c b S q11 (Z.B [115, 104, 97, 108, 108, 111, 119]) _ R b25 (hR _ _ ?_))
  refine Z.p [5, 6] [] [(54, .bool (isB q11 (Z.B [115, 104, 97, 108, 108, 111, 119]))), (60, .bool (isB q11 (Z.B [115, 104, 97, 108, 108, 111, 119])))] ?_
  refine Z.e (Z.c (isB q11 (Z.B [115, 104, 97, 108, 108, 111, 119])) (fun h_c54 => ?_) (fun h_c54 => ?_))
  · skip
    refine Z.r [0, 1, 2, 3] ?_
    refine Z.p [0, 1] [2, 3] [(62, Z.n q.a), (61, Z.P b 0)] ?_
    refine Z.k (fun R hR => (ih k (Nat.le_refl k)).f_handle b S q11 q.a _ R b25 ok11 (by omega) (.inr h_c54) (fun w31 t8 A8 c8 q14 e14 x21 b30 kv8 => hR _ _ ?_))
    have zw31 := x21.size
    have tb30 := b30.lt
    obtain ⟨ok14, m14, tr14x, tr14y⟩ : Tr S q11 q14 := run_facts ok11 e14
    refine Z.Sa #[Z.n t8.k, Z.n t8.a, .string t8.nm, .int .i64 t8.n, .slice A8 t8.ks.length c8] (((((b1.upd1 x2).upd1 x4).upd1 x7).upd1 x18).upd1 x21) (fun w32 u11 b31 zw32 => ?_)
    refine Z.e (wp_ret (Gx.block_ret (Gx.then_ret (Gx.ret (Gx.res_c (u := .agg #[Z.n t8.k, Z.n t8.a, .string t8.nm, .int .i64 t8.n, .slice A8 t8.ks.length c8]) rfl (by kernel_rfl) b31 (by kernel_rfl)) ?_))))
    exact hK _ t8 A8 c8 q14 (by rw [run_succ]; simp only [stepN, anyS, e1, e3, e5, e11, e14, h_c15, h_c21, h_c29, h_c48, h_g57, h_c54, Z.ifs, reduceIte]) (gb_new (gb_upd (gb_upd (gb_upd (gb_upd (gb_upd (gb_ext (gb_refl w b) x1) x2) x4) x7) x18) x21) u11) (b30.upd1 u11) (KV.top (kv8.upd u11))
  refine wp_skip (Gx.block_normal (Z.x (Z.r [0, 1, 2, 3] ?_)))
  refine Z.p [0] [1, 2, 3] [(64, Z.P b 0)] ?_
  refine Z.k (fun R hR => (ih k (Nat.le_refl k)).f_comp b S q11 _ R b25 ok11 (by omega) (fun w33 t9 A9 c9 q15 e15 x22 b32 kv9 => hR _ _ ?_))
  have zw33 := x22.size
  have tb32 := b32.lt
  obtain ⟨ok15, m15, tr15x, tr15y⟩ : Tr S q11 q15 := run_facts ok11 e15
  refine Z.N (.cells #[.int .i64 0, .int .i64 0, .string Z.E, .int .i64 0, .slice none 0 0] 24) (fun k7 w34 l7 x23 b33 zw34 tb33 => ?_)
  refine Z.Sa #[Z.n t9.k, Z.n t9.a, .string t9.nm, .int .i64 t9.n, .slice A9 t9.ks.length c9] b33 (fun w35 u12 b34 zw35 => ?_)
  refine Z.e (wp_seq (Z.r [0, 1] ?_))
  refine Z.p [0] [1] [(66, Z.P b 0)] ?_
  refine Z.k (fun R hR => has_c b S q15 (Z.B [59]) _ R ((b32.ext x23).upd1 u12) ok15 (fun w36 q16 e16 x24 b35 => hR _ _ ?_))
  have zw36 := x24.size
  have tb35 := b35.lt
  obtain ⟨ok16, m16, tr16x, tr16y⟩ : Tr S q15 q16 := e16 ▸ has_tr ok15
  refine Z.e (Z.c (isB q15 (Z.B [59])) (fun h_c67 => ?_) (fun h_c67 => ?_))
  · skip
    refine Z.r [0, 1, 2, 3] ?_
    refine Z.p [0] [1, 2, 3] [(68, Z.P b 0)] ?_
    have lt5 := (by have := has_lt ok15 h_c67; rw [e16] at this; exact this : M S q16 < M S q15)
    refine Z.k (fun R hR => (ih k (Nat.le_refl k)).f_expr b S q16 _ R b35 ok16 (by omega) (fun w37 t10 A10 c10 q17 e17 x25 b36 kv10 => hR _ _ ?_))
    have zw37 := x25.size
    have tb36 := b36.lt
    obtain ⟨ok17, m17, tr17x, tr17y⟩ : Tr S q16 q17 := run_facts ok16 e17
    refine Z.N (.cells #[.int .i64 0, .int .i64 0, .string Z.E, .int .i64 0, .slice none 0 0] 24) (fun k8 w38 l8 x26 b37 zw38 tb37 => ?_)
    refine Z.Sa #[Z.n t10.k, Z.n t10.a, .string t10.nm, .int .i64 t10.n, .slice A10 t10.ks.length c10] b37 (fun w39 u13 b38 zw39 => ?_)
    refine Z.e (Z.r [0, 1, 2, 3, 4, 5, 6] ?_)
    refine Z.p [0] [1, 2, 3, 4, 5, 6] [(70, Z.P k7 1)] ?_
    refine Z.L 1 (Z.n t9.a) ((((b34.upd1 x24).upd1 x25).ext x26).upd1 u13) ?_
    refine Z.L 0 (.agg #[Z.n t9.k, Z.n t9.a, .string t9.nm, .int .i64 t9.n, .slice A9 t9.ks.length c9]) ((((b34.upd1 x24).upd1 x25).ext x26).upd1 u13) ?_
    refine Z.L 0 (.agg #[Z.n t10.k, Z.n t10.a, .string t10.nm, .int .i64 t10.n, .slice A10 t10.ks.length c10]) b38 ?_
    refine Z.R (.cells #[Z.n t9.k, Z.n t9.a, .string t9.nm, .int .i64 t9.n, .slice A9 t9.ks.length c9, Z.n t10.k, Z.n t10.a, .string t10.nm, .int .i64 t10.n, .slice A10 t10.ks.length c10] 24) 2 2 (fun k9 w40 l9 x27 b39 zw40 tb39 => ?_)
    refine Z.k (fun R hR => Node_c (10 : Int) ((t9.a : Nat) : Int) (some (⟨k9, 0, none⟩ : Addr)) 2 2 _ R (fun w41 x28 => hR _ _ ?_))
    have zw41 := x28.size
    refine Z.Sa #[.int .i64 10, Z.n t9.a, .string Z.E, .int .i64 0, .slice (some ⟨k9, 0, none⟩) 2 2] (((((((((((((b1.upd1 x2).upd1 x4).upd1 x7).upd1 x18).upd1 x22).ext x23).upd1 u12).upd1 x24).upd1 x25).ext x26).upd1 u13).ext x27).ext x28) (fun w42 u14 b40 zw42 => ?_)
    refine Z.e (wp_ret (Gx.then_ret (Gx.ret (Gx.res_c (u := .agg #[.int .i64 10, Z.n t9.a, .string Z.E, .int .i64 0, .slice (some ⟨k9, 0, none⟩) 2 2]) rfl (by kernel_rfl) b40 (by kernel_rfl)) ?_)))
    exact hK _ (Nd.mk 10 t9.a Z.E (0 : Int) [t9, t10]) (some (⟨k9, 0, none⟩ : Addr)) 2 q17 (by rw [run_succ]; simp only [stepN, anyS, e1, e3, e5, e11, e15, e16, e17, h_c15, h_c21, h_c29, h_c48, h_g57, h_c54, h_c67, Z.ifs, reduceIte]) (gb_new (gb_ext (gb_ext (gb_new (gb_ext (gb_upd (gb_upd (gb_new (gb_ext (gb_upd (gb_upd (gb_upd (gb_upd (gb_upd (gb_ext (gb_refl w b) x1) x2) x4) x7) x18) x22) x23) u12) x24) x25) x26) u13) x27) x28) u14) (((((b36.ext x26).upd1 u13).ext x27).ext x28).upd1 u14) (KV.of_row [(t9, A9, c9), (t10, A10, c10)] (n := 10) ((b39.ext x28).upd1 u14) rfl ⟨by omega, by omega, (fun hj => by cases hj)⟩ (by intro p hp; simp only [List.mem_cons, List.not_mem_nil, or_false] at hp; rcases hp with rfl | rfl; exact (KV.top (((((((((kv9.ext x23).upd u12).upd x24).upd x25).ext x26).upd u13).ext x27).ext x28).upd u14)); exact (KV.top (((((kv10.ext x26).upd u13).ext x27).ext x28).upd u14))))
  refine wp_skip (Z.x (Z.r [0, 1] ?_))
  refine Z.L 0 (.agg #[Z.n t9.k, Z.n t9.a, .string t9.nm, .int .i64 t9.n, .slice A9 t9.ks.length c9]) (b34.upd1 x24) ?_
  refine Z.Sa #[Z.n t9.k, Z.n t9.a, .string t9.nm, .int .i64 t9.n, .slice A9 t9.ks.length c9] ((((((((b1.upd1 x2).upd1 x4).upd1 x7).upd1 x18).upd1 x22).ext x23).upd1 u12).upd1 x24) (fun w43 u15 b41 zw43 => ?_)
  refine Z.e (wp_ret (Gx.ret (Gx.res_c (u := .agg #[Z.n t9.k, Z.n t9.a, .string t9.nm, .int .i64 t9.n, .slice A9 t9.ks.length c9]) rfl (by kernel_rfl) b41 (by kernel_rfl)) ?_))
  exact hK _ t9 A9 c9 q16 (by rw [run_succ]; simp only [stepN, anyS, e1, e3, e5, e11, e15, e16, h_c15, h_c21, h_c29, h_c48, h_g57, h_c54, h_c67, Z.ifs, reduceIte]) (gb_new (gb_upd (gb_new (gb_ext (gb_upd (gb_upd (gb_upd (gb_upd (gb_upd (gb_ext (gb_refl w b) x1) x2) x4) x7) x18) x22) x23) u12) x24) u15) (b35.upd1 u15) (KV.top ((((kv9.ext x23).upd u12).upd x24).upd u15))
set_option maxHeartbeats 1000000 in
set_option maxRecDepth 10000 in
theorem params_c (k : Nat) (b : Nat) (S : ByteArray) (q : Rs) (sign : ByteArray) (first : Bool) (w : World) (K : Ending → World → Prop) (ih : ∀ j, j ≤ k → Spec j) (hb : Gx.Has w b (rdO S q)) (hok : Ok S q) (hmu : 16 * M S q + 12 ≤ k + 1) (hK : ∀ w' t A c q', run S (k + 1) (.params sign first) q = (t, q') → Gx.G w w' (some b) → Gx.Has w' b (rdO S q') → KV (In w.heap.size w'.heap.size []) w' t.ks A c → K (.returned (.agg #[Z.n t.k, Z.n t.a, .string t.nm, .int .i64 t.n, .slice A t.ks.length c])) w') :
    Calls Try.prog 31 #[Z.P b 0, .string sign, .bool first] w K := by
  refine Gx.enter 37 Try.func31 rfl rfl (Nat.le_of_ble_eq_true rfl) ?_
  have tbb := hb.lt
  refine Z.r [0] ?_
  refine Z.N (.cells #[.int .i64 0, .int .i64 0, .string Z.E, .int .i64 0, .slice none 0 0] 24) (fun k1 w1 l1 x1 b1 zw1 tb1 => ?_)
  refine Z.e (wp_seq (Z.r [0, 1, 2, 3, 4] ?_))
  refine Z.p [0, 1] [2, 3, 4] [(11, .bool first), (10, .bool first)] ?_
  refine Gx.split first (fun h_g11 => ?_) (fun h_g11 => ?_)
  · rw [h_g11]
    refine Z.p [2, 3, 4] [] [(14, .bool true), (13, undef), (12, undef)] ?_
    refine Z.e (Z.ct ?_)
    refine Z.r [0, 1, 2, 3, 4, 5, 6] ?_
    refine Z.p [0] [1, 2, 3, 4, 5, 6] [(16, Z.P b 0)] ?_
    refine Z.k (fun R hR => name_c b S q _ R (hb.ext x1) hok (fun w2 nm1 na1 q1 e1 x2 b2 => hR _ _ ?_))
    have zw2 := x2.size
    have tb2 := b2.lt
    obtain ⟨ok1, m1, tr1x, tr1y⟩ : Tr S q q1 := by have := name_tr hok; rw [e1] at this; exact this
    refine Z.p [2, 3, 4, 5, 6] [] [(8, Z.n na1), (7, .string nm1), (19, Z.n na1), (18, .string nm1), (15, .tuple #[.string nm1, Z.n na1])] ?_
    refine Z.e (wp_seq (Z.r [0, 1, 2] ?_))
    refine Z.p [0] [1, 2] [(20, Z.P b 0)] ?_
    refine Z.k (fun R hR => ok_c b S q1 _ R b2 (hR _ _ ?_))
    refine Z.p [2] [] [(22, .bool (!(okB q1)))] ?_
    refine Z.e (Z.c (!(okB q1)) (fun h_c22 => ?_) (fun h_c22 => ?_))
    · skip
      refine Z.r [0, 1] ?_
      refine Z.p [0] [1] [(23, .agg #[.int .i64 0, .int .i64 0, .string Z.E, .int .i64 0, .slice none 0 0])] ?_
      have n_c22 : okB q1 = false := by simpa using h_c22
      refine Z.Sa #[.int .i64 0, .int .i64 0, .string Z.E, .int .i64 0, .slice none 0 0] (b1.upd1 x2) (fun w3 u1 b3 zw3 => ?_)
      refine Z.e (wp_ret (Gx.then_ret (Gx.then_ret (Gx.ret (Gx.res_c (u := .agg #[.int .i64 0, .int .i64 0, .string Z.E, .int .i64 0, .slice none 0 0]) rfl (by kernel_rfl) b3 (by kernel_rfl)) ?_))))
      exact hK _ nd0 none 0 q1 (by rw [run_succ]; simp only [stepN, paramsS, paramS, e1, h_g11, h_c22, n_c22, Z.ifs, reduceIte]) (gb_new (gb_upd (gb_ext (gb_refl w b) x1) x2) u1) (b2.upd1 u1) KV.nil
    refine wp_skip (Z.x (Z.r [0, 1, 2, 3, 4] ?_))
    refine Z.p [0, 1] [2, 3, 4] [(25, .string sign), (24, Z.P b 0)] ?_
    have n_c22 : okB q1 = true := by simpa using h_c22
    have lt1 := (by have := name_lt (S := S) (q := q) hok (by rw [e1]; exact n_c22); rw [e1] at this; exact this : M S q1 < M S q)
    refine Z.k (fun R hR => (ih k (Nat.le_refl k)).f_params b S q1 sign false _ R b2 ok1 (by omega) (fun w4 t1 A1 c1 q2 e2 x3 b4 kv1 => hR _ _ ?_))
    have zw4 := x3.size
    have tb4 := b4.lt
    obtain ⟨ok2, m2, tr2x, tr2y⟩ : Tr S q1 q2 := run_facts ok1 e2
    refine Z.N (.cells #[.int .i64 0, .int .i64 0, .string Z.E, .int .i64 0, .slice none 0 0] 24) (fun k2 w5 l2 x4 b5 zw5 tb5 => ?_)
    refine Z.Sa #[Z.n t1.k, Z.n t1.a, .string t1.nm, .int .i64 t1.n, .slice A1 t1.ks.length c1] b5 (fun w6 u2 b6 zw6 => ?_)
    refine Z.e (Z.r [0, 1, 2, 3, 4, 5] ?_)
    refine Z.p [0, 1] [2, 3, 4, 5] [(28, .string nm1), (27, Z.n na1)] ?_
    refine Z.L 0 (.agg #[Z.n t1.k, Z.n t1.a, .string t1.nm, .int .i64 t1.n, .slice A1 t1.ks.length c1]) b6 ?_
    refine Z.R (.cells #[Z.n t1.k, Z.n t1.a, .string t1.nm, .int .i64 t1.n, .slice A1 t1.ks.length c1] 24) 1 1 (fun k3 w7 l3 x5 b7 zw7 tb7 => ?_)
    refine Z.k (fun R hR => named_c (7 : Int) ((na1 : Nat) : Int) nm1 (some (⟨k3, 0, none⟩ : Addr)) 1 1 _ R (fun w8 x6 => hR _ _ ?_))
    have zw8 := x6.size
    refine Z.Sa #[.int .i64 7, Z.n na1, .string nm1, .int .i64 0, .slice (some ⟨k3, 0, none⟩) 1 1] ((((((b1.upd1 x2).upd1 x3).ext x4).upd1 u2).ext x5).ext x6) (fun w9 u3 b8 zw9 => ?_)
    refine Z.e (wp_ret (Gx.then_ret (Gx.ret (Gx.res_c (u := .agg #[.int .i64 7, Z.n na1, .string nm1, .int .i64 0, .slice (some ⟨k3, 0, none⟩) 1 1]) rfl (by kernel_rfl) b8 (by kernel_rfl)) ?_)))
    exact hK _ (Nd.mk 7 na1 nm1 (0 : Int) [t1]) (some (⟨k3, 0, none⟩ : Addr)) 1 q2 (by rw [run_succ]; simp only [stepN, paramsS, paramS, e1, e2, h_g11, h_c22, n_c22, Z.ifs, reduceIte]) (gb_new (gb_ext (gb_ext (gb_new (gb_ext (gb_upd (gb_upd (gb_ext (gb_refl w b) x1) x2) x3) x4) u2) x5) x6) u3) (((((b4.ext x4).upd1 u2).ext x5).ext x6).upd1 u3) (KV.of_row [(t1, A1, c1)] (n := 5) ((b7.ext x6).upd1 u3) rfl ⟨by omega, by omega, (fun hj => by cases hj)⟩ (by intro p hp; simp only [List.mem_cons, List.not_mem_nil, or_false] at hp; subst hp; exact (KV.top (((((kv1.ext x4).upd u2).ext x5).ext x6).upd u3))))
  rw [h_g11]
  refine Z.p [2] [3, 4] [(12, Z.P b 0)] ?_
  refine Z.k (fun R hR => isName_c b S q _ R (hb.ext x1) (hR _ _ ?_))
  refine Z.p [4] [] [(14, .bool (isNameB q))] ?_
  refine Z.e (Z.c (isNameB q) (fun h_c14 => ?_) (fun h_c14 => ?_))
  · skip
    refine Z.r [0, 1, 2, 3, 4, 5, 6] ?_
    refine Z.p [0] [1, 2, 3, 4, 5, 6] [(16, Z.P b 0)] ?_
    refine Z.k (fun R hR => name_c b S q _ R (hb.ext x1) hok (fun w10 nm2 na2 q3 e3 x7 b9 => hR _ _ ?_))
    have zw10 := x7.size
    have tb9 := b9.lt
    obtain ⟨ok3, m3, tr3x, tr3y⟩ : Tr S q q3 := by have := name_tr hok; rw [e3] at this; exact this
    refine Z.p [2, 3, 4, 5, 6] [] [(8, Z.n na2), (7, .string nm2), (19, Z.n na2), (18, .string nm2), (15, .tuple #[.string nm2, Z.n na2])] ?_
    refine Z.e (wp_seq (Z.r [0, 1, 2] ?_))
    refine Z.p [0] [1, 2] [(20, Z.P b 0)] ?_
    refine Z.k (fun R hR => ok_c b S q3 _ R b9 (hR _ _ ?_))
    refine Z.p [2] [] [(22, .bool (!(okB q3)))] ?_
    refine Z.e (Z.c (!(okB q3)) (fun h_c22 => ?_) (fun h_c22 => ?_))
    · skip
      refine Z.r [0, 1] ?_
      refine Z.p [0] [1] [(23, .agg #[.int .i64 0, .int .i64 0, .string Z.E, .int .i64 0, .slice none 0 0])] ?_
      have n_c22 : okB q3 = false := by simpa using h_c22
      refine Z.Sa #[.int .i64 0, .int .i64 0, .string Z.E, .int .i64 0, .slice none 0 0] (b1.upd1 x7) (fun w11 u4 b10 zw11 => ?_)
      refine Z.e (wp_ret (Gx.then_ret (Gx.then_ret (Gx.ret (Gx.res_c (u := .agg #[.int .i64 0, .int .i64 0, .string Z.E, .int .i64 0, .slice none 0 0]) rfl (by kernel_rfl) b10 (by kernel_rfl)) ?_))))
      exact hK _ nd0 none 0 q3 (by rw [run_succ]; simp only [stepN, paramsS, paramS, e3, h_g11, h_c14, h_c22, n_c22, Z.ifs, reduceIte]) (gb_new (gb_upd (gb_ext (gb_refl w b) x1) x7) u4) (b9.upd1 u4) KV.nil
    refine wp_skip (Z.x (Z.r [0, 1, 2, 3, 4] ?_))
    refine Z.p [0, 1] [2, 3, 4] [(25, .string sign), (24, Z.P b 0)] ?_
    have n_c22 : okB q3 = true := by simpa using h_c22
    have lt2 := (by have := name_lt (S := S) (q := q) hok (by rw [e3]; exact n_c22); rw [e3] at this; exact this : M S q3 < M S q)
    refine Z.k (fun R hR => (ih k (Nat.le_refl k)).f_params b S q3 sign false _ R b9 ok3 (by omega) (fun w12 t2 A2 c2 q4 e4 x8 b11 kv2 => hR _ _ ?_))
    have zw12 := x8.size
    have tb11 := b11.lt
    obtain ⟨ok4, m4, tr4x, tr4y⟩ : Tr S q3 q4 := run_facts ok3 e4
    refine Z.N (.cells #[.int .i64 0, .int .i64 0, .string Z.E, .int .i64 0, .slice none 0 0] 24) (fun k4 w13 l4 x9 b12 zw13 tb12 => ?_)
    refine Z.Sa #[Z.n t2.k, Z.n t2.a, .string t2.nm, .int .i64 t2.n, .slice A2 t2.ks.length c2] b12 (fun w14 u5 b13 zw14 => ?_)
    refine Z.e (Z.r [0, 1, 2, 3, 4, 5] ?_)
    refine Z.p [0, 1] [2, 3, 4, 5] [(28, .string nm2), (27, Z.n na2)] ?_
    refine Z.L 0 (.agg #[Z.n t2.k, Z.n t2.a, .string t2.nm, .int .i64 t2.n, .slice A2 t2.ks.length c2]) b13 ?_
    refine Z.R (.cells #[Z.n t2.k, Z.n t2.a, .string t2.nm, .int .i64 t2.n, .slice A2 t2.ks.length c2] 24) 1 1 (fun k5 w15 l5 x10 b14 zw15 tb14 => ?_)
    refine Z.k (fun R hR => named_c (7 : Int) ((na2 : Nat) : Int) nm2 (some (⟨k5, 0, none⟩ : Addr)) 1 1 _ R (fun w16 x11 => hR _ _ ?_))
    have zw16 := x11.size
    refine Z.Sa #[.int .i64 7, Z.n na2, .string nm2, .int .i64 0, .slice (some ⟨k5, 0, none⟩) 1 1] ((((((b1.upd1 x7).upd1 x8).ext x9).upd1 u5).ext x10).ext x11) (fun w17 u6 b15 zw17 => ?_)
    refine Z.e (wp_ret (Gx.then_ret (Gx.ret (Gx.res_c (u := .agg #[.int .i64 7, Z.n na2, .string nm2, .int .i64 0, .slice (some ⟨k5, 0, none⟩) 1 1]) rfl (by kernel_rfl) b15 (by kernel_rfl)) ?_)))
    exact hK _ (Nd.mk 7 na2 nm2 (0 : Int) [t2]) (some (⟨k5, 0, none⟩ : Addr)) 1 q4 (by rw [run_succ]; simp only [stepN, paramsS, paramS, e3, e4, h_g11, h_c14, h_c22, n_c22, Z.ifs, reduceIte]) (gb_new (gb_ext (gb_ext (gb_new (gb_ext (gb_upd (gb_upd (gb_ext (gb_refl w b) x1) x7) x8) x9) u5) x10) x11) u6) (((((b11.ext x9).upd1 u5).ext x10).ext x11).upd1 u6) (KV.of_row [(t2, A2, c2)] (n := 5) ((b14.ext x11).upd1 u6) rfl ⟨by omega, by omega, (fun hj => by cases hj)⟩ (by intro p hp; simp only [List.mem_cons, List.not_mem_nil, or_false] at hp; subst hp; exact (KV.top (((((kv2.ext x9).upd u5).ext x10).ext x11).upd u6))))
  refine wp_skip (Z.x (Z.r [0, 1, 2] ?_))
  refine Z.p [0, 1] [2] [(33, .string sign), (32, Z.P b 0)] ?_
  refine Z.k (fun R hR => must_c b S q sign _ R (hb.ext x1) hok (fun w18 q5 e5 x12 b16 => hR _ _ ?_))
  have zw18 := x12.size
  have tb16 := b16.lt
  obtain ⟨ok5, m5, tr5x, tr5y⟩ : Tr S q q5 := e5 ▸ must_tr hok
  refine Z.e (Z.r [0, 1, 2] ?_)
  refine Z.p [0] [1, 2] [(35, Z.P b 0)] ?_
  refine Z.k (fun R hR => (ih k (Nat.le_refl k)).f_expr b S q5 _ R b16 ok5 (by omega) (fun w19 t3 A3 c3 q6 e6 x13 b17 kv3 => hR _ _ ?_))
  have zw19 := x13.size
  have tb17 := b17.lt
  obtain ⟨ok6, m6, tr6x, tr6y⟩ : Tr S q5 q6 := run_facts ok5 e6
  refine Z.Sa #[Z.n t3.k, Z.n t3.a, .string t3.nm, .int .i64 t3.n, .slice A3 t3.ks.length c3] ((b1.upd1 x12).upd1 x13) (fun w20 u7 b18 zw20 => ?_)
  refine Z.e (wp_ret (Gx.ret (Gx.res_c (u := .agg #[Z.n t3.k, Z.n t3.a, .string t3.nm, .int .i64 t3.n, .slice A3 t3.ks.length c3]) rfl (by kernel_rfl) b18 (by kernel_rfl)) ?_))
  exact hK _ t3 A3 c3 q6 (by rw [run_succ]; simp only [stepN, paramsS, paramS, e5, e6, h_g11, h_c14, Z.ifs, reduceIte]) (gb_new (gb_upd (gb_upd (gb_ext (gb_refl w b) x1) x12) x13) u7) (b17.upd1 u7) (KV.top (kv3.upd u7))
set_option maxHeartbeats 1000000 in
set_option maxRecDepth 10000 in
theorem letN_c (k : Nat) (b : Nat) (S : ByteArray) (q : Rs) (at_ : Nat) (w : World) (K : Ending → World → Prop) (ih : ∀ j, j ≤ k → Spec j) (hb : Gx.Has w b (rdO S q)) (hok : Ok S q) (hmu : 16 * M S q + 13 ≤ k + 1) (hK : ∀ w' t A c q', run S (k + 1) (.letN at_) q = (t, q') → Gx.G w w' (some b) → Gx.Has w' b (rdO S q') → KV (In w.heap.size w'.heap.size []) w' t.ks A c → K (.returned (.agg #[Z.n t.k, Z.n t.a, .string t.nm, .int .i64 t.n, .slice A t.ks.length c])) w') :
    Calls Try.prog 57 #[Z.P b 0, Z.n at_] w K := by
  refine Gx.enter 35 Try.func57 rfl rfl (Nat.le_of_ble_eq_true rfl) ?_
  have tbb := hb.lt
  refine Z.r [0] ?_
  refine Z.N (.cells #[.int .i64 0, .int .i64 0, .string Z.E, .int .i64 0, .slice none 0 0] 24) (fun k1 w1 l1 x1 b1 zw1 tb1 => ?_)
  refine Z.e (Z.s [(5, .int .i64 0)] ?_)
  refine wp_seq (Z.r [0, 1] ?_)
  refine Z.p [0] [1] [(11, Z.P b 0)] ?_
  refine Z.k (fun R hR => has_c b S q (Z.B [114, 101, 99]) _ R (hb.ext x1) hok (fun w2 q1 e1 x2 b2 => hR _ _ ?_))
  have zw2 := x2.size
  have tb2 := b2.lt
  obtain ⟨ok1, m1, tr1x, tr1y⟩ : Tr S q q1 := e1 ▸ has_tr hok
  refine Z.e (Z.c (isB q (Z.B [114, 101, 99])) (fun h_c12 => ?_) (fun h_c12 => ?_))
  · skip
    refine Z.u [(5, .int .i64 1)] ?_
    refine Z.x (Z.r [0, 1, 2, 3, 4, 5, 6] ?_)
    refine Z.p [0] [1, 2, 3, 4, 5, 6] [(14, Z.P b 0)] ?_
    refine Z.k (fun R hR => name_c b S q1 _ R b2 ok1 (fun w3 nm1 na1 q2 e2 x3 b3 => hR _ _ ?_))
    have zw3 := x3.size
    have tb3 := b3.lt
    obtain ⟨ok2, m2, tr2x, tr2y⟩ : Tr S q1 q2 := by have := name_tr ok1; rw [e2] at this; exact this
    refine Z.p [2, 3, 4, 5, 6] [] [(7, Z.n na1), (6, .string nm1), (17, Z.n na1), (16, .string nm1), (13, .tuple #[.string nm1, Z.n na1])] ?_
    refine Z.e (Z.r [0, 1, 2, 3, 4, 5] ?_)
    refine Z.p [0, 1, 2] [3, 4, 5] [(20, .bool true), (19, .int .i64 1), (18, Z.P b 0)] ?_
    have lt1 := (by have := has_lt hok h_c12; rw [e1] at this; exact this : M S q1 < M S q)
    refine Z.k (fun R hR => (ih k (Nat.le_refl k)).f_params b S q2 (Z.B [61]) true _ R b3 ok2 (by omega) (fun w4 t1 A1 c1 q3 e3 x4 b4 kv1 => hR _ _ ?_))
    have zw4 := x4.size
    have tb4 := b4.lt
    obtain ⟨ok3, m3, tr3x, tr3y⟩ : Tr S q2 q3 := run_facts ok2 e3
    refine Z.N (.cells #[.int .i64 0, .int .i64 0, .string Z.E, .int .i64 0, .slice none 0 0] 24) (fun k2 w5 l2 x5 b5 zw5 tb5 => ?_)
    refine Z.Sa #[Z.n t1.k, Z.n t1.a, .string t1.nm, .int .i64 t1.n, .slice A1 t1.ks.length c1] b5 (fun w6 u1 b6 zw6 => ?_)
    refine Z.e (Z.r [0, 1] ?_)
    refine Z.p [0] [1] [(22, Z.P b 0)] ?_
    refine Z.k (fun R hR => must_c b S q3 (Z.B [105, 110]) _ R ((b4.ext x5).upd1 u1) ok3 (fun w7 q4 e4 x6 b7 => hR _ _ ?_))
    have zw7 := x6.size
    have tb7 := b7.lt
    obtain ⟨ok4, m4, tr4x, tr4y⟩ : Tr S q3 q4 := e4 ▸ must_tr ok3
    refine Z.e (Z.r [0, 1, 2, 3] ?_)
    refine Z.p [0] [1, 2, 3] [(24, Z.P b 0)] ?_
    refine Z.k (fun R hR => (ih k (Nat.le_refl k)).f_expr b S q4 _ R b7 ok4 (by omega) (fun w8 t2 A2 c2 q5 e5 x7 b8 kv2 => hR _ _ ?_))
    have zw8 := x7.size
    have tb8 := b8.lt
    obtain ⟨ok5, m5, tr5x, tr5y⟩ : Tr S q4 q5 := run_facts ok4 e5
    refine Z.N (.cells #[.int .i64 0, .int .i64 0, .string Z.E, .int .i64 0, .slice none 0 0] 24) (fun k3 w9 l3 x8 b9 zw9 tb9 => ?_)
    refine Z.Sa #[Z.n t2.k, Z.n t2.a, .string t2.nm, .int .i64 t2.n, .slice A2 t2.ks.length c2] b9 (fun w10 u2 b10 zw10 => ?_)
    refine Z.e (Z.r [0, 1, 2, 3, 4, 5, 6, 7] ?_)
    refine Z.p [0, 1] [2, 3, 4, 5, 6, 7] [(27, .string nm1), (26, Z.n at_)] ?_
    refine Z.L 0 (.agg #[Z.n t1.k, Z.n t1.a, .string t1.nm, .int .i64 t1.n, .slice A1 t1.ks.length c1]) ((((b6.upd1 x6).upd1 x7).ext x8).upd1 u2) ?_
    refine Z.L 0 (.agg #[Z.n t2.k, Z.n t2.a, .string t2.nm, .int .i64 t2.n, .slice A2 t2.ks.length c2]) b10 ?_
    refine Z.R (.cells #[Z.n t1.k, Z.n t1.a, .string t1.nm, .int .i64 t1.n, .slice A1 t1.ks.length c1, Z.n t2.k, Z.n t2.a, .string t2.nm, .int .i64 t2.n, .slice A2 t2.ks.length c2] 24) 2 2 (fun k4 w11 l4 x9 b11 zw11 tb11 => ?_)
    refine Z.k (fun R hR => named_c (9 : Int) ((at_ : Nat) : Int) nm1 (some (⟨k4, 0, none⟩ : Addr)) 2 2 _ R (fun w12 x10 => hR _ _ ?_))
    have zw12 := x10.size
    refine Z.N (.cells #[.int .i64 0, .int .i64 0, .string Z.E, .int .i64 0, .slice none 0 0] 24) (fun k5 w13 l5 x11 b12 zw13 tb12 => ?_)
    refine Z.Sa #[.int .i64 9, Z.n at_, .string nm1, .int .i64 0, .slice (some ⟨k4, 0, none⟩) 2 2] b12 (fun w14 u3 b13 zw14 => ?_)
    refine Z.e (Z.r [0, 1, 2] ?_)
    refine Z.p [0, 1] [2] [(33, Z.P k5 3), (32, .int .i64 1)] ?_
    refine Z.S 3 (.int .i64 1) b13 #[.int .i64 9, Z.n at_, .string nm1, .int .i64 1, .slice (some ⟨k4, 0, none⟩) 2 2] (fun w15 u4 b14 zw15 => ?_)
    refine Z.e (Z.r [0, 1] ?_)
    refine Z.L 0 (.agg #[.int .i64 9, Z.n at_, .string nm1, .int .i64 1, .slice (some ⟨k4, 0, none⟩) 2 2]) b14 ?_
    refine Z.Sa #[.int .i64 9, Z.n at_, .string nm1, .int .i64 1, .slice (some ⟨k4, 0, none⟩) 2 2] ((((((((((((((b1.upd1 x2).upd1 x3).upd1 x4).ext x5).upd1 u1).upd1 x6).upd1 x7).ext x8).upd1 u2).ext x9).ext x10).ext x11).upd1 u3).upd1 u4) (fun w16 u5 b15 zw16 => ?_)
    refine Z.e (wp_ret (Gx.ret (Gx.res_c (u := .agg #[.int .i64 9, Z.n at_, .string nm1, .int .i64 1, .slice (some ⟨k4, 0, none⟩) 2 2]) rfl (by kernel_rfl) b15 (by kernel_rfl)) ?_))
    exact hK _ (Nd.mk 9 at_ nm1 (1 : Int) [t1, t2]) (some (⟨k4, 0, none⟩ : Addr)) 2 q5 (by rw [run_succ]; simp only [stepN, letS, letT, e1, e2, e3, e4, e5, h_c12, Z.ifs, reduceIte]) (gb_new (gb_new (gb_new (gb_ext (gb_ext (gb_ext (gb_new (gb_ext (gb_upd (gb_upd (gb_new (gb_ext (gb_upd (gb_upd (gb_upd (gb_ext (gb_refl w b) x1) x2) x3) x4) x5) u1) x6) x7) x8) u2) x9) x10) x11) u3) u4) u5) ((((((((b8.ext x8).upd1 u2).ext x9).ext x10).ext x11).upd1 u3).upd1 u4).upd1 u5) (KV.of_row [(t1, A1, c1), (t2, A2, c2)] (n := 10) (((((b11.ext x10).ext x11).upd1 u3).upd1 u4).upd1 u5) rfl ⟨by omega, by omega, (fun hj => by cases hj)⟩ (by intro p hp; simp only [List.mem_cons, List.not_mem_nil, or_false] at hp; rcases hp with rfl | rfl; exact (KV.top ((((((((((((kv1.ext x5).upd u1).upd x6).upd x7).ext x8).upd u2).ext x9).ext x10).ext x11).upd u3).upd u4).upd u5)); exact (KV.top ((((((((kv2.ext x8).upd u2).ext x9).ext x10).ext x11).upd u3).upd u4).upd u5))))
  refine wp_skip (Z.x (Z.r [0, 1, 2, 3, 4, 5, 6] ?_))
  refine Z.p [0] [1, 2, 3, 4, 5, 6] [(14, Z.P b 0)] ?_
  refine Z.k (fun R hR => name_c b S q1 _ R b2 ok1 (fun w17 nm2 na2 q6 e6 x12 b16 => hR _ _ ?_))
  have zw17 := x12.size
  have tb16 := b16.lt
  obtain ⟨ok6, m6, tr6x, tr6y⟩ : Tr S q1 q6 := by have := name_tr ok1; rw [e6] at this; exact this
  refine Z.p [2, 3, 4, 5, 6] [] [(7, Z.n na2), (6, .string nm2), (17, Z.n na2), (16, .string nm2), (13, .tuple #[.string nm2, Z.n na2])] ?_
  refine Z.e (Z.r [0, 1, 2, 3, 4, 5] ?_)
  refine Z.p [0, 1, 2] [3, 4, 5] [(20, .bool false), (19, .int .i64 0), (18, Z.P b 0)] ?_
  refine Z.k (fun R hR => (ih k (Nat.le_refl k)).f_params b S q6 (Z.B [61]) false _ R b16 ok6 (by omega) (fun w18 t3 A3 c3 q7 e7 x13 b17 kv3 => hR _ _ ?_))
  have zw18 := x13.size
  have tb17 := b17.lt
  obtain ⟨ok7, m7, tr7x, tr7y⟩ : Tr S q6 q7 := run_facts ok6 e7
  refine Z.N (.cells #[.int .i64 0, .int .i64 0, .string Z.E, .int .i64 0, .slice none 0 0] 24) (fun k6 w19 l6 x14 b18 zw19 tb18 => ?_)
  refine Z.Sa #[Z.n t3.k, Z.n t3.a, .string t3.nm, .int .i64 t3.n, .slice A3 t3.ks.length c3] b18 (fun w20 u6 b19 zw20 => ?_)
  refine Z.e (Z.r [0, 1] ?_)
  refine Z.p [0] [1] [(22, Z.P b 0)] ?_
  refine Z.k (fun R hR => must_c b S q7 (Z.B [105, 110]) _ R ((b17.ext x14).upd1 u6) ok7 (fun w21 q8 e8 x15 b20 => hR _ _ ?_))
  have zw21 := x15.size
  have tb20 := b20.lt
  obtain ⟨ok8, m8, tr8x, tr8y⟩ : Tr S q7 q8 := e8 ▸ must_tr ok7
  refine Z.e (Z.r [0, 1, 2, 3] ?_)
  refine Z.p [0] [1, 2, 3] [(24, Z.P b 0)] ?_
  refine Z.k (fun R hR => (ih k (Nat.le_refl k)).f_expr b S q8 _ R b20 ok8 (by omega) (fun w22 t4 A4 c4 q9 e9 x16 b21 kv4 => hR _ _ ?_))
  have zw22 := x16.size
  have tb21 := b21.lt
  obtain ⟨ok9, m9, tr9x, tr9y⟩ : Tr S q8 q9 := run_facts ok8 e9
  refine Z.N (.cells #[.int .i64 0, .int .i64 0, .string Z.E, .int .i64 0, .slice none 0 0] 24) (fun k7 w23 l7 x17 b22 zw23 tb22 => ?_)
  refine Z.Sa #[Z.n t4.k, Z.n t4.a, .string t4.nm, .int .i64 t4.n, .slice A4 t4.ks.length c4] b22 (fun w24 u7 b23 zw24 => ?_)
  refine Z.e (Z.r [0, 1, 2, 3, 4, 5, 6, 7] ?_)
  refine Z.p [0, 1] [2, 3, 4, 5, 6, 7] [(27, .string nm2), (26, Z.n at_)] ?_
  refine Z.L 0 (.agg #[Z.n t3.k, Z.n t3.a, .string t3.nm, .int .i64 t3.n, .slice A3 t3.ks.length c3]) ((((b19.upd1 x15).upd1 x16).ext x17).upd1 u7) ?_
  refine Z.L 0 (.agg #[Z.n t4.k, Z.n t4.a, .string t4.nm, .int .i64 t4.n, .slice A4 t4.ks.length c4]) b23 ?_
  refine Z.R (.cells #[Z.n t3.k, Z.n t3.a, .string t3.nm, .int .i64 t3.n, .slice A3 t3.ks.length c3, Z.n t4.k, Z.n t4.a, .string t4.nm, .int .i64 t4.n, .slice A4 t4.ks.length c4] 24) 2 2 (fun k8 w25 l8 x18 b24 zw25 tb24 => ?_)
  refine Z.k (fun R hR => named_c (9 : Int) ((at_ : Nat) : Int) nm2 (some (⟨k8, 0, none⟩ : Addr)) 2 2 _ R (fun w26 x19 => hR _ _ ?_))
  have zw26 := x19.size
  refine Z.N (.cells #[.int .i64 0, .int .i64 0, .string Z.E, .int .i64 0, .slice none 0 0] 24) (fun k9 w27 l9 x20 b25 zw27 tb25 => ?_)
  refine Z.Sa #[.int .i64 9, Z.n at_, .string nm2, .int .i64 0, .slice (some ⟨k8, 0, none⟩) 2 2] b25 (fun w28 u8 b26 zw28 => ?_)
  refine Z.e (Z.r [0, 1, 2] ?_)
  refine Z.p [0, 1] [2] [(33, Z.P k9 3), (32, .int .i64 0)] ?_
  refine Z.S 3 (.int .i64 0) b26 #[.int .i64 9, Z.n at_, .string nm2, .int .i64 0, .slice (some ⟨k8, 0, none⟩) 2 2] (fun w29 u9 b27 zw29 => ?_)
  refine Z.e (Z.r [0, 1] ?_)
  refine Z.L 0 (.agg #[.int .i64 9, Z.n at_, .string nm2, .int .i64 0, .slice (some ⟨k8, 0, none⟩) 2 2]) b27 ?_
  refine Z.Sa #[.int .i64 9, Z.n at_, .string nm2, .int .i64 0, .slice (some ⟨k8, 0, none⟩) 2 2] ((((((((((((((b1.upd1 x2).upd1 x12).upd1 x13).ext x14).upd1 u6).upd1 x15).upd1 x16).ext x17).upd1 u7).ext x18).ext x19).ext x20).upd1 u8).upd1 u9) (fun w30 u10 b28 zw30 => ?_)
  refine Z.e (wp_ret (Gx.ret (Gx.res_c (u := .agg #[.int .i64 9, Z.n at_, .string nm2, .int .i64 0, .slice (some ⟨k8, 0, none⟩) 2 2]) rfl (by kernel_rfl) b28 (by kernel_rfl)) ?_))
  exact hK _ (Nd.mk 9 at_ nm2 (0 : Int) [t3, t4]) (some (⟨k8, 0, none⟩ : Addr)) 2 q9 (by rw [run_succ]; simp only [stepN, letS, letT, e1, e6, e7, e8, e9, h_c12, Z.ifs, reduceIte]) (gb_new (gb_new (gb_new (gb_ext (gb_ext (gb_ext (gb_new (gb_ext (gb_upd (gb_upd (gb_new (gb_ext (gb_upd (gb_upd (gb_upd (gb_ext (gb_refl w b) x1) x2) x12) x13) x14) u6) x15) x16) x17) u7) x18) x19) x20) u8) u9) u10) ((((((((b21.ext x17).upd1 u7).ext x18).ext x19).ext x20).upd1 u8).upd1 u9).upd1 u10) (KV.of_row [(t3, A3, c3), (t4, A4, c4)] (n := 10) (((((b24.ext x19).ext x20).upd1 u8).upd1 u9).upd1 u10) rfl ⟨by omega, by omega, (fun hj => by cases hj)⟩ (by intro p hp; simp only [List.mem_cons, List.not_mem_nil, or_false] at hp; rcases hp with rfl | rfl; exact (KV.top ((((((((((((kv3.ext x14).upd u6).upd x15).upd x16).ext x17).upd u7).ext x18).ext x19).ext x20).upd u8).upd u9).upd u10)); exact (KV.top ((((((((kv4.ext x17).upd u7).ext x18).ext x19).ext x20).upd u8).upd u9).upd u10))))
set_option maxHeartbeats 1000000 in
set_option maxRecDepth 10000 in
theorem cases_c (k : Nat) (b : Nat) (S : ByteArray) (q : Rs) (at_ : Nat) (w : World) (K : Ending → World → Prop) (ih : ∀ j, j ≤ k → Spec j) (hb : Gx.Has w b (rdO S q)) (hok : Ok S q) (hmu : 16 * M S q + 13 ≤ k + 1) (hK : ∀ w' t A c q', run S (k + 1) (.cases at_) q = (t, q') → Gx.G w w' (some b) → Gx.Has w' b (rdO S q') → KV (In w.heap.size w'.heap.size []) w' t.ks A c → K (.returned (.agg #[Z.n t.k, Z.n t.a, .string t.nm, .int .i64 t.n, .slice A t.ks.length c])) w') :
    Calls Try.prog 58 #[Z.P b 0, Z.n at_] w K := by
  refine Gx.enter 56 Try.func58 rfl rfl (Nat.le_of_ble_eq_true rfl) ?_
  have tbb := hb.lt
  refine Z.r [0] ?_
  refine Z.N (.cells #[.int .i64 0, .int .i64 0, .string Z.E, .int .i64 0, .slice none 0 0] 24) (fun k1 w1 l1 x1 b1 zw1 tb1 => ?_)
  refine Z.e (Z.r [0, 1, 2, 3] ?_)
  refine Z.p [0] [1, 2, 3] [(12, Z.P b 0)] ?_
  refine Z.k (fun R hR => (ih k (Nat.le_refl k)).f_expr b S q _ R (hb.ext x1) hok (by omega) (fun w2 t1 A1 c1 q1 e1 x2 b2 kv1 => hR _ _ ?_))
  have zw2 := x2.size
  have tb2 := b2.lt
  obtain ⟨ok1, m1, tr1x, tr1y⟩ : Tr S q q1 := run_facts hok e1
  refine Z.N (.cells #[.int .i64 0, .int .i64 0, .string Z.E, .int .i64 0, .slice none 0 0] 24) (fun k2 w3 l2 x3 b3 zw3 tb3 => ?_)
  refine Z.Sa #[Z.n t1.k, Z.n t1.a, .string t1.nm, .int .i64 t1.n, .slice A1 t1.ks.length c1] b3 (fun w4 u1 b4 zw4 => ?_)
  refine Z.e (Z.r [0, 1] ?_)
  refine Z.p [0] [1] [(14, Z.P b 0)] ?_
  refine Z.k (fun R hR => must_c b S q1 (Z.B [111, 102]) _ R ((b2.ext x3).upd1 u1) ok1 (fun w5 q2 e2 x4 b5 => hR _ _ ?_))
  have zw5 := x4.size
  have tb5 := b5.lt
  obtain ⟨ok2, m2, tr2x, tr2y⟩ : Tr S q1 q2 := e2 ▸ must_tr ok1
  refine Z.e (Z.r [0, 1] ?_)
  refine Z.p [0] [1] [(16, Z.P b 0)] ?_
  refine Z.k (fun R hR => must_c b S q2 (Z.B [91]) _ R b5 ok2 (fun w6 q3 e3 x5 b6 => hR _ _ ?_))
  have zw6 := x5.size
  have tb6 := b6.lt
  obtain ⟨ok3, m3, tr3x, tr3y⟩ : Tr S q2 q3 := e3 ▸ must_tr ok2
  refine Z.e (Z.r [0, 1] ?_)
  refine Z.p [0] [1] [(18, Z.P b 0)] ?_
  refine Z.k (fun R hR => must_c b S q3 (Z.B [93]) _ R b6 ok3 (fun w7 q4 e4 x6 b7 => hR _ _ ?_))
  have zw7 := x6.size
  have tb7 := b7.lt
  obtain ⟨ok4, m4, tr4x, tr4y⟩ : Tr S q3 q4 := e4 ▸ must_tr ok3
  refine Z.e (Z.r [0, 1] ?_)
  refine Z.p [0] [1] [(20, Z.P b 0)] ?_
  refine Z.k (fun R hR => must_c b S q4 (Z.B [61, 62]) _ R b7 ok4 (fun w8 q5 e5 x7 b8 => hR _ _ ?_))
  have zw8 := x7.size
  have tb8 := b8.lt
  obtain ⟨ok5, m5, tr5x, tr5y⟩ : Tr S q4 q5 := e5 ▸ must_tr ok4
  refine Z.e (Z.r [0, 1, 2, 3] ?_)
  refine Z.p [0] [1, 2, 3] [(22, Z.P b 0)] ?_
  refine Z.k (fun R hR => (ih k (Nat.le_refl k)).f_expr b S q5 _ R b8 ok5 (by omega) (fun w9 t2 A2 c2 q6 e6 x8 b9 kv2 => hR _ _ ?_))
  have zw9 := x8.size
  have tb9 := b9.lt
  obtain ⟨ok6, m6, tr6x, tr6y⟩ : Tr S q5 q6 := run_facts ok5 e6
  refine Z.N (.cells #[.int .i64 0, .int .i64 0, .string Z.E, .int .i64 0, .slice none 0 0] 24) (fun k3 w10 l3 x9 b10 zw10 tb10 => ?_)
  refine Z.Sa #[Z.n t2.k, Z.n t2.a, .string t2.nm, .int .i64 t2.n, .slice A2 t2.ks.length c2] b10 (fun w11 u2 b11 zw11 => ?_)
  refine Z.e (Z.r [0, 1] ?_)
  refine Z.p [0] [1] [(24, Z.P b 0)] ?_
  refine Z.k (fun R hR => must_c b S q6 (Z.B [124]) _ R ((b9.ext x9).upd1 u2) ok6 (fun w12 q7 e7 x10 b12 => hR _ _ ?_))
  have zw12 := x10.size
  have tb12 := b12.lt
  obtain ⟨ok7, m7, tr7x, tr7y⟩ : Tr S q6 q7 := e7 ▸ must_tr ok6
  refine Z.e (Z.r [0, 1, 2, 3, 4, 5, 6] ?_)
  refine Z.p [0] [1, 2, 3, 4, 5, 6] [(27, Z.P b 0)] ?_
  refine Z.k (fun R hR => name_c b S q7 _ R b12 ok7 (fun w13 nm1 na1 q8 e8 x11 b13 => hR _ _ ?_))
  have zw13 := x11.size
  have tb13 := b13.lt
  obtain ⟨ok8, m8, tr8x, tr8y⟩ : Tr S q7 q8 := by have := name_tr ok7; rw [e8] at this; exact this
  refine Z.p [2, 3, 4, 5, 6] [] [(8, Z.n na1), (7, .string nm1), (30, Z.n na1), (29, .string nm1), (26, .tuple #[.string nm1, Z.n na1])] ?_
  refine Z.e (Z.r [0, 1] ?_)
  refine Z.p [0] [1] [(31, Z.P b 0)] ?_
  refine Z.k (fun R hR => must_c b S q8 (Z.B [58, 58]) _ R b13 ok8 (fun w14 q9 e9 x12 b14 => hR _ _ ?_))
  have zw14 := x12.size
  have tb14 := b14.lt
  obtain ⟨ok9, m9, tr9x, tr9y⟩ : Tr S q8 q9 := e9 ▸ must_tr ok8
  refine Z.e (Z.r [0, 1, 2, 3, 4, 5, 6] ?_)
  refine Z.p [0] [1, 2, 3, 4, 5, 6] [(34, Z.P b 0)] ?_
  refine Z.k (fun R hR => name_c b S q9 _ R b14 ok9 (fun w15 nm2 na2 q10 e10 x13 b15 => hR _ _ ?_))
  have zw15 := x13.size
  have tb15 := b15.lt
  obtain ⟨ok10, m10, tr10x, tr10y⟩ : Tr S q9 q10 := by have := name_tr ok9; rw [e10] at this; exact this
  refine Z.p [2, 3, 4, 5, 6] [] [(10, Z.n na2), (9, .string nm2), (37, Z.n na2), (36, .string nm2), (33, .tuple #[.string nm2, Z.n na2])] ?_
  refine Z.e (Z.r [0, 1] ?_)
  refine Z.p [0] [1] [(38, Z.P b 0)] ?_
  refine Z.k (fun R hR => must_c b S q10 (Z.B [61, 62]) _ R b15 ok10 (fun w16 q11 e11 x14 b16 => hR _ _ ?_))
  have zw16 := x14.size
  have tb16 := b16.lt
  obtain ⟨ok11, m11, tr11x, tr11y⟩ : Tr S q10 q11 := e11 ▸ must_tr ok10
  refine Z.e (Z.r [0, 1, 2, 3] ?_)
  refine Z.p [0] [1, 2, 3] [(40, Z.P b 0)] ?_
  refine Z.k (fun R hR => (ih k (Nat.le_refl k)).f_expr b S q11 _ R b16 ok11 (by omega) (fun w17 t3 A3 c3 q12 e12 x15 b17 kv3 => hR _ _ ?_))
  have zw17 := x15.size
  have tb17 := b17.lt
  obtain ⟨ok12, m12, tr12x, tr12y⟩ : Tr S q11 q12 := run_facts ok11 e12
  refine Z.N (.cells #[.int .i64 0, .int .i64 0, .string Z.E, .int .i64 0, .slice none 0 0] 24) (fun k4 w18 l4 x16 b18 zw18 tb18 => ?_)
  refine Z.Sa #[Z.n t3.k, Z.n t3.a, .string t3.nm, .int .i64 t3.n, .slice A3 t3.ks.length c3] b18 (fun w19 u3 b19 zw19 => ?_)
  refine Z.e (Z.r [0, 1] ?_)
  refine Z.p [0] [1] [(42, Z.P b 0)] ?_
  refine Z.k (fun R hR => must_c b S q12 (Z.B [101, 110, 100]) _ R ((b17.ext x16).upd1 u3) ok12 (fun w20 q13 e13 x17 b20 => hR _ _ ?_))
  have zw20 := x17.size
  have tb20 := b20.lt
  obtain ⟨ok13, m13, tr13x, tr13y⟩ : Tr S q12 q13 := e13 ▸ must_tr ok12
  refine Z.e (wp_seq (Z.D (fun w' => Gx.Has w' k2 (.cells #[Z.n t1.k, Z.n t1.a, .string t1.nm, .int .i64 t1.n, .slice A1 t1.ks.length c1] 24) ∧ Gx.Has w' k3 (.cells #[Z.n t2.k, Z.n t2.a, .string t2.nm, .int .i64 t2.n, .slice A2 t2.ks.length c2] 24) ∧ Gx.Has w' k4 (.cells #[Z.n t3.k, Z.n t3.a, .string t3.nm, .int .i64 t3.n, .slice A3 t3.ks.length c3] 24)) (fun w21 x18 zw21 => ?_)))
  refine Z.h ⟨(((((((((((((((((b4.upd1 x4).upd1 x5).upd1 x6).upd1 x7).upd1 x8).ext x9).upd1 u2).upd1 x10).upd1 x11).upd1 x12).upd1 x13).upd1 x14).upd1 x15).ext x16).upd1 u3).upd1 x17).ext x18), ((((((((((b11.upd1 x10).upd1 x11).upd1 x12).upd1 x13).upd1 x14).upd1 x15).ext x16).upd1 u3).upd1 x17).ext x18), ((b19.upd1 x17).ext x18)⟩ (fun hS1 => ?_)
  refine Z.t 0 (Z.n at_) hS1 ?_
  refine Z.tl 1 0 (.agg #[Z.n t1.k, Z.n t1.a, .string t1.nm, .int .i64 t1.n, .slice A1 t1.ks.length c1]) (fun _ hs => hs.1) hS1 ?_
  refine Z.tl 2 0 (.agg #[Z.n t2.k, Z.n t2.a, .string t2.nm, .int .i64 t2.n, .slice A2 t2.ks.length c2]) (fun _ hs => hs.2.1) hS1 ?_
  refine Z.t 3 (Z.n na1) hS1 ?_
  refine Z.t 4 (.string nm1) hS1 ?_
  refine Z.t 6 (Z.n na2) hS1 ?_
  refine Z.t 7 (.string nm2) hS1 ?_
  refine Z.tl 9 0 (.agg #[Z.n t3.k, Z.n t3.a, .string t3.nm, .int .i64 t3.n, .slice A3 t3.ks.length c3]) (fun _ hs => hs.2.2) hS1 ?_
  refine Z.o 5 (fun R hR => named_c (23 : Int) ((na1 : Nat) : Int) nm1 none 0 0 _ R (fun w22 x19 => hR _ _ ⟨⟨((((((((((((((((((b4.upd1 x4).upd1 x5).upd1 x6).upd1 x7).upd1 x8).ext x9).upd1 u2).upd1 x10).upd1 x11).upd1 x12).upd1 x13).upd1 x14).upd1 x15).ext x16).upd1 u3).upd1 x17).ext x18).ext x19), (((((((((((b11.upd1 x10).upd1 x11).upd1 x12).upd1 x13).upd1 x14).upd1 x15).ext x16).upd1 u3).upd1 x17).ext x18).ext x19), (((b19.upd1 x17).ext x18).ext x19)⟩, fun hS2 => ?_⟩))
  have zw22 := x19.size
  refine Z.o 8 (fun R hR => named_c (23 : Int) ((na2 : Nat) : Int) nm2 none 0 0 _ R (fun w23 x20 => hR _ _ ⟨⟨(((((((((((((((((((b4.upd1 x4).upd1 x5).upd1 x6).upd1 x7).upd1 x8).ext x9).upd1 u2).upd1 x10).upd1 x11).upd1 x12).upd1 x13).upd1 x14).upd1 x15).ext x16).upd1 u3).upd1 x17).ext x18).ext x19).ext x20), ((((((((((((b11.upd1 x10).upd1 x11).upd1 x12).upd1 x13).upd1 x14).upd1 x15).ext x16).upd1 u3).upd1 x17).ext x18).ext x19).ext x20), ((((b19.upd1 x17).ext x18).ext x19).ext x20)⟩, fun hS3 => ?_⟩))
  have zw23 := x20.size
  refine Z.oR 10 (.cells #[Z.n t1.k, Z.n t1.a, .string t1.nm, .int .i64 t1.n, .slice A1 t1.ks.length c1, Z.n t2.k, Z.n t2.a, .string t2.nm, .int .i64 t2.n, .slice A2 t2.ks.length c2, .int .i64 23, Z.n na1, .string nm1, .int .i64 0, .slice none 0 0, .int .i64 23, Z.n na2, .string nm2, .int .i64 0, .slice none 0 0, Z.n t3.k, Z.n t3.a, .string t3.nm, .int .i64 t3.n, .slice A3 t3.ks.length c3] 24) 5 5 (fun k5 w24 l5 x21 b21 => ⟨⟨((((((((((((((((((((b4.upd1 x4).upd1 x5).upd1 x6).upd1 x7).upd1 x8).ext x9).upd1 u2).upd1 x10).upd1 x11).upd1 x12).upd1 x13).upd1 x14).upd1 x15).ext x16).upd1 u3).upd1 x17).ext x18).ext x19).ext x20).ext x21), (((((((((((((b11.upd1 x10).upd1 x11).upd1 x12).upd1 x13).upd1 x14).upd1 x15).ext x16).upd1 u3).upd1 x17).ext x18).ext x19).ext x20).ext x21), (((((b19.upd1 x17).ext x18).ext x19).ext x20).ext x21)⟩, ?_⟩)
  have zw24 := x21.size
  have tb21 := b21.lt
  refine Z.o 11 (fun R hR => Node_c (17 : Int) ((at_ : Nat) : Int) (some (⟨k5, 0, none⟩ : Addr)) 5 5 _ R (fun w25 x22 => hR _ _ ⟨⟨(((((((((((((((((((((b4.upd1 x4).upd1 x5).upd1 x6).upd1 x7).upd1 x8).ext x9).upd1 u2).upd1 x10).upd1 x11).upd1 x12).upd1 x13).upd1 x14).upd1 x15).ext x16).upd1 u3).upd1 x17).ext x18).ext x19).ext x20).ext x21).ext x22), ((((((((((((((b11.upd1 x10).upd1 x11).upd1 x12).upd1 x13).upd1 x14).upd1 x15).ext x16).upd1 u3).upd1 x17).ext x18).ext x19).ext x20).ext x21).ext x22), ((((((b19.upd1 x17).ext x18).ext x19).ext x20).ext x21).ext x22)⟩, fun hS4 => ?_⟩))
  have zw25 := x22.size
  refine Z.oSa 12 #[.int .i64 17, Z.n at_, .string Z.E, .int .i64 0, .slice (some ⟨k5, 0, none⟩) 5 5] ((((((((((((((((((((((((b1.upd1 x2).ext x3).upd1 u1).upd1 x4).upd1 x5).upd1 x6).upd1 x7).upd1 x8).ext x9).upd1 u2).upd1 x10).upd1 x11).upd1 x12).upd1 x13).upd1 x14).upd1 x15).ext x16).upd1 u3).upd1 x17).ext x18).ext x19).ext x20).ext x21).ext x22) (fun w26 u4 b22 => ⟨⟨((((((((((((((((((((((b4.upd1 x4).upd1 x5).upd1 x6).upd1 x7).upd1 x8).ext x9).upd1 u2).upd1 x10).upd1 x11).upd1 x12).upd1 x13).upd1 x14).upd1 x15).ext x16).upd1 u3).upd1 x17).ext x18).ext x19).ext x20).ext x21).ext x22).upd1 u4), (((((((((((((((b11.upd1 x10).upd1 x11).upd1 x12).upd1 x13).upd1 x14).upd1 x15).ext x16).upd1 u3).upd1 x17).ext x18).ext x19).ext x20).ext x21).ext x22).upd1 u4), (((((((b19.upd1 x17).ext x18).ext x19).ext x20).ext x21).ext x22).upd1 u4)⟩, ?_⟩)
  have zw26 := u4.size
  refine Z.q ?_
  refine Z.x (wp_ret (Gx.ret (Gx.res_c (u := .agg #[.int .i64 17, Z.n at_, .string Z.E, .int .i64 0, .slice (some ⟨k5, 0, none⟩) 5 5]) rfl (by kernel_rfl) b22 (by kernel_rfl)) ?_))
  exact hK _ (Nd.mk 17 at_ Z.E (0 : Int) [t1, t2, (Nd.mk 23 na1 nm1 (0 : Int) []), (Nd.mk 23 na2 nm2 (0 : Int) []), t3]) (some (⟨k5, 0, none⟩ : Addr)) 5 q13 (by rw [run_succ]; simp only [stepN, casesS, e1, e2, e3, e4, e5, e6, e7, e8, e9, e10, e11, e12, e13, Z.ifs, reduceIte]) (gb_new (gb_ext (gb_ext (gb_ext (gb_ext (gb_ext (gb_upd (gb_new (gb_ext (gb_upd (gb_upd (gb_upd (gb_upd (gb_upd (gb_upd (gb_new (gb_ext (gb_upd (gb_upd (gb_upd (gb_upd (gb_upd (gb_new (gb_ext (gb_upd (gb_ext (gb_refl w b) x1) x2) x3) u1) x4) x5) x6) x7) x8) x9) u2) x10) x11) x12) x13) x14) x15) x16) u3) x17) x18) x19) x20) x21) x22) u4) ((((((b20.ext x18).ext x19).ext x20).ext x21).ext x22).upd1 u4) (KV.of_row [(t1, A1, c1), (t2, A2, c2), ((Nd.mk 23 na1 nm1 (0 : Int) []), none, 0), ((Nd.mk 23 na2 nm2 (0 : Int) []), none, 0), (t3, A3, c3)] (n := 25) ((b21.ext x22).upd1 u4) rfl ⟨by omega, by omega, (fun hj => by cases hj)⟩ (by intro p hp; simp only [List.mem_cons, List.not_mem_nil, or_false] at hp; rcases hp with rfl | rfl | rfl | rfl | rfl; exact (KV.top ((((((((((((((((((((((((kv1.ext x3).upd u1).upd x4).upd x5).upd x6).upd x7).upd x8).ext x9).upd u2).upd x10).upd x11).upd x12).upd x13).upd x14).upd x15).ext x16).upd u3).upd x17).ext x18).ext x19).ext x20).ext x21).ext x22).upd u4)); exact (KV.top (((((((((((((((((kv2.ext x9).upd u2).upd x10).upd x11).upd x12).upd x13).upd x14).upd x15).ext x16).upd u3).upd x17).ext x18).ext x19).ext x20).ext x21).ext x22).upd u4)); exact KV.nil; exact KV.nil; exact (KV.top (((((((((kv3.ext x16).upd u3).upd x17).ext x18).ext x19).ext x20).ext x21).ext x22).upd u4))))
set_option maxHeartbeats 1000000 in
set_option maxRecDepth 10000 in
theorem comp_c (k : Nat) (b : Nat) (S : ByteArray) (q : Rs) (w : World) (K : Ending → World → Prop) (ih : ∀ j, j ≤ k → Spec j) (hb : Gx.Has w b (rdO S q)) (hok : Ok S q) (hmu : 16 * M S q + 9 ≤ k + 1) (hK : ∀ w' t A c q', run S (k + 1) .comp q = (t, q') → Gx.G w w' (some b) → Gx.Has w' b (rdO S q') → KV (In w.heap.size w'.heap.size []) w' t.ks A c → K (.returned (.agg #[Z.n t.k, Z.n t.a, .string t.nm, .int .i64 t.n, .slice A t.ks.length c])) w') :
    Calls Try.prog 60 #[Z.P b 0] w K := by
  refine Gx.enter 26 Try.func60 rfl rfl (Nat.le_of_ble_eq_true rfl) ?_
  have tbb := hb.lt
  refine Z.r [0] ?_
  refine Z.N (.cells #[.int .i64 0, .int .i64 0, .string Z.E, .int .i64 0, .slice none 0 0] 24) (fun k1 w1 l1 x1 b1 zw1 tb1 => ?_)
  refine Z.e (Z.r [0, 1, 2, 3] ?_)
  refine Z.p [0] [1, 2, 3] [(7, Z.P b 0)] ?_
  refine Z.k (fun R hR => (ih k (Nat.le_refl k)).f_cons b S q _ R (hb.ext x1) hok (by omega) (fun w2 t1 A1 c1 q1 e1 x2 b2 kv1 => hR _ _ ?_))
  have zw2 := x2.size
  have tb2 := b2.lt
  obtain ⟨ok1, m1, tr1x, tr1y⟩ : Tr S q q1 := run_facts hok e1
  refine Z.N (.cells #[.int .i64 0, .int .i64 0, .string Z.E, .int .i64 0, .slice none 0 0] 24) (fun k2 w3 l2 x3 b3 zw3 tb3 => ?_)
  refine Z.Sa #[Z.n t1.k, Z.n t1.a, .string t1.nm, .int .i64 t1.n, .slice A1 t1.ks.length c1] b3 (fun w4 u1 b4 zw4 => ?_)
  refine Z.e (wp_seq (Z.r [0, 1, 2] ?_))
  refine Z.R (.cells #[.string (Z.B [61, 61]), .string (Z.B [60])] 9) 2 2 (fun k3 w5 l3 x4 b5 zw5 tb5 => ?_)
  refine Z.p [1, 2] [] [(11, .int .i64 0), (10, .int .i64 2)] ?_
  refine Z.e (wp_block (wp_loop_rounds 3 ?_))
  refine Gx.rounds_step ?_
  refine Z.s [(12, .bool true)] ?_
  refine wp_seq (Z.ct ?_)
  refine wp_skip (Z.x (wp_seq (wp_block (Z.r [0, 1, 2] ?_))))
  refine Gx.cons (Gx.op_indexAddr (bk := k3) rfl (by kernel_rfl) rfl 9 1 (by kernel_rfl) (by kernel_rfl) 0 2 2 (by kernel_rfl) .i64 0 (by kernel_rfl) (by omega) ?_)
  refine Z.L 0 (.string (Z.B [61, 61])) b5 ?_
  refine Z.p [2] [] [(5, .string (Z.B [61, 61]))] ?_
  refine Z.e (Z.r [0, 1, 2] ?_)
  refine Z.p [0, 1] [2] [(16, .string (Z.B [61, 61])), (15, Z.P b 0)] ?_
  refine Z.k (fun R hR => has_c b S q1 (Z.B [61, 61]) _ R (((b2.ext x3).upd1 u1).ext x4) ok1 (fun w6 q2 e2 x5 b6 => hR _ _ ?_))
  have zw6 := x5.size
  have tb6 := b6.lt
  obtain ⟨ok2, m2, tr2x, tr2y⟩ : Tr S q1 q2 := e2 ▸ has_tr ok1
  refine Z.e (Z.c (isB q1 (Z.B [61, 61])) (fun h_c17 => ?_) (fun h_c17 => ?_))
  · skip
    refine Z.r [0, 1, 2, 3] ?_
    refine Z.p [0] [1, 2, 3] [(18, Z.P b 0)] ?_
    have lt1 := (by have := has_lt ok1 h_c17; rw [e2] at this; exact this : M S q2 < M S q1)
    refine Z.k (fun R hR => (ih k (Nat.le_refl k)).f_cons b S q2 _ R b6 ok2 (by omega) (fun w7 t2 A2 c2 q3 e3 x6 b7 kv2 => hR _ _ ?_))
    have zw7 := x6.size
    have tb7 := b7.lt
    obtain ⟨ok3, m3, tr3x, tr3y⟩ : Tr S q2 q3 := run_facts ok2 e3
    refine Z.N (.cells #[.int .i64 0, .int .i64 0, .string Z.E, .int .i64 0, .slice none 0 0] 24) (fun k4 w8 l4 x7 b8 zw8 tb8 => ?_)
    refine Z.Sa #[Z.n t2.k, Z.n t2.a, .string t2.nm, .int .i64 t2.n, .slice A2 t2.ks.length c2] b8 (fun w9 u2 b9 zw9 => ?_)
    refine Z.e (Z.r [0, 1, 2, 3, 4] ?_)
    refine Z.p [0] [1, 2, 3, 4] [(20, .string (Z.B [61, 61]))] ?_
    refine Z.L 0 (.agg #[Z.n t1.k, Z.n t1.a, .string t1.nm, .int .i64 t1.n, .slice A1 t1.ks.length c1]) (((((b4.ext x4).upd1 x5).upd1 x6).ext x7).upd1 u2) ?_
    refine Z.L 0 (.agg #[Z.n t2.k, Z.n t2.a, .string t2.nm, .int .i64 t2.n, .slice A2 t2.ks.length c2]) b9 ?_
    refine Z.k (fun R hR => two_c (Z.B [61, 61]) ((t1.k : Nat) : Int) ((t1.a : Nat) : Int) t1.nm t1.n A1 t1.ks.length c1 ((t2.k : Nat) : Int) ((t2.a : Nat) : Int) t2.nm t2.n A2 t2.ks.length c2 _ R (fun w10 k5 x8 l5 b10 => hR _ _ ?_))
    have zw10 := x8.size
    have tb10 := b10.lt
    refine Z.Sa #[.int .i64 18, Z.n t1.a, .string (Z.B [61, 61]), .int .i64 0, .slice (some ⟨k5, 0, none⟩) 2 2] (((((((((b1.upd1 x2).ext x3).upd1 u1).ext x4).upd1 x5).upd1 x6).ext x7).upd1 u2).ext x8) (fun w11 u3 b11 zw11 => ?_)
    refine Z.e (wp_ret (Gx.block_ret (Gx.then_ret (Gx.then_ret (Gx.block_ret (Gx.then_ret (Gx.ret (Gx.res_c (u := .agg #[.int .i64 18, Z.n t1.a, .string (Z.B [61, 61]), .int .i64 0, .slice (some ⟨k5, 0, none⟩) 2 2]) rfl (by kernel_rfl) b11 (by kernel_rfl)) ?_)))))))
    exact hK _ (Nd.mk 18 t1.a (Z.B [61, 61]) (0 : Int) [t1, t2]) (some (⟨k5, 0, none⟩ : Addr)) 2 q3 (by rw [run_succ]; simp only [stepN, compS, two, e1, e2, e3, h_c17, Z.ifs, reduceIte]) (gb_new (gb_ext (gb_new (gb_ext (gb_upd (gb_upd (gb_ext (gb_new (gb_ext (gb_upd (gb_ext (gb_refl w b) x1) x2) x3) u1) x4) x5) x6) x7) u2) x8) u3) ((((b7.ext x7).upd1 u2).ext x8).upd1 u3) (KV.of_row [(t1, A1, c1), (t2, A2, c2)] (n := 10) (b10.upd1 u3) rfl ⟨by omega, by omega, (fun hj => by cases hj)⟩ (by intro p hp; simp only [List.mem_cons, List.not_mem_nil, or_false] at hp; rcases hp with rfl | rfl; exact (KV.top (((((((((kv1.ext x3).upd u1).ext x4).upd x5).upd x6).ext x7).upd u2).ext x8).upd u3)); exact (KV.top ((((kv2.ext x7).upd u2).ext x8).upd u3))))
  refine wp_skip (Gx.block_normal (Z.x (Z.u [(11, .int .i64 1), (24, .int .i64 1)] ?_)))
  refine Z.x (Gx.rounds_step ?_)
  refine Z.s [(12, .bool true)] ?_
  refine wp_seq (Z.ct ?_)
  refine wp_skip (Z.x (wp_seq (wp_block (Z.r [0, 1, 2] ?_))))
  refine Gx.cons (Gx.op_indexAddr (bk := k3) rfl (by kernel_rfl) rfl 9 1 (by kernel_rfl) (by kernel_rfl) 0 2 2 (by kernel_rfl) .i64 1 (by kernel_rfl) (by omega) ?_)
  refine Z.L 1 (.string (Z.B [60])) (b5.upd1 x5) ?_
  refine Z.p [2] [] [(5, .string (Z.B [60]))] ?_
  refine Z.e (Z.r [0, 1, 2] ?_)
  refine Z.p [0, 1] [2] [(16, .string (Z.B [60])), (15, Z.P b 0)] ?_
  refine Z.k (fun R hR => has_c b S q2 (Z.B [60]) _ R b6 ok2 (fun w12 q4 e4 x9 b12 => hR _ _ ?_))
  have zw12 := x9.size
  have tb12 := b12.lt
  obtain ⟨ok4, m4, tr4x, tr4y⟩ : Tr S q2 q4 := e4 ▸ has_tr ok2
  refine Z.e (Z.c (isB q2 (Z.B [60])) (fun h_c17_1 => ?_) (fun h_c17_1 => ?_))
  · skip
    refine Z.r [0, 1, 2, 3] ?_
    refine Z.p [0] [1, 2, 3] [(18, Z.P b 0)] ?_
    have lt2 := (by have := has_lt ok2 h_c17_1; rw [e4] at this; exact this : M S q4 < M S q2)
    refine Z.k (fun R hR => (ih k (Nat.le_refl k)).f_cons b S q4 _ R b12 ok4 (by omega) (fun w13 t3 A3 c3 q5 e5 x10 b13 kv3 => hR _ _ ?_))
    have zw13 := x10.size
    have tb13 := b13.lt
    obtain ⟨ok5, m5, tr5x, tr5y⟩ : Tr S q4 q5 := run_facts ok4 e5
    refine Z.N (.cells #[.int .i64 0, .int .i64 0, .string Z.E, .int .i64 0, .slice none 0 0] 24) (fun k6 w14 l6 x11 b14 zw14 tb14 => ?_)
    refine Z.Sa #[Z.n t3.k, Z.n t3.a, .string t3.nm, .int .i64 t3.n, .slice A3 t3.ks.length c3] b14 (fun w15 u4 b15 zw15 => ?_)
    refine Z.e (Z.r [0, 1, 2, 3, 4] ?_)
    refine Z.p [0] [1, 2, 3, 4] [(20, .string (Z.B [60]))] ?_
    refine Z.L 0 (.agg #[Z.n t1.k, Z.n t1.a, .string t1.nm, .int .i64 t1.n, .slice A1 t1.ks.length c1]) ((((((b4.ext x4).upd1 x5).upd1 x9).upd1 x10).ext x11).upd1 u4) ?_
    refine Z.L 0 (.agg #[Z.n t3.k, Z.n t3.a, .string t3.nm, .int .i64 t3.n, .slice A3 t3.ks.length c3]) b15 ?_
    refine Z.k (fun R hR => two_c (Z.B [60]) ((t1.k : Nat) : Int) ((t1.a : Nat) : Int) t1.nm t1.n A1 t1.ks.length c1 ((t3.k : Nat) : Int) ((t3.a : Nat) : Int) t3.nm t3.n A3 t3.ks.length c3 _ R (fun w16 k7 x12 l7 b16 => hR _ _ ?_))
    have zw16 := x12.size
    have tb16 := b16.lt
    refine Z.Sa #[.int .i64 18, Z.n t1.a, .string (Z.B [60]), .int .i64 0, .slice (some ⟨k7, 0, none⟩) 2 2] ((((((((((b1.upd1 x2).ext x3).upd1 u1).ext x4).upd1 x5).upd1 x9).upd1 x10).ext x11).upd1 u4).ext x12) (fun w17 u5 b17 zw17 => ?_)
    refine Z.e (wp_ret (Gx.block_ret (Gx.then_ret (Gx.then_ret (Gx.block_ret (Gx.then_ret (Gx.ret (Gx.res_c (u := .agg #[.int .i64 18, Z.n t1.a, .string (Z.B [60]), .int .i64 0, .slice (some ⟨k7, 0, none⟩) 2 2]) rfl (by kernel_rfl) b17 (by kernel_rfl)) ?_)))))))
    exact hK _ (Nd.mk 18 t1.a (Z.B [60]) (0 : Int) [t1, t3]) (some (⟨k7, 0, none⟩ : Addr)) 2 q5 (by rw [run_succ]; simp only [stepN, compS, two, e1, e2, e4, e5, h_c17, h_c17_1, Z.ifs, reduceIte]) (gb_new (gb_ext (gb_new (gb_ext (gb_upd (gb_upd (gb_upd (gb_ext (gb_new (gb_ext (gb_upd (gb_ext (gb_refl w b) x1) x2) x3) u1) x4) x5) x9) x10) x11) u4) x12) u5) ((((b13.ext x11).upd1 u4).ext x12).upd1 u5) (KV.of_row [(t1, A1, c1), (t3, A3, c3)] (n := 10) (b16.upd1 u5) rfl ⟨by omega, by omega, (fun hj => by cases hj)⟩ (by intro p hp; simp only [List.mem_cons, List.not_mem_nil, or_false] at hp; rcases hp with rfl | rfl; exact (KV.top ((((((((((kv1.ext x3).upd u1).ext x4).upd x5).upd x9).upd x10).ext x11).upd u4).ext x12).upd u5)); exact (KV.top ((((kv3.ext x11).upd u4).ext x12).upd u5))))
  refine wp_skip (Gx.block_normal (Z.x (Z.u [(11, .int .i64 2), (24, .int .i64 2)] ?_)))
  refine Z.x (Gx.rounds_step ?_)
  refine Z.s [(12, .bool false)] ?_
  refine wp_seq (Z.cf ?_)
  refine wp_exit (Gx.then_exit (Gx.then_exit (Gx.block_exit (Z.x (Z.r [0, 1] ?_)))))
  refine Z.L 0 (.agg #[Z.n t1.k, Z.n t1.a, .string t1.nm, .int .i64 t1.n, .slice A1 t1.ks.length c1]) (((b4.ext x4).upd1 x5).upd1 x9) ?_
  refine Z.Sa #[Z.n t1.k, Z.n t1.a, .string t1.nm, .int .i64 t1.n, .slice A1 t1.ks.length c1] ((((((b1.upd1 x2).ext x3).upd1 u1).ext x4).upd1 x5).upd1 x9) (fun w18 u6 b18 zw18 => ?_)
  refine Z.e (wp_ret (Gx.ret (Gx.res_c (u := .agg #[Z.n t1.k, Z.n t1.a, .string t1.nm, .int .i64 t1.n, .slice A1 t1.ks.length c1]) rfl (by kernel_rfl) b18 (by kernel_rfl)) ?_))
  exact hK _ t1 A1 c1 q4 (by rw [run_succ]; simp only [stepN, compS, two, e1, e2, e4, h_c17, h_c17_1, Z.ifs, reduceIte]) (gb_new (gb_upd (gb_upd (gb_ext (gb_new (gb_ext (gb_upd (gb_ext (gb_refl w b) x1) x2) x3) u1) x4) x5) x9) u6) (b12.upd1 u6) (KV.top ((((((kv1.ext x3).upd u1).ext x4).upd x5).upd x9).upd u6))
set_option maxHeartbeats 1000000 in
set_option maxRecDepth 10000 in
theorem app_c (k : Nat) (b : Nat) (S : ByteArray) (q : Rs) (w : World) (K : Ending → World → Prop) (ih : ∀ j, j ≤ k → Spec j) (hb : Gx.Has w b (rdO S q)) (hok : Ok S q) (hmu : 16 * M S q + 5 ≤ k + 1) (hK : ∀ w' t A c q', run S (k + 1) .app q = (t, q') → Gx.G w w' (some b) → Gx.Has w' b (rdO S q') → KV (In w.heap.size w'.heap.size []) w' t.ks A c → K (.returned (.agg #[Z.n t.k, Z.n t.a, .string t.nm, .int .i64 t.n, .slice A t.ks.length c])) w') :
    Calls Try.prog 77 #[Z.P b 0] w K := by
  refine Gx.enter 62 Try.func77 rfl rfl (Nat.le_of_ble_eq_true rfl) ?_
  have tbb := hb.lt
  refine Z.r [0] ?_
  refine Z.N (.cells #[.int .i64 0, .int .i64 0, .string Z.E, .int .i64 0, .slice none 0 0] 24) (fun k1 w1 l1 x1 b1 zw1 tb1 => ?_)
  refine Z.e (Z.r [0, 1, 2, 3, 4, 5] ?_)
  refine Z.p [0, 1, 2, 3] [4, 5] [(14, Z.P b 2), (13, Z.P b 1), (12, Z.P b 0), (11, Z.P b 0)] ?_
  refine Z.L 2 (Z.n q.a) (hb.ext x1) ?_
  refine Z.p [5] [] [(3, Z.n q.a)] ?_
  refine Z.e (wp_seq (wp_block (Z.r [0, 1, 2] ?_)))
  refine Z.p [0] [1, 2] [(17, Z.P b 0)] ?_
  refine Z.k (fun R hR => has_c b S q (Z.B [100, 111]) _ R (hb.ext x1) hok (fun w2 q1 e1 x2 b2 => hR _ _ ?_))
  have zw2 := x2.size
  have tb2 := b2.lt
  obtain ⟨ok1, m1, tr1x, tr1y⟩ : Tr S q q1 := e1 ▸ has_tr hok
  refine Z.p [2] [] [(16, .bool (isB q (Z.B [100, 111])))] ?_
  refine Z.e (Z.c (isB q (Z.B [100, 111])) (fun h_c16 => ?_) (fun h_c16 => ?_))
  · skip
    refine Z.r [0, 1, 2, 3, 4, 5, 6] ?_
    refine Z.p [0] [1, 2, 3, 4, 5, 6] [(20, Z.P b 0)] ?_
    refine Z.k (fun R hR => name_c b S q1 _ R b2 ok1 (fun w3 nm1 na1 q2 e2 x3 b3 => hR _ _ ?_))
    have zw3 := x3.size
    have tb3 := b3.lt
    obtain ⟨ok2, m2, tr2x, tr2y⟩ : Tr S q1 q2 := by have := name_tr ok1; rw [e2] at this; exact this
    refine Z.p [2, 3, 4, 5, 6] [] [(5, Z.n na1), (4, .string nm1), (23, Z.n na1), (22, .string nm1), (19, .tuple #[.string nm1, Z.n na1])] ?_
    refine Z.e (Z.r [0, 1, 2, 3] ?_)
    refine Z.p [0] [1, 2, 3] [(24, Z.P b 0)] ?_
    have lt1 := (by have := has_lt hok h_c16; rw [e1] at this; exact this : M S q1 < M S q)
    refine Z.k (fun R hR => (ih k (Nat.le_refl k)).f_atom b S q2 _ R b3 ok2 (by omega) (fun w4 t1 A1 c1 q3 e3 x4 b4 kv1 => hR _ _ ?_))
    have zw4 := x4.size
    have tb4 := b4.lt
    obtain ⟨ok3, m3, tr3x, tr3y⟩ : Tr S q2 q3 := run_facts ok2 e3
    refine Z.N (.cells #[.int .i64 0, .int .i64 0, .string Z.E, .int .i64 0, .slice none 0 0] 24) (fun k2 w5 l2 x5 b5 zw5 tb5 => ?_)
    refine Z.Sa #[Z.n t1.k, Z.n t1.a, .string t1.nm, .int .i64 t1.n, .slice A1 t1.ks.length c1] b5 (fun w6 u1 b6 zw6 => ?_)
    refine Z.e (Z.r [0, 1, 2, 3, 4, 5] ?_)
    refine Z.p [0, 1] [2, 3, 4, 5] [(27, .string nm1), (26, Z.n q.a)] ?_
    refine Z.L 0 (.agg #[Z.n t1.k, Z.n t1.a, .string t1.nm, .int .i64 t1.n, .slice A1 t1.ks.length c1]) b6 ?_
    refine Z.R (.cells #[Z.n t1.k, Z.n t1.a, .string t1.nm, .int .i64 t1.n, .slice A1 t1.ks.length c1] 24) 1 1 (fun k3 w7 l3 x6 b7 zw7 tb7 => ?_)
    refine Z.k (fun R hR => named_c (19 : Int) ((q.a : Nat) : Int) nm1 (some (⟨k3, 0, none⟩ : Addr)) 1 1 _ R (fun w8 x7 => hR _ _ ?_))
    have zw8 := x7.size
    refine Z.Sa #[.int .i64 19, Z.n q.a, .string nm1, .int .i64 0, .slice (some ⟨k3, 0, none⟩) 1 1] (((((((b1.upd1 x2).upd1 x3).upd1 x4).ext x5).upd1 u1).ext x6).ext x7) (fun w9 u2 b8 zw9 => ?_)
    refine Z.e (wp_ret (Gx.block_ret (Gx.then_ret (Gx.ret (Gx.res_c (u := .agg #[.int .i64 19, Z.n q.a, .string nm1, .int .i64 0, .slice (some ⟨k3, 0, none⟩) 1 1]) rfl (by kernel_rfl) b8 (by kernel_rfl)) ?_))))
    exact hK _ (Nd.mk 19 q.a nm1 (0 : Int) [t1]) (some (⟨k3, 0, none⟩ : Addr)) 1 q3 (by rw [run_succ]; simp only [stepN, appS, e1, e2, e3, h_c16, Z.ifs, reduceIte]) (gb_new (gb_ext (gb_ext (gb_new (gb_ext (gb_upd (gb_upd (gb_upd (gb_ext (gb_refl w b) x1) x2) x3) x4) x5) u1) x6) x7) u2) (((((b4.ext x5).upd1 u1).ext x6).ext x7).upd1 u2) (KV.of_row [(t1, A1, c1)] (n := 5) ((b7.ext x7).upd1 u2) rfl ⟨by omega, by omega, (fun hj => by cases hj)⟩ (by intro p hp; simp only [List.mem_cons, List.not_mem_nil, or_false] at hp; subst hp; exact (KV.top (((((kv1.ext x5).upd u1).ext x6).ext x7).upd u2))))
  refine Z.r [0, 1, 2] ?_
  refine Z.p [0] [1, 2] [(32, Z.P b 0)] ?_
  refine Z.k (fun R hR => has_c b S q1 (Z.B [102, 115, 116]) _ R b2 ok1 (fun w10 q4 e4 x8 b9 => hR _ _ ?_))
  have zw10 := x8.size
  have tb9 := b9.lt
  obtain ⟨ok4, m4, tr4x, tr4y⟩ : Tr S q1 q4 := e4 ▸ has_tr ok1
  refine Z.p [2] [] [(31, .bool (isB q1 (Z.B [102, 115, 116])))] ?_
  refine Z.e (Z.c (isB q1 (Z.B [102, 115, 116])) (fun h_c31 => ?_) (fun h_c31 => ?_))
  · skip
    refine Z.r [0, 1, 2, 3] ?_
    refine Z.p [0] [1, 2, 3] [(34, Z.P b 0)] ?_
    have lt2 := (by have := has_lt ok1 h_c31; rw [e4] at this; exact this : M S q4 < M S q1)
    refine Z.k (fun R hR => (ih k (Nat.le_refl k)).f_atom b S q4 _ R b9 ok4 (by omega) (fun w11 t2 A2 c2 q5 e5 x9 b10 kv2 => hR _ _ ?_))
    have zw11 := x9.size
    have tb10 := b10.lt
    obtain ⟨ok5, m5, tr5x, tr5y⟩ : Tr S q4 q5 := run_facts ok4 e5
    refine Z.N (.cells #[.int .i64 0, .int .i64 0, .string Z.E, .int .i64 0, .slice none 0 0] 24) (fun k4 w12 l4 x10 b11 zw12 tb11 => ?_)
    refine Z.Sa #[Z.n t2.k, Z.n t2.a, .string t2.nm, .int .i64 t2.n, .slice A2 t2.ks.length c2] b11 (fun w13 u3 b12 zw13 => ?_)
    refine Z.e (Z.r [0, 1, 2, 3, 4] ?_)
    refine Z.p [0] [1, 2, 3, 4] [(36, Z.n q.a)] ?_
    refine Z.L 0 (.agg #[Z.n t2.k, Z.n t2.a, .string t2.nm, .int .i64 t2.n, .slice A2 t2.ks.length c2]) b12 ?_
    refine Z.R (.cells #[Z.n t2.k, Z.n t2.a, .string t2.nm, .int .i64 t2.n, .slice A2 t2.ks.length c2] 24) 1 1 (fun k5 w14 l5 x11 b13 zw14 tb13 => ?_)
    refine Z.k (fun R hR => Node_c (13 : Int) ((q.a : Nat) : Int) (some (⟨k5, 0, none⟩ : Addr)) 1 1 _ R (fun w15 x12 => hR _ _ ?_))
    have zw15 := x12.size
    refine Z.Sa #[.int .i64 13, Z.n q.a, .string Z.E, .int .i64 0, .slice (some ⟨k5, 0, none⟩) 1 1] (((((((b1.upd1 x2).upd1 x8).upd1 x9).ext x10).upd1 u3).ext x11).ext x12) (fun w16 u4 b14 zw16 => ?_)
    refine Z.e (wp_ret (Gx.block_ret (Gx.then_ret (Gx.ret (Gx.res_c (u := .agg #[.int .i64 13, Z.n q.a, .string Z.E, .int .i64 0, .slice (some ⟨k5, 0, none⟩) 1 1]) rfl (by kernel_rfl) b14 (by kernel_rfl)) ?_))))
    exact hK _ (Nd.mk 13 q.a Z.E (0 : Int) [t2]) (some (⟨k5, 0, none⟩ : Addr)) 1 q5 (by rw [run_succ]; simp only [stepN, appS, e1, e4, e5, h_c16, h_c31, Z.ifs, reduceIte]) (gb_new (gb_ext (gb_ext (gb_new (gb_ext (gb_upd (gb_upd (gb_upd (gb_ext (gb_refl w b) x1) x2) x8) x9) x10) u3) x11) x12) u4) (((((b10.ext x10).upd1 u3).ext x11).ext x12).upd1 u4) (KV.of_row [(t2, A2, c2)] (n := 5) ((b13.ext x12).upd1 u4) rfl ⟨by omega, by omega, (fun hj => by cases hj)⟩ (by intro p hp; simp only [List.mem_cons, List.not_mem_nil, or_false] at hp; subst hp; exact (KV.top (((((kv2.ext x10).upd u3).ext x11).ext x12).upd u4))))
  refine Z.r [0, 1, 2] ?_
  refine Z.p [0] [1, 2] [(41, Z.P b 0)] ?_
  refine Z.k (fun R hR => has_c b S q4 (Z.B [115, 110, 100]) _ R b9 ok4 (fun w17 q6 e6 x13 b15 => hR _ _ ?_))
  have zw17 := x13.size
  have tb15 := b15.lt
  obtain ⟨ok6, m6, tr6x, tr6y⟩ : Tr S q4 q6 := e6 ▸ has_tr ok4
  refine Z.p [2] [] [(40, .bool (isB q4 (Z.B [115, 110, 100])))] ?_
  refine Z.e (Z.c (isB q4 (Z.B [115, 110, 100])) (fun h_c40 => ?_) (fun h_c40 => ?_))
  · skip
    refine Z.r [0, 1, 2, 3] ?_
    refine Z.p [0] [1, 2, 3] [(43, Z.P b 0)] ?_
    have lt3 := (by have := has_lt ok4 h_c40; rw [e6] at this; exact this : M S q6 < M S q4)
    refine Z.k (fun R hR => (ih k (Nat.le_refl k)).f_atom b S q6 _ R b15 ok6 (by omega) (fun w18 t3 A3 c3 q7 e7 x14 b16 kv3 => hR _ _ ?_))
    have zw18 := x14.size
    have tb16 := b16.lt
    obtain ⟨ok7, m7, tr7x, tr7y⟩ : Tr S q6 q7 := run_facts ok6 e7
    refine Z.N (.cells #[.int .i64 0, .int .i64 0, .string Z.E, .int .i64 0, .slice none 0 0] 24) (fun k6 w19 l6 x15 b17 zw19 tb17 => ?_)
    refine Z.Sa #[Z.n t3.k, Z.n t3.a, .string t3.nm, .int .i64 t3.n, .slice A3 t3.ks.length c3] b17 (fun w20 u5 b18 zw20 => ?_)
    refine Z.e (Z.r [0, 1, 2, 3, 4] ?_)
    refine Z.p [0] [1, 2, 3, 4] [(45, Z.n q.a)] ?_
    refine Z.L 0 (.agg #[Z.n t3.k, Z.n t3.a, .string t3.nm, .int .i64 t3.n, .slice A3 t3.ks.length c3]) b18 ?_
    refine Z.R (.cells #[Z.n t3.k, Z.n t3.a, .string t3.nm, .int .i64 t3.n, .slice A3 t3.ks.length c3] 24) 1 1 (fun k7 w21 l7 x16 b19 zw21 tb19 => ?_)
    refine Z.k (fun R hR => Node_c (14 : Int) ((q.a : Nat) : Int) (some (⟨k7, 0, none⟩ : Addr)) 1 1 _ R (fun w22 x17 => hR _ _ ?_))
    have zw22 := x17.size
    refine Z.Sa #[.int .i64 14, Z.n q.a, .string Z.E, .int .i64 0, .slice (some ⟨k7, 0, none⟩) 1 1] ((((((((b1.upd1 x2).upd1 x8).upd1 x13).upd1 x14).ext x15).upd1 u5).ext x16).ext x17) (fun w23 u6 b20 zw23 => ?_)
    refine Z.e (wp_ret (Gx.block_ret (Gx.then_ret (Gx.ret (Gx.res_c (u := .agg #[.int .i64 14, Z.n q.a, .string Z.E, .int .i64 0, .slice (some ⟨k7, 0, none⟩) 1 1]) rfl (by kernel_rfl) b20 (by kernel_rfl)) ?_))))
    exact hK _ (Nd.mk 14 q.a Z.E (0 : Int) [t3]) (some (⟨k7, 0, none⟩ : Addr)) 1 q7 (by rw [run_succ]; simp only [stepN, appS, e1, e4, e6, e7, h_c16, h_c31, h_c40, Z.ifs, reduceIte]) (gb_new (gb_ext (gb_ext (gb_new (gb_ext (gb_upd (gb_upd (gb_upd (gb_upd (gb_ext (gb_refl w b) x1) x2) x8) x13) x14) x15) u5) x16) x17) u6) (((((b16.ext x15).upd1 u5).ext x16).ext x17).upd1 u6) (KV.of_row [(t3, A3, c3)] (n := 5) ((b19.ext x17).upd1 u6) rfl ⟨by omega, by omega, (fun hj => by cases hj)⟩ (by intro p hp; simp only [List.mem_cons, List.not_mem_nil, or_false] at hp; subst hp; exact (KV.top (((((kv3.ext x15).upd u5).ext x16).ext x17).upd u6))))
  refine wp_skip (Gx.block_normal (Z.x (Z.r [0, 1, 2, 3] ?_)))
  refine Z.p [0] [1, 2, 3] [(49, Z.P b 0)] ?_
  refine Z.k (fun R hR => (ih k (Nat.le_refl k)).f_atom b S q6 _ R b15 ok6 (by omega) (fun w24 t4 A4 c4 q8 e8 x18 b21 kv4 => hR _ _ ?_))
  have zw24 := x18.size
  have tb21 := b21.lt
  obtain ⟨ok8, m8, tr8x, tr8y⟩ : Tr S q6 q8 := run_facts ok6 e8
  refine Z.N (.cells #[.int .i64 0, .int .i64 0, .string Z.E, .int .i64 0, .slice none 0 0] 24) (fun k8 w25 l8 x19 b22 zw25 tb22 => ?_)
  refine Z.Sa #[Z.n t4.k, Z.n t4.a, .string t4.nm, .int .i64 t4.n, .slice A4 t4.ks.length c4] b22 (fun w26 u7 b23 zw26 => ?_)
  refine Z.e (wp_seq (wp_block (Gx.loop (n' := 62) (d' := []) (fun mz l' w' => ∃ (j : Nat) (p : Rs) (a : Nd) (A : Option Addr) (c : Nat), l' = [(0, Z.P b 0), (2, Z.P k1 0), (9, Z.P k8 0)] ∧ mz = M S p ∧ Gx.G w w' (some b) ∧ Gx.Has w' b (.cells #[.string S, Z.n p.k, Z.n p.a, .string p.t, Z.n p.n, Z.n p.e, Z.n p.fk, Z.n p.fa, Z.n p.x, Z.n p.y] 41) ∧ Gx.Has w' k1 (.cells #[.int .i64 0, .int .i64 0, .string Z.E, .int .i64 0, .slice none 0 0] 24) ∧ Gx.Has w' k8 (.cells #[Z.n a.k, Z.n a.a, .string a.nm, .int .i64 a.n, .slice A a.ks.length c] 24) ∧ (j ≤ k) ∧ (16 * M S p + 4 ≤ j) ∧ (run S j (.appL a) p = run S k (.appL t4) q8) ∧ (Ok S p) ∧ (KV (In w.heap.size w'.heap.size [k1, k8]) w' a.ks A c)) _ _ [(0, Z.P b 0), (2, Z.P k1 0), (9, Z.P k8 0)] (Gx.forget [(0, Z.P b 0), (2, Z.P k1 0), (9, Z.P k8 0)] (by kernel_rfl)) ⟨k, q8, t4, A4, c4, rfl, rfl, (gb_new (gb_ext (gb_upd (gb_upd (gb_upd (gb_upd (gb_ext (gb_refl w b) x1) x2) x8) x13) x18) x19) u7), ((b21.ext x19).upd1 u7), ((((((b1.upd1 x2).upd1 x8).upd1 x13).upd1 x18).ext x19).upd1 u7), b23, (Nat.le_refl _), (by omega), rfl, ok8, (KV.top ((kv4.ext x19).upd u7) (by omega) (by intro j hj; simp only [List.mem_cons, List.not_mem_nil, or_false] at hj ⊢; omega))⟩ (fun bb1 m9 ll1 w27 hI1 K1 hK1 => ?_))))
  obtain ⟨j, p, a, A, c, rfl, rfl, x20, b24, b25, b26, hj, hm, hr, ho, hkv⟩ := hI1
  have zw27 := x20.size
  have tb24 := b24.lt
  have tb25 := b25.lt
  have tb26 := b26.lt
  obtain ⟨i, rfl⟩ : ∃ i, j = i + 1 := ⟨j - 1, by omega⟩
  refine wp_seq (Z.r [0, 1] ?_)
  refine Z.p [0] [1] [(51, Z.P b 0)] ?_
  refine Z.k (fun R hR => begins_c b S p _ R b24 (hR _ _ ?_))
  refine Z.e (Z.c (begB p) (fun h_c52 => ?_) (fun h_c52 => ?_))
  · skip
    refine wp_skip (Z.x (wp_block (Z.r [0, 1, 2, 3] ?_)))
    refine Z.p [0] [1, 2, 3] [(53, Z.P b 0)] ?_
    refine Z.k (fun R hR => (ih i (by omega)).f_atom b S p _ R b24 ho (by omega) (fun w28 t5 A5 c5 q9 e9 x21 b27 kv5 => hR _ _ ?_))
    have zw28 := x21.size
    have tb27 := b27.lt
    have tr9 : Tr S p q9 := run_facts ho e9
    have lt4 := atom_lt ho (by omega) h_c52 e9
    have ok9 := tr9.ok; have m10 := tr9.m; have tr9x := tr9.x; have tr9y := tr9.y
    refine Z.N (.cells #[.int .i64 0, .int .i64 0, .string Z.E, .int .i64 0, .slice none 0 0] 24) (fun k9 w29 l9 x22 b28 zw29 tb28 => ?_)
    refine Z.Sa #[Z.n t5.k, Z.n t5.a, .string t5.nm, .int .i64 t5.n, .slice A5 t5.ks.length c5] b28 (fun w30 u8 b29 zw30 => ?_)
    refine Z.e (Z.g [0, 1, 2, 3, 4, 5, 6] ?_)
    refine Z.p [0] [1, 2, 3, 4, 5, 6] [(55, Z.P k8 1)] ?_
    refine Z.L 1 (Z.n a.a) (((b26.upd1 x21).ext x22).upd1 u8) ?_
    refine Z.L 0 (.agg #[Z.n a.k, Z.n a.a, .string a.nm, .int .i64 a.n, .slice A a.ks.length c]) (((b26.upd1 x21).ext x22).upd1 u8) ?_
    refine Z.L 0 (.agg #[Z.n t5.k, Z.n t5.a, .string t5.nm, .int .i64 t5.n, .slice A5 t5.ks.length c5]) b29 ?_
    refine Z.R (.cells #[Z.n a.k, Z.n a.a, .string a.nm, .int .i64 a.n, .slice A a.ks.length c, Z.n t5.k, Z.n t5.a, .string t5.nm, .int .i64 t5.n, .slice A5 t5.ks.length c5] 24) 2 2 (fun k10 w31 l10 x23 b30 zw31 tb30 => ?_)
    refine Z.k (fun R hR => Node_c (8 : Int) ((a.a : Nat) : Int) (some (⟨k10, 0, none⟩ : Addr)) 2 2 _ R (fun w32 x24 => hR _ _ ?_))
    have zw32 := x24.size
    refine Z.Sa #[.int .i64 8, Z.n a.a, .string Z.E, .int .i64 0, .slice (some ⟨k10, 0, none⟩) 2 2] (((((b26.upd1 x21).ext x22).upd1 u8).ext x23).ext x24) (fun w33 u9 b31 zw33 => ?_)
    refine Gx.ops_nil (Gx.block_normal (Z.x ?_))
    rw [Gx.forget [(0, Z.P b 0), (2, Z.P k1 0), (9, Z.P k8 0)] (by kernel_rfl)]
    exact hK1 _ _ _ _ (by omega) ⟨i, q9, (Nd.mk 8 a.a Z.E (0 : Int) [a, t5]), (some (⟨k10, 0, none⟩ : Addr)), 2, rfl, rfl, (gb_new (gb_ext (gb_ext (gb_new (gb_ext (gb_upd (gb_upd (gb_refl w b) x20) x21) x22) u8) x23) x24) u9), (((((b27.ext x22).upd1 u8).ext x23).ext x24).upd1 u9), ((((((b25.upd1 x21).ext x22).upd1 u8).ext x23).ext x24).upd1 u9), b31, (by omega), (by omega), (by rw [← hr, run_succ]; simp only [stepN, appLS, e9, h_c16, h_c31, h_c40, h_c52, Z.ifs, reduceIte]), ok9, (KV.of_row [(a, A, c), (t5, A5, c5)] (n := 10) ((b30.ext x24).upd1 u9) rfl ⟨by omega, by omega, (by simp only [List.mem_cons, List.not_mem_nil, or_false, not_or]; omega)⟩ (by intro p hp; simp only [List.mem_cons, List.not_mem_nil, or_false] at hp; rcases hp with rfl | rfl; exact (KV.top ((((((hkv.upd x21).ext x22).upd u8).ext x23).ext x24).upd u9) (by omega) (by intro j hj; simp only [List.mem_cons, List.not_mem_nil, or_false] at hj ⊢; omega)); exact (KV.top (((((kv5.ext x22).upd u8).ext x23).ext x24).upd u9) (by omega) (by intro j hj; simp only [List.mem_cons, List.not_mem_nil, or_false] at hj ⊢; omega))))⟩
  refine wp_exit (Gx.then_exit (Gx.then_exit (Gx.block_exit (Z.x ?_))))
  have e10 : run S k (.appL t4) q8 = (a, p) := by rw [← hr, run_succ]; simp only [stepN, appLS, h_c16, h_c31, h_c40, h_c52, Z.ifs, reduceIte]
  refine Z.r [0, 1] ?_
  refine Z.L 0 (.agg #[Z.n a.k, Z.n a.a, .string a.nm, .int .i64 a.n, .slice A a.ks.length c]) b26 ?_
  refine Z.Sa #[Z.n a.k, Z.n a.a, .string a.nm, .int .i64 a.n, .slice A a.ks.length c] b25 (fun w34 u10 b32 zw34 => ?_)
  refine Z.e (wp_ret (Gx.ret (Gx.res_c (u := .agg #[Z.n a.k, Z.n a.a, .string a.nm, .int .i64 a.n, .slice A a.ks.length c]) rfl (by kernel_rfl) b32 (by kernel_rfl)) ?_))
  exact hK _ a A c p (by rw [run_succ]; simp only [stepN, appS, e1, e4, e6, e8, e10, h_c16, h_c31, h_c40, h_c52, Z.ifs, reduceIte]) (gb_new (gb_upd (gb_refl w b) x20) u10) (b24.upd1 u10) (KV.top (hkv.upd u10))
set_option maxHeartbeats 1000000 in
set_option maxRecDepth 10000 in
theorem atom_c (k : Nat) (b : Nat) (S : ByteArray) (q : Rs) (w : World) (K : Ending → World → Prop) (ih : ∀ j, j ≤ k → Spec j) (hb : Gx.Has w b (rdO S q)) (hok : Ok S q) (hmu : 16 * M S q + 3 ≤ k + 1) (hK : ∀ w' t A c q', run S (k + 1) .atom q = (t, q') → Gx.G w w' (some b) → Gx.Has w' b (rdO S q') → KV (In w.heap.size w'.heap.size []) w' t.ks A c → K (.returned (.agg #[Z.n t.k, Z.n t.a, .string t.nm, .int .i64 t.n, .slice A t.ks.length c])) w') :
    Calls Try.prog 78 #[Z.P b 0] w K := by
  refine Gx.enter 91 Try.func78 rfl rfl (Nat.le_of_ble_eq_true rfl) ?_
  have tbb := hb.lt
  refine Z.r [0] ?_
  refine Z.N (.cells #[.int .i64 0, .int .i64 0, .string Z.E, .int .i64 0, .slice none 0 0] 24) (fun k1 w1 l1 x1 b1 zw1 tb1 => ?_)
  refine Z.e (Z.r [0, 1, 2, 3, 4, 5] ?_)
  refine Z.p [0, 1, 2, 3] [4, 5] [(9, Z.P b 2), (8, Z.P b 1), (7, Z.P b 0), (6, Z.P b 0)] ?_
  refine Z.L 2 (Z.n q.a) (hb.ext x1) ?_
  refine Z.p [5] [] [(3, Z.n q.a)] ?_
  refine Z.e (Z.r [0, 1, 2, 3, 4, 5] ?_)
  refine Z.p [0, 1, 2] [3, 4, 5] [(13, Z.P b 1), (12, Z.P b 0), (11, Z.P b 0)] ?_
  refine Z.L 1 (.agg #[Z.n q.k, Z.n q.a, .string q.t, Z.n q.n]) (hb.ext x1) ?_
  refine Z.N (.cells #[.int .i64 0, .int .i64 0, .string Z.E, .int .i64 0] 34) (fun k2 w2 l2 x2 b2 zw2 tb2 => ?_)
  refine Z.Sa #[Z.n q.k, Z.n q.a, .string q.t, Z.n q.n] b2 (fun w3 u1 b3 zw3 => ?_)
  refine Z.e (wp_seq (wp_block (Z.r [0, 1, 2, 3] ?_)))
  refine Z.p [0] [1, 2, 3] [(16, Z.P b 0)] ?_
  refine Z.k (fun R hR => ok_c b S q _ R (((hb.ext x1).ext x2).upd1 u1) (hR _ _ ?_))
  refine Z.p [2, 3] [] [(15, .bool (!(okB q))), (18, .bool (!(okB q)))] ?_
  refine Z.e (Z.c (!(okB q)) (fun h_c15 => ?_) (fun h_c15 => ?_))
  · skip
    refine Z.r [0, 1] ?_
    refine Z.p [0] [1] [(19, .agg #[.int .i64 0, .int .i64 0, .string Z.E, .int .i64 0, .slice none 0 0])] ?_
    have n_c15 : okB q = false := by simpa using h_c15
    refine Z.Sa #[.int .i64 0, .int .i64 0, .string Z.E, .int .i64 0, .slice none 0 0] ((b1.ext x2).upd1 u1) (fun w4 u2 b4 zw4 => ?_)
    refine Z.e (wp_ret (Gx.block_ret (Gx.then_ret (Gx.ret (Gx.res_c (u := .agg #[.int .i64 0, .int .i64 0, .string Z.E, .int .i64 0, .slice none 0 0]) rfl (by kernel_rfl) b4 (by kernel_rfl)) ?_))))
    exact hK _ nd0 none 0 q (by rw [run_succ]; simp only [stepN, atomS, numS, h_c15, n_c15, Z.ifs, reduceIte]) (gb_new (gb_new (gb_ext (gb_ext (gb_refl w b) x1) x2) u1) u2) ((((hb.ext x1).ext x2).upd1 u1).upd1 u2) KV.nil
  refine Z.r [0, 1, 2, 3] ?_
  refine Z.p [0] [1, 2, 3] [(21, Z.P k2 0)] ?_
  refine Z.L 0 (Z.n q.k) b3 ?_
  refine Z.p [2, 3] [] [(20, .bool (((q.k : Nat) : Int) == (2 : Int))), (23, .bool (((q.k : Nat) : Int) == (2 : Int)))] ?_
  refine Z.e (Z.c (((q.k : Nat) : Int) == (2 : Int)) (fun h_c20 => ?_) (fun h_c20 => ?_))
  · skip
    refine Z.r [0, 1] ?_
    refine Z.p [0] [1] [(24, Z.P b 0)] ?_
    have n_c15 : okB q = true := by simpa using h_c15
    have p_c20 := Gx.k1 h_c20
    refine Z.k (fun R hR => next_c b S q _ R (((hb.ext x1).ext x2).upd1 u1) hok (fun w5 q1 e1 x3 b5 => hR _ _ ?_))
    have zw5 := x3.size
    have tb5 := b5.lt
    obtain ⟨ok1, m1, tr1x, tr1y⟩ : Tr S q q1 := e1 ▸ next_tr hok
    refine Z.e (Z.r [0, 1, 2, 3, 4] ?_)
    refine Z.p [0, 1] [2, 3, 4] [(27, Z.P k2 2), (26, Z.n q.a)] ?_
    refine Z.L 2 (.string q.t) (b3.upd1 x3) ?_
    refine Z.k (fun R hR => named_c (6 : Int) ((q.a : Nat) : Int) q.t none 0 0 _ R (fun w6 x4 => hR _ _ ?_))
    have zw6 := x4.size
    refine Z.Sa #[.int .i64 6, Z.n q.a, .string q.t, .int .i64 0, .slice none 0 0] ((((b1.ext x2).upd1 u1).upd1 x3).ext x4) (fun w7 u3 b6 zw7 => ?_)
    refine Z.e (wp_ret (Gx.block_ret (Gx.then_ret (Gx.ret (Gx.res_c (u := .agg #[.int .i64 6, Z.n q.a, .string q.t, .int .i64 0, .slice none 0 0]) rfl (by kernel_rfl) b6 (by kernel_rfl)) ?_))))
    exact hK _ (Nd.mk 6 q.a q.t (0 : Int) []) none 0 q1 (by rw [run_succ]; simp only [stepN, atomS, numS, e1, h_c15, h_c20, n_c15, Z.ifs, reduceIte]) (gb_new (gb_ext (gb_upd (gb_new (gb_ext (gb_ext (gb_refl w b) x1) x2) u1) x3) x4) u3) ((b5.ext x4).upd1 u3) KV.nil
  refine Z.r [0, 1, 2, 3] ?_
  refine Z.p [0] [1, 2, 3] [(31, Z.P k2 0)] ?_
  refine Z.L 0 (Z.n q.k) b3 ?_
  refine Z.p [2, 3] [] [(30, .bool (((q.k : Nat) : Int) == (1 : Int))), (33, .bool (((q.k : Nat) : Int) == (1 : Int)))] ?_
  refine Z.e (Z.c (((q.k : Nat) : Int) == (1 : Int)) (fun h_c30 => ?_) (fun h_c30 => ?_))
  · skip
    refine Z.r [0, 1] ?_
    refine Z.p [0] [1] [(34, Z.P b 0)] ?_
    have n_c15 : okB q = true := by simpa using h_c15
    have p_c20 := Gx.k0 h_c20
    have p_c30 := Gx.k1 h_c30
    refine Z.k (fun R hR => next_c b S q _ R (((hb.ext x1).ext x2).upd1 u1) hok (fun w8 q2 e2 x5 b7 => hR _ _ ?_))
    have zw8 := x5.size
    have tb7 := b7.lt
    obtain ⟨ok2, m2, tr2x, tr2y⟩ : Tr S q q2 := e2 ▸ next_tr hok
    refine Z.e (Z.r [0, 1, 2, 3, 4] ?_)
    refine Z.p [0, 1] [2, 3, 4] [(37, Z.P k2 3), (36, Z.n q.a)] ?_
    refine Z.L 3 (Z.n q.n) (b3.upd1 x5) ?_
    refine Z.p [3] [4] [(39, .agg #[.int .i64 3, Z.n q.a, .string Z.E, Z.n q.n, .slice none 0 0])] ?_
    refine Z.Sa #[.int .i64 3, Z.n q.a, .string Z.E, Z.n q.n, .slice none 0 0] (((b1.ext x2).upd1 u1).upd1 x5) (fun w9 u4 b8 zw9 => ?_)
    refine Z.e (wp_ret (Gx.block_ret (Gx.then_ret (Gx.ret (Gx.res_c (u := .agg #[.int .i64 3, Z.n q.a, .string Z.E, Z.n q.n, .slice none 0 0]) rfl (by kernel_rfl) b8 (by kernel_rfl)) ?_))))
    exact hK _ (Nd.mk 3 q.a Z.E ((q.n : Nat) : Int) []) none 0 q2 (by rw [run_succ]; simp only [stepN, atomS, numS, e2, h_c15, h_c20, h_c30, n_c15, Z.ifs, reduceIte]) (gb_new (gb_upd (gb_new (gb_ext (gb_ext (gb_refl w b) x1) x2) u1) x5) u4) (b7.upd1 u4) KV.nil
  refine Z.r [0, 1, 2] ?_
  refine Z.p [0] [1, 2] [(41, Z.P b 0)] ?_
  have n_c15 : okB q = true := by simpa using h_c15
  have p_c20 := Gx.k0 h_c20
  have p_c30 := Gx.k0 h_c30
  refine Z.k (fun R hR => has_c b S q (Z.B [126]) _ R (((hb.ext x1).ext x2).upd1 u1) hok (fun w10 q3 e3 x6 b9 => hR _ _ ?_))
  have zw10 := x6.size
  have tb9 := b9.lt
  obtain ⟨ok3, m3, tr3x, tr3y⟩ : Tr S q q3 := e3 ▸ has_tr hok
  refine Z.p [2] [] [(40, .bool (isB q (Z.B [126])))] ?_
  refine Z.e (Z.c (isB q (Z.B [126])) (fun h_c40 => ?_) (fun h_c40 => ?_))
  · skip
    refine Z.r [0, 1, 2, 3, 4, 5] ?_
    refine Z.p [0, 1, 2, 3] [4, 5] [(46, Z.P b 4), (45, Z.P b 1), (44, Z.P b 0), (43, Z.P b 0)] ?_
    refine Z.L 4 (Z.n q3.n) b9 ?_
    refine Z.p [5] [] [(5, Z.n q3.n)] ?_
    refine Z.e (wp_seq (Z.r [0, 1, 2, 3, 4, 5, 6, 7, 8, 9] ?_))
    refine Z.p [0] [1, 2, 3, 4, 5, 6, 7, 8, 9] [(48, Z.P b 0)] ?_
    refine Z.k (fun R hR => ok_c b S q3 _ R b9 (hR _ _ ?_))
    refine Z.p [2] [3, 4, 5, 6, 7, 8, 9] [(50, .bool (okB q3))] ?_
    refine Gx.split (okB q3) (fun h_g50 => ?_) (fun h_g50 => ?_)
    · rw [h_g50]
      refine Z.p [3, 4, 5, 6] [7, 8, 9] [(54, Z.P b 1), (53, Z.P b 1), (52, Z.P b 0), (51, Z.P b 0)] ?_
      refine Z.L 1 (Z.n q3.k) b9 ?_
      refine Z.p [8, 9] [] [(57, .bool (((q3.k : Nat) : Int) != (1 : Int))), (56, .bool (((q3.k : Nat) : Int) != (1 : Int)))] ?_
      refine Z.e (Z.c (((q3.k : Nat) : Int) != (1 : Int)) (fun h_c57 => ?_) (fun h_c57 => ?_))
      · skip
        refine Z.g [0, 1] ?_
        refine Z.p [0] [1] [(58, Z.P b 0)] ?_
        refine Z.k (fun R hR => no_c b S q3 _ R b9 ok3 (fun w11 q4 e4 x7 b10 => hR _ _ ?_))
        have zw11 := x7.size
        have tb10 := b10.lt
        obtain ⟨ok4, m4, tr4x, tr4y⟩ : Tr S q3 q4 := e4 ▸ no_tr ok3
        refine Gx.ops_nil (Z.x (Z.r [0, 1] ?_))
        refine Z.p [0] [1] [(60, Z.P b 0)] ?_
        refine Z.k (fun R hR => next_c b S q4 _ R b10 ok4 (fun w12 q5 e5 x8 b11 => hR _ _ ?_))
        have zw12 := x8.size
        have tb11 := b11.lt
        obtain ⟨ok5, m5, tr5x, tr5y⟩ : Tr S q4 q5 := e5 ▸ next_tr ok4
        refine Z.e (Z.r [0, 1, 2, 3, 4] ?_)
        refine Z.p [0, 1] [2, 3, 4] [(63, Z.n q3.n), (62, Z.n q.a)] ?_
        have lt1 := (by have := has_lt hok h_c40; rw [e3] at this; exact this : M S q3 < M S q)
        have n_c57 : (((q3.k : Nat) : Int) == (1 : Int)) = false := by simpa using h_c57
        have p_c57 := h_c57; try simp at p_c57
        refine Gx.pure_eq [2] [3, 4] [(64, .int .i64 (IntKind.i64.wrap (0 - ((q3.n : Nat) : Int))))] [(64, .int .i64 (-((q3.n : Nat) : Int)))] rfl (by kernel_rfl) (Gx.eqI (by rw [IntWalk.i64_in _ (by have := ok3.n; omega)]; omega)) ?_
        refine Z.p [3] [4] [(65, .agg #[.int .i64 3, Z.n q.a, .string Z.E, .int .i64 (-((q3.n : Nat) : Int)), .slice none 0 0])] ?_
        refine Z.Sa #[.int .i64 3, Z.n q.a, .string Z.E, .int .i64 (-((q3.n : Nat) : Int)), .slice none 0 0] (((((b1.ext x2).upd1 u1).upd1 x6).upd1 x7).upd1 x8) (fun w13 u5 b12 zw13 => ?_)
        refine Z.e (wp_ret (Gx.block_ret (Gx.then_ret (Gx.ret (Gx.res_c (u := .agg #[.int .i64 3, Z.n q.a, .string Z.E, .int .i64 (-((q3.n : Nat) : Int)), .slice none 0 0]) rfl (by kernel_rfl) b12 (by kernel_rfl)) ?_))))
        exact hK _ (Nd.mk 3 q.a Z.E (-((q3.n : Nat) : Int)) []) none 0 q5 (by rw [run_succ]; simp only [stepN, atomS, numS, e3, e4, e5, h_c15, h_c20, h_c30, h_c40, h_g50, h_c57, n_c15, n_c57, Z.ifs, reduceIte]) (gb_new (gb_upd (gb_upd (gb_upd (gb_new (gb_ext (gb_ext (gb_refl w b) x1) x2) u1) x6) x7) x8) u5) (b11.upd1 u5) KV.nil
      refine wp_skip (Z.x (Z.r [0, 1] ?_))
      refine Z.p [0] [1] [(60, Z.P b 0)] ?_
      refine Z.k (fun R hR => next_c b S q3 _ R b9 ok3 (fun w14 q6 e6 x9 b13 => hR _ _ ?_))
      have zw14 := x9.size
      have tb13 := b13.lt
      obtain ⟨ok6, m6, tr6x, tr6y⟩ : Tr S q3 q6 := e6 ▸ next_tr ok3
      refine Z.e (Z.r [0, 1, 2, 3, 4] ?_)
      refine Z.p [0, 1] [2, 3, 4] [(63, Z.n q3.n), (62, Z.n q.a)] ?_
      have lt2 := (by have := has_lt hok h_c40; rw [e3] at this; exact this : M S q3 < M S q)
      have n_c57 : (((q3.k : Nat) : Int) == (1 : Int)) = true := by simpa using h_c57
      have p_c57 := h_c57; try simp at p_c57
      refine Gx.pure_eq [2] [3, 4] [(64, .int .i64 (IntKind.i64.wrap (0 - ((q3.n : Nat) : Int))))] [(64, .int .i64 (-((q3.n : Nat) : Int)))] rfl (by kernel_rfl) (Gx.eqI (by rw [IntWalk.i64_in _ (by have := ok3.n; omega)]; omega)) ?_
      refine Z.p [3] [4] [(65, .agg #[.int .i64 3, Z.n q.a, .string Z.E, .int .i64 (-((q3.n : Nat) : Int)), .slice none 0 0])] ?_
      refine Z.Sa #[.int .i64 3, Z.n q.a, .string Z.E, .int .i64 (-((q3.n : Nat) : Int)), .slice none 0 0] ((((b1.ext x2).upd1 u1).upd1 x6).upd1 x9) (fun w15 u6 b14 zw15 => ?_)
      refine Z.e (wp_ret (Gx.block_ret (Gx.then_ret (Gx.ret (Gx.res_c (u := .agg #[.int .i64 3, Z.n q.a, .string Z.E, .int .i64 (-((q3.n : Nat) : Int)), .slice none 0 0]) rfl (by kernel_rfl) b14 (by kernel_rfl)) ?_))))
      exact hK _ (Nd.mk 3 q.a Z.E (-((q3.n : Nat) : Int)) []) none 0 q6 (by rw [run_succ]; simp only [stepN, atomS, numS, e3, e6, h_c15, h_c20, h_c30, h_c40, h_g50, h_c57, n_c15, n_c57, Z.ifs, reduceIte]) (gb_new (gb_upd (gb_upd (gb_new (gb_ext (gb_ext (gb_refl w b) x1) x2) u1) x6) x9) u6) (b13.upd1 u6) KV.nil
    rw [h_g50]
    refine Z.p [3, 4, 5, 6, 7, 8, 9] [] [(57, .bool false), (56, undef), (55, undef), (54, undef), (53, undef), (52, undef), (51, undef)] ?_
    refine Z.e (Z.cf ?_)
    refine wp_skip (Z.x (Z.r [0, 1] ?_))
    refine Z.p [0] [1] [(60, Z.P b 0)] ?_
    refine Z.k (fun R hR => next_c b S q3 _ R b9 ok3 (fun w16 q7 e7 x10 b15 => hR _ _ ?_))
    have zw16 := x10.size
    have tb15 := b15.lt
    obtain ⟨ok7, m7, tr7x, tr7y⟩ : Tr S q3 q7 := e7 ▸ next_tr ok3
    refine Z.e (Z.r [0, 1, 2, 3, 4] ?_)
    refine Z.p [0, 1] [2, 3, 4] [(63, Z.n q3.n), (62, Z.n q.a)] ?_
    have lt3 := (by have := has_lt hok h_c40; rw [e3] at this; exact this : M S q3 < M S q)
    refine Gx.pure_eq [2] [3, 4] [(64, .int .i64 (IntKind.i64.wrap (0 - ((q3.n : Nat) : Int))))] [(64, .int .i64 (-((q3.n : Nat) : Int)))] rfl (by kernel_rfl) (Gx.eqI (by rw [IntWalk.i64_in _ (by have := ok3.n; omega)]; omega)) ?_
    refine Z.p [3] [4] [(65, .agg #[.int .i64 3, Z.n q.a, .string Z.E, .int .i64 (-((q3.n : Nat) : Int)), .slice none 0 0])] ?_
    refine Z.Sa #[.int .i64 3, Z.n q.a, .string Z.E, .int .i64 (-((q3.n : Nat) : Int)), .slice none 0 0] ((((b1.ext x2).upd1 u1).upd1 x6).upd1 x10) (fun w17 u7 b16 zw17 => ?_)
    refine Z.e (wp_ret (Gx.block_ret (Gx.then_ret (Gx.ret (Gx.res_c (u := .agg #[.int .i64 3, Z.n q.a, .string Z.E, .int .i64 (-((q3.n : Nat) : Int)), .slice none 0 0]) rfl (by kernel_rfl) b16 (by kernel_rfl)) ?_))))
    exact hK _ (Nd.mk 3 q.a Z.E (-((q3.n : Nat) : Int)) []) none 0 q7 (by rw [run_succ]; simp only [stepN, atomS, numS, e3, e7, h_c15, h_c20, h_c30, h_c40, h_g50, n_c15, Z.ifs, reduceIte]) (gb_new (gb_upd (gb_upd (gb_new (gb_ext (gb_ext (gb_refl w b) x1) x2) u1) x6) x10) u7) (b15.upd1 u7) KV.nil
  refine Z.r [0, 1, 2] ?_
  refine Z.p [0] [1, 2] [(67, Z.P b 0)] ?_
  refine Z.k (fun R hR => has_c b S q3 (Z.B [116, 114, 117, 101]) _ R b9 ok3 (fun w18 q8 e8 x11 b17 => hR _ _ ?_))
  have zw18 := x11.size
  have tb17 := b17.lt
  obtain ⟨ok8, m8, tr8x, tr8y⟩ : Tr S q3 q8 := e8 ▸ has_tr ok3
  refine Z.p [2] [] [(66, .bool (isB q3 (Z.B [116, 114, 117, 101])))] ?_
  refine Z.e (Z.c (isB q3 (Z.B [116, 114, 117, 101])) (fun h_c66 => ?_) (fun h_c66 => ?_))
  · skip
    refine Z.r [0, 1, 2] ?_
    refine Z.p [0, 1] [2] [(70, .agg #[.int .i64 4, Z.n q.a, .string Z.E, .int .i64 1, .slice none 0 0]), (69, Z.n q.a)] ?_
    have lt4 := (by have := has_lt ok3 h_c66; rw [e8] at this; exact this : M S q8 < M S q3)
    refine Z.Sa #[.int .i64 4, Z.n q.a, .string Z.E, .int .i64 1, .slice none 0 0] ((((b1.ext x2).upd1 u1).upd1 x6).upd1 x11) (fun w19 u8 b18 zw19 => ?_)
    refine Z.e (wp_ret (Gx.block_ret (Gx.then_ret (Gx.ret (Gx.res_c (u := .agg #[.int .i64 4, Z.n q.a, .string Z.E, .int .i64 1, .slice none 0 0]) rfl (by kernel_rfl) b18 (by kernel_rfl)) ?_))))
    exact hK _ (Nd.mk 4 q.a Z.E (1 : Int) []) none 0 q8 (by rw [run_succ]; simp only [stepN, atomS, numS, e3, e8, h_c15, h_c20, h_c30, h_c40, h_c66, n_c15, Z.ifs, reduceIte]) (gb_new (gb_upd (gb_upd (gb_new (gb_ext (gb_ext (gb_refl w b) x1) x2) u1) x6) x11) u8) (b17.upd1 u8) KV.nil
  refine Z.r [0, 1, 2] ?_
  refine Z.p [0] [1, 2] [(72, Z.P b 0)] ?_
  refine Z.k (fun R hR => has_c b S q8 (Z.B [102, 97, 108, 115, 101]) _ R b17 ok8 (fun w20 q9 e9 x12 b19 => hR _ _ ?_))
  have zw20 := x12.size
  have tb19 := b19.lt
  obtain ⟨ok9, m9, tr9x, tr9y⟩ : Tr S q8 q9 := e9 ▸ has_tr ok8
  refine Z.p [2] [] [(71, .bool (isB q8 (Z.B [102, 97, 108, 115, 101])))] ?_
  refine Z.e (Z.c (isB q8 (Z.B [102, 97, 108, 115, 101])) (fun h_c71 => ?_) (fun h_c71 => ?_))
  · skip
    refine Z.r [0, 1, 2] ?_
    refine Z.p [0, 1] [2] [(75, .agg #[.int .i64 4, Z.n q.a, .string Z.E, .int .i64 0, .slice none 0 0]), (74, Z.n q.a)] ?_
    have lt5 := (by have := has_lt ok8 h_c71; rw [e9] at this; exact this : M S q9 < M S q8)
    refine Z.Sa #[.int .i64 4, Z.n q.a, .string Z.E, .int .i64 0, .slice none 0 0] (((((b1.ext x2).upd1 u1).upd1 x6).upd1 x11).upd1 x12) (fun w21 u9 b20 zw21 => ?_)
    refine Z.e (wp_ret (Gx.block_ret (Gx.then_ret (Gx.ret (Gx.res_c (u := .agg #[.int .i64 4, Z.n q.a, .string Z.E, .int .i64 0, .slice none 0 0]) rfl (by kernel_rfl) b20 (by kernel_rfl)) ?_))))
    exact hK _ (Nd.mk 4 q.a Z.E (0 : Int) []) none 0 q9 (by rw [run_succ]; simp only [stepN, atomS, numS, e3, e8, e9, h_c15, h_c20, h_c30, h_c40, h_c66, h_c71, n_c15, Z.ifs, reduceIte]) (gb_new (gb_upd (gb_upd (gb_upd (gb_new (gb_ext (gb_ext (gb_refl w b) x1) x2) u1) x6) x11) x12) u9) (b19.upd1 u9) KV.nil
  refine Z.r [0, 1, 2] ?_
  refine Z.p [0] [1, 2] [(77, Z.P b 0)] ?_
  refine Z.k (fun R hR => has_c b S q9 (Z.B [40]) _ R b19 ok9 (fun w22 q10 e10 x13 b21 => hR _ _ ?_))
  have zw22 := x13.size
  have tb21 := b21.lt
  obtain ⟨ok10, m10, tr10x, tr10y⟩ : Tr S q9 q10 := e10 ▸ has_tr ok9
  refine Z.p [2] [] [(76, .bool (isB q9 (Z.B [40])))] ?_
  refine Z.e (Z.c (isB q9 (Z.B [40])) (fun h_c76 => ?_) (fun h_c76 => ?_))
  · skip
    refine Z.r [0, 1, 2, 3] ?_
    refine Z.p [0, 1] [2, 3] [(80, Z.n q.a), (79, Z.P b 0)] ?_
    have lt6 := (by have := has_lt ok9 h_c76; rw [e10] at this; exact this : M S q10 < M S q9)
    refine Z.k (fun R hR => (ih k (Nat.le_refl k)).f_round b S q10 q.a _ R b21 ok10 (by omega) (fun w23 t1 A1 c1 q11 e11 x14 b22 kv1 => hR _ _ ?_))
    have zw23 := x14.size
    have tb22 := b22.lt
    obtain ⟨ok11, m11, tr11x, tr11y⟩ : Tr S q10 q11 := run_facts ok10 e11
    refine Z.Sa #[Z.n t1.k, Z.n t1.a, .string t1.nm, .int .i64 t1.n, .slice A1 t1.ks.length c1] (((((((b1.ext x2).upd1 u1).upd1 x6).upd1 x11).upd1 x12).upd1 x13).upd1 x14) (fun w24 u10 b23 zw24 => ?_)
    refine Z.e (wp_ret (Gx.block_ret (Gx.then_ret (Gx.ret (Gx.res_c (u := .agg #[Z.n t1.k, Z.n t1.a, .string t1.nm, .int .i64 t1.n, .slice A1 t1.ks.length c1]) rfl (by kernel_rfl) b23 (by kernel_rfl)) ?_))))
    exact hK _ t1 A1 c1 q11 (by rw [run_succ]; simp only [stepN, atomS, numS, e3, e8, e9, e10, e11, h_c15, h_c20, h_c30, h_c40, h_c66, h_c71, h_c76, n_c15, Z.ifs, reduceIte]) (gb_new (gb_upd (gb_upd (gb_upd (gb_upd (gb_upd (gb_new (gb_ext (gb_ext (gb_refl w b) x1) x2) u1) x6) x11) x12) x13) x14) u10) (b22.upd1 u10) (KV.top (kv1.upd u10))
  refine Z.r [0, 1, 2] ?_
  refine Z.p [0] [1, 2] [(83, Z.P b 0)] ?_
  refine Z.k (fun R hR => has_c b S q10 (Z.B [91]) _ R b21 ok10 (fun w25 q12 e12 x15 b24 => hR _ _ ?_))
  have zw25 := x15.size
  have tb24 := b24.lt
  obtain ⟨ok12, m12, tr12x, tr12y⟩ : Tr S q10 q12 := e12 ▸ has_tr ok10
  refine Z.p [2] [] [(82, .bool (isB q10 (Z.B [91])))] ?_
  refine Z.e (Z.c (isB q10 (Z.B [91])) (fun h_c82 => ?_) (fun h_c82 => ?_))
  · skip
    refine Z.r [0, 1, 2, 3] ?_
    refine Z.p [0, 1] [2, 3] [(86, Z.n q.a), (85, Z.P b 0)] ?_
    have lt7 := (by have := has_lt ok10 h_c82; rw [e12] at this; exact this : M S q12 < M S q10)
    refine Z.k (fun R hR => (ih k (Nat.le_refl k)).f_square b S q12 q.a _ R b24 ok12 (by omega) (fun w26 t2 A2 c2 q13 e13 x16 b25 kv2 => hR _ _ ?_))
    have zw26 := x16.size
    have tb25 := b25.lt
    obtain ⟨ok13, m13, tr13x, tr13y⟩ : Tr S q12 q13 := run_facts ok12 e13
    refine Z.Sa #[Z.n t2.k, Z.n t2.a, .string t2.nm, .int .i64 t2.n, .slice A2 t2.ks.length c2] ((((((((b1.ext x2).upd1 u1).upd1 x6).upd1 x11).upd1 x12).upd1 x13).upd1 x15).upd1 x16) (fun w27 u11 b26 zw27 => ?_)
    refine Z.e (wp_ret (Gx.block_ret (Gx.then_ret (Gx.ret (Gx.res_c (u := .agg #[Z.n t2.k, Z.n t2.a, .string t2.nm, .int .i64 t2.n, .slice A2 t2.ks.length c2]) rfl (by kernel_rfl) b26 (by kernel_rfl)) ?_))))
    exact hK _ t2 A2 c2 q13 (by rw [run_succ]; simp only [stepN, atomS, numS, e3, e8, e9, e10, e12, e13, h_c15, h_c20, h_c30, h_c40, h_c66, h_c71, h_c76, h_c82, n_c15, Z.ifs, reduceIte]) (gb_new (gb_upd (gb_upd (gb_upd (gb_upd (gb_upd (gb_upd (gb_new (gb_ext (gb_ext (gb_refl w b) x1) x2) u1) x6) x11) x12) x13) x15) x16) u11) (b25.upd1 u11) (KV.top (kv2.upd u11))
  refine wp_skip (Gx.block_normal (Z.x (Z.r [0, 1] ?_)))
  refine Z.p [0] [1] [(88, Z.P b 0)] ?_
  refine Z.k (fun R hR => no_c b S q12 _ R b24 ok12 (fun w28 q14 e14 x17 b27 => hR _ _ ?_))
  have zw28 := x17.size
  have tb27 := b27.lt
  obtain ⟨ok14, m14, tr14x, tr14y⟩ : Tr S q12 q14 := e14 ▸ no_tr ok12
  refine Z.e (Z.r [0, 1] ?_)
  refine Z.p [0] [1] [(90, .agg #[.int .i64 0, .int .i64 0, .string Z.E, .int .i64 0, .slice none 0 0])] ?_
  refine Z.Sa #[.int .i64 0, .int .i64 0, .string Z.E, .int .i64 0, .slice none 0 0] ((((((((b1.ext x2).upd1 u1).upd1 x6).upd1 x11).upd1 x12).upd1 x13).upd1 x15).upd1 x17) (fun w29 u12 b28 zw29 => ?_)
  refine Z.e (wp_ret (Gx.ret (Gx.res_c (u := .agg #[.int .i64 0, .int .i64 0, .string Z.E, .int .i64 0, .slice none 0 0]) rfl (by kernel_rfl) b28 (by kernel_rfl)) ?_))
  exact hK _ nd0 none 0 q14 (by rw [run_succ]; simp only [stepN, atomS, numS, e3, e8, e9, e10, e12, e14, h_c15, h_c20, h_c30, h_c40, h_c66, h_c71, h_c76, h_c82, n_c15, Z.ifs, reduceIte]) (gb_new (gb_upd (gb_upd (gb_upd (gb_upd (gb_upd (gb_upd (gb_new (gb_ext (gb_ext (gb_refl w b) x1) x2) u1) x6) x11) x12) x13) x15) x17) u12) (b27.upd1 u12) KV.nil
set_option maxHeartbeats 1000000 in
set_option maxRecDepth 10000 in
theorem round_c (k : Nat) (b : Nat) (S : ByteArray) (q : Rs) (at_ : Nat) (w : World) (K : Ending → World → Prop) (ih : ∀ j, j ≤ k → Spec j) (hb : Gx.Has w b (rdO S q)) (hok : Ok S q) (hmu : 16 * M S q + 13 ≤ k + 1) (hK : ∀ w' t A c q', run S (k + 1) (.round at_) q = (t, q') → Gx.G w w' (some b) → Gx.Has w' b (rdO S q') → KV (In w.heap.size w'.heap.size []) w' t.ks A c → K (.returned (.agg #[Z.n t.k, Z.n t.a, .string t.nm, .int .i64 t.n, .slice A t.ks.length c])) w') :
    Calls Try.prog 80 #[Z.P b 0, Z.n at_] w K := by
  refine Gx.enter 27 Try.func80 rfl rfl (Nat.le_of_ble_eq_true rfl) ?_
  have tbb := hb.lt
  refine Z.r [0] ?_
  refine Z.N (.cells #[.int .i64 0, .int .i64 0, .string Z.E, .int .i64 0, .slice none 0 0] 24) (fun k1 w1 l1 x1 b1 zw1 tb1 => ?_)
  refine Z.e (wp_seq (Z.r [0, 1] ?_))
  refine Z.p [0] [1] [(7, Z.P b 0)] ?_
  refine Z.k (fun R hR => has_c b S q (Z.B [41]) _ R (hb.ext x1) hok (fun w2 q1 e1 x2 b2 => hR _ _ ?_))
  have zw2 := x2.size
  have tb2 := b2.lt
  obtain ⟨ok1, m1, tr1x, tr1y⟩ : Tr S q q1 := e1 ▸ has_tr hok
  refine Z.e (Z.c (isB q (Z.B [41])) (fun h_c8 => ?_) (fun h_c8 => ?_))
  · skip
    refine Z.r [0, 1, 2] ?_
    refine Z.p [0] [1, 2] [(9, Z.n at_)] ?_
    refine Z.k (fun R hR => Node_c (5 : Int) ((at_ : Nat) : Int) none 0 0 _ R (fun w3 x3 => hR _ _ ?_))
    have zw3 := x3.size
    have lt1 := (by have := has_lt hok h_c8; rw [e1] at this; exact this : M S q1 < M S q)
    refine Z.Sa #[.int .i64 5, Z.n at_, .string Z.E, .int .i64 0, .slice none 0 0] ((b1.upd1 x2).ext x3) (fun w4 u1 b3 zw4 => ?_)
    refine Z.e (wp_ret (Gx.then_ret (Gx.ret (Gx.res_c (u := .agg #[.int .i64 5, Z.n at_, .string Z.E, .int .i64 0, .slice none 0 0]) rfl (by kernel_rfl) b3 (by kernel_rfl)) ?_)))
    exact hK _ (Nd.mk 5 at_ Z.E (0 : Int) []) none 0 q1 (by rw [run_succ]; simp only [stepN, roundS, e1, h_c8, Z.ifs, reduceIte]) (gb_new (gb_ext (gb_upd (gb_ext (gb_refl w b) x1) x2) x3) u1) ((b2.ext x3).upd1 u1) KV.nil
  refine wp_skip (Z.x (Z.r [0, 1, 2, 3] ?_))
  refine Z.p [0] [1, 2, 3] [(11, Z.P b 0)] ?_
  refine Z.k (fun R hR => (ih k (Nat.le_refl k)).f_expr b S q1 _ R b2 ok1 (by omega) (fun w5 t1 A1 c1 q2 e2 x4 b4 kv1 => hR _ _ ?_))
  have zw5 := x4.size
  have tb4 := b4.lt
  obtain ⟨ok2, m2, tr2x, tr2y⟩ : Tr S q1 q2 := run_facts ok1 e2
  refine Z.N (.cells #[.int .i64 0, .int .i64 0, .string Z.E, .int .i64 0, .slice none 0 0] 24) (fun k2 w6 l2 x5 b5 zw6 tb5 => ?_)
  refine Z.Sa #[Z.n t1.k, Z.n t1.a, .string t1.nm, .int .i64 t1.n, .slice A1 t1.ks.length c1] b5 (fun w7 u2 b6 zw7 => ?_)
  refine Z.e (wp_seq (Z.r [0, 1] ?_))
  refine Z.p [0] [1] [(13, Z.P b 0)] ?_
  refine Z.k (fun R hR => has_c b S q2 (Z.B [44]) _ R ((b4.ext x5).upd1 u2) ok2 (fun w8 q3 e3 x6 b7 => hR _ _ ?_))
  have zw8 := x6.size
  have tb7 := b7.lt
  obtain ⟨ok3, m3, tr3x, tr3y⟩ : Tr S q2 q3 := e3 ▸ has_tr ok2
  refine Z.e (Z.c (isB q2 (Z.B [44])) (fun h_c14 => ?_) (fun h_c14 => ?_))
  · skip
    refine Z.r [0, 1, 2, 3] ?_
    refine Z.p [0] [1, 2, 3] [(15, Z.P b 0)] ?_
    have lt2 := (by have := has_lt ok2 h_c14; rw [e3] at this; exact this : M S q3 < M S q2)
    refine Z.k (fun R hR => (ih k (Nat.le_refl k)).f_expr b S q3 _ R b7 ok3 (by omega) (fun w9 t2 A2 c2 q4 e4 x7 b8 kv2 => hR _ _ ?_))
    have zw9 := x7.size
    have tb8 := b8.lt
    obtain ⟨ok4, m4, tr4x, tr4y⟩ : Tr S q3 q4 := run_facts ok3 e4
    refine Z.N (.cells #[.int .i64 0, .int .i64 0, .string Z.E, .int .i64 0, .slice none 0 0] 24) (fun k3 w10 l3 x8 b9 zw10 tb9 => ?_)
    refine Z.Sa #[Z.n t2.k, Z.n t2.a, .string t2.nm, .int .i64 t2.n, .slice A2 t2.ks.length c2] b9 (fun w11 u3 b10 zw11 => ?_)
    refine Z.e (Z.r [0, 1] ?_)
    refine Z.p [0] [1] [(17, Z.P b 0)] ?_
    refine Z.k (fun R hR => must_c b S q4 (Z.B [41]) _ R ((b8.ext x8).upd1 u3) ok4 (fun w12 q5 e5 x9 b11 => hR _ _ ?_))
    have zw12 := x9.size
    have tb11 := b11.lt
    obtain ⟨ok5, m5, tr5x, tr5y⟩ : Tr S q4 q5 := e5 ▸ must_tr ok4
    refine Z.e (Z.r [0, 1, 2, 3, 4, 5] ?_)
    refine Z.p [0] [1, 2, 3, 4, 5] [(19, Z.n at_)] ?_
    refine Z.L 0 (.agg #[Z.n t1.k, Z.n t1.a, .string t1.nm, .int .i64 t1.n, .slice A1 t1.ks.length c1]) (((((b6.upd1 x6).upd1 x7).ext x8).upd1 u3).upd1 x9) ?_
    refine Z.L 0 (.agg #[Z.n t2.k, Z.n t2.a, .string t2.nm, .int .i64 t2.n, .slice A2 t2.ks.length c2]) (b10.upd1 x9) ?_
    refine Z.R (.cells #[Z.n t1.k, Z.n t1.a, .string t1.nm, .int .i64 t1.n, .slice A1 t1.ks.length c1, Z.n t2.k, Z.n t2.a, .string t2.nm, .int .i64 t2.n, .slice A2 t2.ks.length c2] 24) 2 2 (fun k4 w13 l4 x10 b12 zw13 tb12 => ?_)
    refine Z.k (fun R hR => Node_c (12 : Int) ((at_ : Nat) : Int) (some (⟨k4, 0, none⟩ : Addr)) 2 2 _ R (fun w14 x11 => hR _ _ ?_))
    have zw14 := x11.size
    refine Z.Sa #[.int .i64 12, Z.n at_, .string Z.E, .int .i64 0, .slice (some ⟨k4, 0, none⟩) 2 2] (((((((((((b1.upd1 x2).upd1 x4).ext x5).upd1 u2).upd1 x6).upd1 x7).ext x8).upd1 u3).upd1 x9).ext x10).ext x11) (fun w15 u4 b13 zw15 => ?_)
    refine Z.e (wp_ret (Gx.then_ret (Gx.ret (Gx.res_c (u := .agg #[.int .i64 12, Z.n at_, .string Z.E, .int .i64 0, .slice (some ⟨k4, 0, none⟩) 2 2]) rfl (by kernel_rfl) b13 (by kernel_rfl)) ?_)))
    exact hK _ (Nd.mk 12 at_ Z.E (0 : Int) [t1, t2]) (some (⟨k4, 0, none⟩ : Addr)) 2 q5 (by rw [run_succ]; simp only [stepN, roundS, e1, e2, e3, e4, e5, h_c8, h_c14, Z.ifs, reduceIte]) (gb_new (gb_ext (gb_ext (gb_upd (gb_new (gb_ext (gb_upd (gb_upd (gb_new (gb_ext (gb_upd (gb_upd (gb_ext (gb_refl w b) x1) x2) x4) x5) u2) x6) x7) x8) u3) x9) x10) x11) u4) (((b11.ext x10).ext x11).upd1 u4) (KV.of_row [(t1, A1, c1), (t2, A2, c2)] (n := 10) ((b12.ext x11).upd1 u4) rfl ⟨by omega, by omega, (fun hj => by cases hj)⟩ (by intro p hp; simp only [List.mem_cons, List.not_mem_nil, or_false] at hp; rcases hp with rfl | rfl; exact (KV.top ((((((((((kv1.ext x5).upd u2).upd x6).upd x7).ext x8).upd u3).upd x9).ext x10).ext x11).upd u4)); exact (KV.top ((((((kv2.ext x8).upd u3).upd x9).ext x10).ext x11).upd u4))))
  refine wp_skip (Z.x (Z.r [0, 1] ?_))
  refine Z.p [0] [1] [(24, Z.P b 0)] ?_
  refine Z.k (fun R hR => must_c b S q3 (Z.B [41]) _ R b7 ok3 (fun w16 q6 e6 x12 b14 => hR _ _ ?_))
  have zw16 := x12.size
  have tb14 := b14.lt
  obtain ⟨ok6, m6, tr6x, tr6y⟩ : Tr S q3 q6 := e6 ▸ must_tr ok3
  refine Z.e (Z.r [0, 1] ?_)
  refine Z.L 0 (.agg #[Z.n t1.k, Z.n t1.a, .string t1.nm, .int .i64 t1.n, .slice A1 t1.ks.length c1]) ((b6.upd1 x6).upd1 x12) ?_
  refine Z.Sa #[Z.n t1.k, Z.n t1.a, .string t1.nm, .int .i64 t1.n, .slice A1 t1.ks.length c1] ((((((b1.upd1 x2).upd1 x4).ext x5).upd1 u2).upd1 x6).upd1 x12) (fun w17 u5 b15 zw17 => ?_)
  refine Z.e (wp_ret (Gx.ret (Gx.res_c (u := .agg #[Z.n t1.k, Z.n t1.a, .string t1.nm, .int .i64 t1.n, .slice A1 t1.ks.length c1]) rfl (by kernel_rfl) b15 (by kernel_rfl)) ?_))
  exact hK _ t1 A1 c1 q6 (by rw [run_succ]; simp only [stepN, roundS, e1, e2, e3, e6, h_c8, h_c14, Z.ifs, reduceIte]) (gb_new (gb_upd (gb_upd (gb_new (gb_ext (gb_upd (gb_upd (gb_ext (gb_refl w b) x1) x2) x4) x5) u2) x6) x12) u5) (b14.upd1 u5) (KV.top (((((kv1.ext x5).upd u2).upd x6).upd x12).upd u5))
end Doc
end Go.Proofs.Ytinilkomfggjiaa
