/- The walks, written by a program of ours (wip/gx/gx.py, syngen.py). -/
import Derived.Test.YtinilkomfggjiaaRows
import Derived.Test.YtinilkomfggjiaaGs
import Derived.Test.YtinilkomfggjiaaSynPlain
import Derived.Test.YtinilkomfggjiaaLexWalks2
import Derived.Test.YtinilkomfggjiaaSynWalks3
set_option linter.unusedVariables false
set_option linter.unusedSimpArgs false
namespace Go.Proofs.Ytinilkomfggjiaa
open Go.RowKit Go.Lex Go.Syn
attribute [local irreducible] Go.wpOps Go.Code.wp Go.wpOp Go.wpAnyH Go.Calls
namespace Doc
set_option maxHeartbeats 1000000 in
set_option maxRecDepth 10000 in
theorem typ_c (k : Nat) (b : Nat) (S : ByteArray) (q : Rs) (w : World) (K : Ending → World → Prop) (ih : ∀ j, j ≤ k → Spec j) (hb : Gx.Has w b (rdO S q)) (hok : Ok S q) (hmu : 16 * M S q + 11 ≤ k + 1) (hK : ∀ w' t A c q', run S (k + 1) .typ q = (t, q') → Gx.G w w' (some b) → Gx.Has w' b (rdO S q') → KV (In w.heap.size w'.heap.size []) w' t.ks A c → K (.returned (.agg #[Z.n t.k, Z.n t.a, .string t.nm, .int .i64 t.n, .slice A t.ks.length c])) w') :
    Calls Try.prog 28 #[Z.P b 0] w K := by
  refine Gx.enter 87 Try.func28 rfl rfl (Nat.le_of_ble_eq_true rfl) ?_
  have tbb := hb.lt
  refine Z.r [0] ?_
  refine Z.N (.cells #[.int .i64 0, .int .i64 0, .string Z.E, .int .i64 0, .slice none 0 0] 24) (fun k1 w1 l1 x1 b1 zw1 tb1 => ?_)
  refine Z.e (wp_seq (Z.r [0, 1, 2] ?_))
  refine Z.p [0] [1, 2] [(9, Z.P b 0)] ?_
  refine Z.k (fun R hR => ok_c b S q _ R (hb.ext x1) (hR _ _ ?_))
  refine Z.p [2] [] [(11, .bool (!(okB q)))] ?_
  refine Z.e (Z.c (!(okB q)) (fun h_c11 => ?_) (fun h_c11 => ?_))
  · skip
    refine Z.r [0, 1] ?_
    refine Z.p [0] [1] [(12, .agg #[.int .i64 0, .int .i64 0, .string Z.E, .int .i64 0, .slice none 0 0])] ?_
    refine Z.Sa #[.int .i64 0, .int .i64 0, .string Z.E, .int .i64 0, .slice none 0 0] b1 (fun w2 u1 b2 zw2 => ?_)
    refine Z.e (wp_ret (Gx.then_ret (Gx.ret (Gx.res_c (u := .agg #[.int .i64 0, .int .i64 0, .string Z.E, .int .i64 0, .slice none 0 0]) rfl (by kernel_rfl) b2 (by kernel_rfl)) ?_)))
    have n_c11 : okB q = false := by simpa using h_c11
    exact hK _ nd0 none 0 q (by rw [run_succ]; simp only [stepN, typS, fnS, Nd.ks, nds_app, nds_cons, nds_nil, nds_len, h_c11, n_c11, Z.ifs, reduceIte]) (gb_new (gb_ext (gb_refl w b) x1) u1) ((hb.ext x1).upd1 u1) KV.nil
  refine wp_skip (Z.x (wp_seq (Z.r [0, 1, 2, 3, 4] ?_)))
  refine Z.p [0, 1, 2] [3, 4] [(15, Z.P b 9), (14, Z.P b 0), (13, Z.P b 0)] ?_
  refine Z.L 9 (Z.n q.y) (hb.ext x1) ?_
  refine Z.p [4] [] [(17, .bool (decide (((q.y : Nat) : Int) ≥ (200 : Int))))] ?_
  refine Z.e (Z.c (decide (((q.y : Nat) : Int) ≥ (200 : Int))) (fun h_c17 => ?_) (fun h_c17 => ?_))
  · skip
    refine Z.r [0, 1, 2, 3, 4, 5, 6, 7, 8, 9] ?_
    refine Z.p [0, 1, 2, 3, 4] [5, 6, 7, 8, 9] [(22, Z.P b 2), (21, Z.P b 1), (20, Z.P b 0), (19, Z.P b 0), (18, Z.P b 0)] ?_
    refine Z.L 2 (Z.n q.a) (hb.ext x1) ?_
    refine Z.p [6, 7, 8] [9] [(26, Z.P b 6), (25, Z.P b 0), (24, .agg #[.int .i64 5, Z.n q.a])] ?_
    refine Z.S 6 (.agg #[.int .i64 5, Z.n q.a]) (hb.ext x1) #[.string S, Z.n q.k, Z.n q.a, .string q.t, Z.n q.n, Z.n q.e, .int .i64 5, Z.n q.a, Z.n q.x, Z.n q.y] (fun w3 u2 b3 zw3 => ?_)
    refine Z.e (Z.r [0, 1] ?_)
    refine Z.p [0] [1] [(27, .agg #[.int .i64 0, .int .i64 0, .string Z.E, .int .i64 0, .slice none 0 0])] ?_
    have n_c11 : okB q = true := by simpa using h_c11
    have p_c17 := of_decide_eq_true h_c17
    refine Z.Sa #[.int .i64 0, .int .i64 0, .string Z.E, .int .i64 0, .slice none 0 0] (b1.upd1 u2) (fun w4 u3 b4 zw4 => ?_)
    refine Z.e (wp_ret (Gx.then_ret (Gx.ret (Gx.res_c (u := .agg #[.int .i64 0, .int .i64 0, .string Z.E, .int .i64 0, .slice none 0 0]) rfl (by kernel_rfl) b4 (by kernel_rfl)) ?_)))
    exact hK _ nd0 none 0 (⟨q.k, q.a, q.t, q.n, q.e, 5, q.a, q.x, q.y⟩ : Rs) (by rw [run_succ]; simp only [stepN, typS, fnS, Nd.ks, nds_app, nds_cons, nds_nil, nds_len, h_c11, h_c17, n_c11, Z.ifs, reduceIte]) (gb_new (gb_upd (gb_ext (gb_refl w b) x1) u2) u3) (b3.upd1 u3) KV.nil
  refine wp_skip (Z.x (Z.r [0, 1, 2, 3, 4, 5, 6, 7] ?_))
  refine Z.p [0, 1, 2] [3, 4, 5, 6, 7] [(30, Z.P b 9), (29, Z.P b 0), (28, Z.P b 0)] ?_
  refine Z.L 9 (Z.n q.y) (hb.ext x1) ?_
  have n_c11 : okB q = true := by simpa using h_c11
  have p_c17 := of_decide_eq_false h_c17
  refine Gx.pure_eq [4] [5, 6, 7] [(32, .int .i64 (IntKind.i64.wrap (((q.y : Nat) : Int) + (1 : Int))))] [(32, .int .i64 ((q.y + 1 : Nat) : Int))] rfl (by kernel_rfl) (Gx.eqI (Gx.i64n (by omega) (by omega))) ?_
  refine Z.p [5, 6] [7] [(34, Z.P b 9), (33, Z.P b 0)] ?_
  refine Z.S 9 (.int .i64 ((q.y + 1 : Nat) : Int)) (hb.ext x1) #[.string S, Z.n q.k, Z.n q.a, .string q.t, Z.n q.n, Z.n q.e, Z.n q.fk, Z.n q.fa, Z.n q.x, .int .i64 ((q.y + 1 : Nat) : Int)] (fun w5 u4 b5 zw5 => ?_)
  refine Z.e (Z.r [0, 1, 2, 3] ?_)
  refine Z.p [0] [1, 2, 3] [(35, Z.P b 0)] ?_
  have ok1 : Ok S (⟨q.k, q.a, q.t, q.n, q.e, q.fk, q.fa, q.x, (q.y + 1)⟩ : Rs) := ⟨hok.size, hok.e, by have := hok.x; have := hok.y; dsimp only; omega, by have := hok.x; have := hok.y; dsimp only; omega, hok.a, hok.n, hok.t, hok.k, hok.end_, hok.nm, hok.sg⟩
  have mq1 : M S (⟨q.k, q.a, q.t, q.n, q.e, q.fk, q.fa, q.x, (q.y + 1)⟩ : Rs) = M S q := rfl
  refine Z.k (fun R hR => (ih k (Nat.le_refl k)).f_pair b S (⟨q.k, q.a, q.t, q.n, q.e, q.fk, q.fa, q.x, (q.y + 1)⟩ : Rs) _ R b5 ok1 (by omega) (fun w6 t1 A1 c1 q1 e1 x2 b6 kv1 => hR _ _ ?_))
  have zw6 := x2.size
  have tb6 := b6.lt
  obtain ⟨ok2, m1, tr1x, tr1y⟩ : Tr S (⟨q.k, q.a, q.t, q.n, q.e, q.fk, q.fa, q.x, (q.y + 1)⟩ : Rs) q1 := run_facts ok1 e1
  dsimp only at tr1x tr1y
  refine Z.N (.cells #[.int .i64 0, .int .i64 0, .string Z.E, .int .i64 0, .slice none 0 0] 24) (fun k2 w7 l2 x3 b7 zw7 tb7 => ?_)
  refine Z.Sa #[Z.n t1.k, Z.n t1.a, .string t1.nm, .int .i64 t1.n, .slice A1 t1.ks.length c1] b7 (fun w8 u5 b8 zw8 => ?_)
  refine Z.e (wp_seq (Z.r [0, 1] ?_))
  refine Z.p [0] [1] [(37, Z.P b 0)] ?_
  refine Z.k (fun R hR => has_c b S q1 (Z.B [45, 62]) _ R ((b6.ext x3).upd1 u5) ok2 (fun w9 q2 e2 x4 b9 => hR _ _ ?_))
  have zw9 := x4.size
  have tb9 := b9.lt
  obtain ⟨ok3, m2, tr2x, tr2y⟩ : Tr S q1 q2 := e2 ▸ has_tr ok2
  refine Z.e (Z.c (isB q1 (Z.B [45, 62])) (fun h_c38 => ?_) (fun h_c38 => ?_))
  · skip
    refine Z.r [0, 1, 2, 3] ?_
    refine Z.p [0] [1, 2, 3] [(39, Z.P b 0)] ?_
    have lt1 := (by have := has_lt ok2 h_c38; rw [e2] at this; exact this : M S q2 < M S q1)
    refine Z.k (fun R hR => (ih k (Nat.le_refl k)).f_typ b S q2 _ R b9 ok3 (by omega) (fun w10 t2 A2 c2 q3 e3 x5 b10 kv2 => hR _ _ ?_))
    have zw10 := x5.size
    have tb10 := b10.lt
    obtain ⟨ok4, m3, tr3x, tr3y⟩ : Tr S q2 q3 := run_facts ok3 e3
    refine Z.N (.cells #[.int .i64 0, .int .i64 0, .string Z.E, .int .i64 0, .slice none 0 0] 24) (fun k3 w11 l3 x6 b11 zw11 tb11 => ?_)
    refine Z.Sa #[Z.n t2.k, Z.n t2.a, .string t2.nm, .int .i64 t2.n, .slice A2 t2.ks.length c2] b11 (fun w12 u6 b12 zw12 => ?_)
    refine Z.e (Z.g [0, 1, 2, 3, 4, 5, 6] ?_)
    refine Z.p [0] [1, 2, 3, 4, 5, 6] [(41, Z.P k2 1)] ?_
    refine Z.L 1 (Z.n t1.a) ((((b8.upd1 x4).upd1 x5).ext x6).upd1 u6) ?_
    refine Z.L 0 (.agg #[Z.n t1.k, Z.n t1.a, .string t1.nm, .int .i64 t1.n, .slice A1 t1.ks.length c1]) ((((b8.upd1 x4).upd1 x5).ext x6).upd1 u6) ?_
    refine Z.L 0 (.agg #[Z.n t2.k, Z.n t2.a, .string t2.nm, .int .i64 t2.n, .slice A2 t2.ks.length c2]) b12 ?_
    refine Z.R (.cells #[Z.n t1.k, Z.n t1.a, .string t1.nm, .int .i64 t1.n, .slice A1 t1.ks.length c1, Z.n t2.k, Z.n t2.a, .string t2.nm, .int .i64 t2.n, .slice A2 t2.ks.length c2] 24) 2 2 (fun k4 w13 l4 x7 b13 zw13 tb13 => ?_)
    refine Z.k (fun R hR => Node_c (29 : Int) ((t1.a : Nat) : Int) (some (⟨k4, 0, none⟩ : Addr)) 2 2 _ R (fun w14 x8 => hR _ _ ?_))
    have zw14 := x8.size
    refine Z.Sa #[.int .i64 29, Z.n t1.a, .string Z.E, .int .i64 0, .slice (some ⟨k4, 0, none⟩) 2 2] ((((((b8.upd1 x4).upd1 x5).ext x6).upd1 u6).ext x7).ext x8) (fun w15 u7 b14 zw15 => ?_)
    refine Gx.ops_nil (Z.x (Z.r [0, 1, 2, 3, 4, 5, 6, 7] ?_))
    refine Z.p [0, 1, 2] [3, 4, 5, 6, 7] [(81, Z.P b 9), (80, Z.P b 0), (79, Z.P b 0)] ?_
    refine Z.L 9 (Z.n q3.y) (((((b10.ext x6).upd1 u6).ext x7).ext x8).upd1 u7) ?_
    refine Gx.pure_eq [4] [5, 6, 7] [(83, .int .i64 (IntKind.i64.wrap (((q3.y : Nat) : Int) - (1 : Int))))] [(83, .int .i64 ((q3.y - 1 : Nat) : Int))] rfl (by kernel_rfl) (Gx.eqI (by rw [IntWalk.i64_in _ (by omega)]; omega)) ?_
    refine Z.p [5, 6] [7] [(85, Z.P b 9), (84, Z.P b 0)] ?_
    refine Z.S 9 (.int .i64 ((q3.y - 1 : Nat) : Int)) (((((b10.ext x6).upd1 u6).ext x7).ext x8).upd1 u7) #[.string S, Z.n q3.k, Z.n q3.a, .string q3.t, Z.n q3.n, Z.n q3.e, Z.n q3.fk, Z.n q3.fa, Z.n q3.x, .int .i64 ((q3.y - 1 : Nat) : Int)] (fun w16 u8 b15 zw16 => ?_)
    refine Z.e (Z.r [0, 1] ?_)
    refine Z.L 0 (.agg #[.int .i64 29, Z.n t1.a, .string Z.E, .int .i64 0, .slice (some ⟨k4, 0, none⟩) 2 2]) (b14.upd1 u8) ?_
    refine Z.Sa #[.int .i64 29, Z.n t1.a, .string Z.E, .int .i64 0, .slice (some ⟨k4, 0, none⟩) 2 2] ((((((((((((b1.upd1 u4).upd1 x2).ext x3).upd1 u5).upd1 x4).upd1 x5).ext x6).upd1 u6).ext x7).ext x8).upd1 u7).upd1 u8) (fun w17 u9 b16 zw17 => ?_)
    refine Z.e (wp_ret (Gx.ret (Gx.res_c (u := .agg #[.int .i64 29, Z.n t1.a, .string Z.E, .int .i64 0, .slice (some ⟨k4, 0, none⟩) 2 2]) rfl (by kernel_rfl) b16 (by kernel_rfl)) ?_))
    exact hK _ (Nd.mk 29 t1.a Z.E (0 : Int) [t1, t2]) (some (⟨k4, 0, none⟩ : Addr)) 2 (⟨q3.k, q3.a, q3.t, q3.n, q3.e, q3.fk, q3.fa, q3.x, (q3.y - 1)⟩ : Rs) (by rw [run_succ]; simp only [stepN, typS, fnS, Nd.ks, nds_app, nds_cons, nds_nil, nds_len, e1, e2, e3, h_c11, h_c17, h_c38, n_c11, Z.ifs, reduceIte]) (gb_new (gb_upd (gb_new (gb_ext (gb_ext (gb_new (gb_ext (gb_upd (gb_upd (gb_new (gb_ext (gb_upd (gb_upd (gb_ext (gb_refl w b) x1) u4) x2) x3) u5) x4) x5) x6) u6) x7) x8) u7) u8) u9) (b15.upd1 u9) (KV.of_row [(t1, A1, c1), (t2, A2, c2)] (n := 10) ((((b13.ext x8).upd1 u7).upd1 u8).upd1 u9) rfl ⟨by omega, by omega, (fun hj => by cases hj)⟩ (by intro p hp; simp only [List.mem_cons, List.not_mem_nil, or_false] at hp; rcases hp with rfl | rfl; exact (KV.top (((((((((((kv1.ext x3).upd u5).upd x4).upd x5).ext x6).upd u6).ext x7).ext x8).upd u7).upd u8).upd u9)); exact (KV.top (((((((kv2.ext x6).upd u6).ext x7).ext x8).upd u7).upd u8).upd u9))))
  refine Z.r [0, 1] ?_
  refine Z.p [0] [1] [(47, Z.P b 0)] ?_
  refine Z.k (fun R hR => has_c b S q2 (Z.B [45]) _ R b9 ok3 (fun w18 q4 e4 x9 b17 => hR _ _ ?_))
  have zw18 := x9.size
  have tb17 := b17.lt
  obtain ⟨ok5, m4, tr4x, tr4y⟩ : Tr S q2 q4 := e4 ▸ has_tr ok3
  refine Z.e (Z.c (isB q2 (Z.B [45])) (fun h_c48 => ?_) (fun h_c48 => ?_))
  · skip
    refine Z.r [0, 1] ?_
    refine Z.p [0] [1] [(49, Z.P b 0)] ?_
    refine Z.k (fun R hR => must_c b S q4 (Z.B [123]) _ R b17 ok5 (fun w19 q5 e5 x10 b18 => hR _ _ ?_))
    have zw19 := x10.size
    have tb18 := b18.lt
    obtain ⟨ok6, m5, tr5x, tr5y⟩ : Tr S q4 q5 := e5 ▸ must_tr ok5
    refine Z.e (Z.s [(5, .slice none 0 0)] ?_)
    refine wp_seq (wp_block ?_)
    have lt2 := (by have := has_lt ok3 h_c48; rw [e4] at this; exact this : M S q4 < M S q2)
    refine Gx.loop (n' := 87) (d' := []) (fun mz l' w' => ∃ (j : Nat) (p : Rs) (v : Value) (L : List (Nd × Option Addr × Nat)), l' = [(0, Z.P b 0), (2, Z.P k1 0), (3, Z.P k2 0), (5, v)] ∧ mz = M S p ∧ Gx.G w w' (some b) ∧ Gx.Has w' b (.cells #[.string S, Z.n p.k, Z.n p.a, .string p.t, Z.n p.n, Z.n p.e, Z.n p.fk, Z.n p.fa, Z.n p.x, Z.n p.y] 41) ∧ Gx.Has w' k1 (.cells #[.int .i64 0, .int .i64 0, .string Z.E, .int .i64 0, .slice none 0 0] 24) ∧ Gx.Has w' k2 (.cells #[Z.n t1.k, Z.n t1.a, .string t1.nm, .int .i64 t1.n, .slice A1 t1.ks.length c1] 24) ∧ (j ≤ k) ∧ (16 * M S p + 3 ≤ j) ∧ (run S j (.namesL (nds L)) p = run S k (.namesL []) q5) ∧ (Ok S p) ∧ (w'.ownsRow (k2 + 1) 24 5 v L.length (flat L)) ∧ (∀ p' ∈ L, KV (InV w.heap.size w'.heap.size [k1, k2] v) w' p'.1.ks p'.2.1 p'.2.2) ∧ (L.length + M S p ≤ 4000) ∧ (M S p ≤ M S q5) ∧ (p.x = q5.x ∧ p.y = q5.y) ∧ ((k2 + 1) ≤ w'.heap.size) ∧ (KV (InV w.heap.size w'.heap.size [k1, k2] v) w' t1.ks A1 c1)) _ _ [(0, Z.P b 0), (2, Z.P k1 0), (3, Z.P k2 0), (5, .slice none 0 0)] (Gx.forget [(0, Z.P b 0), (2, Z.P k1 0), (3, Z.P k2 0), (5, .slice none 0 0)] (by kernel_rfl)) ⟨k, q5, .slice none 0 0, [], rfl, rfl, (gb_upd (gb_upd (gb_upd (gb_new (gb_ext (gb_upd (gb_upd (gb_ext (gb_refl w b) x1) u4) x2) x3) u5) x4) x9) x10), b18, (((((((b1.upd1 u4).upd1 x2).ext x3).upd1 u5).upd1 x4).upd1 x9).upd1 x10), (((b8.upd1 x4).upd1 x9).upd1 x10), (Nat.le_refl _), (by omega), rfl, ok6, ⟨by simp [flat], .inl ⟨rfl, rfl⟩⟩, (fun p' hp' => by cases hp'), (by have := M_le ok6; show 0 + _ ≤ _; omega), (Nat.le_refl _), ⟨rfl, rfl⟩, (by omega), (KV.topV (KV.ofIn (((((kv1.ext x3).upd u5).upd x4).upd x9).upd x10) (fun j e => by cases e)) (by omega) (by intro j hj; simp only [List.mem_cons, List.not_mem_nil, or_false] at hj ⊢; omega))⟩ (fun bb1 m6 ll1 w20 hI1 K1 hK1 => ?_)
    obtain ⟨j, p, v, L, rfl, rfl, x11, b19, b20, b21, hj, hm, hr, ho, how, hks, hlen, hM, hxy, hbs, hkc0⟩ := hI1
    have zw20 := x11.size
    have tb19 := b19.lt
    have tb20 := b20.lt
    have tb21 := b21.lt
    obtain ⟨i, rfl⟩ : ∃ i, j = i + 1 := ⟨j - 1, by omega⟩
    refine wp_block (Z.r [0, 1, 2, 3, 4, 5, 6] ?_)
    refine Z.p [0] [1, 2, 3, 4, 5, 6] [(52, Z.P b 0)] ?_
    refine Z.k (fun R hR => name_c b S p _ R b19 ho (fun w21 nm1 na1 q6 e6 x12 b22 => hR _ _ ?_))
    have zw21 := x12.size
    have tb22 := b22.lt
    obtain ⟨ok7, m7, tr6x, tr6y⟩ : Tr S p q6 := by have := name_tr ho; rw [e6] at this; exact this
    refine Z.p [2, 3, 4, 5, 6] [] [(7, Z.n na1), (6, .string nm1), (55, Z.n na1), (54, .string nm1), (51, .tuple #[.string nm1, Z.n na1])] ?_
    refine Z.e (Z.r [0, 1, 2, 3, 4, 5, 6] ?_)
    refine Z.p [0, 1, 2] [3, 4, 5, 6] [(58, .string nm1), (57, Z.n na1), (56, v)] ?_
    refine Z.k (fun R hR => named_c (23 : Int) ((na1 : Nat) : Int) nm1 none 0 0 _ R (fun w22 x13 => hR _ _ ?_))
    have zw22 := x13.size
    refine Z.R (.cells #[.int .i64 23, Z.n na1, .string nm1, .int .i64 0, .slice none 0 0] 24) 1 1 (fun k5 w23 l5 x14 b23 zw23 tb23 => ?_)
    refine Gx.cons (Gx.op_appendAt rfl (by kernel_rfl) rfl 24 5 64 (by kernel_rfl) (by kernel_rfl) (by kernel_rfl) ((k2 + 1)) (by kernel_rfl) (Gx.own_ext (Gx.own_ext (Gx.own_upd1 how x12 (fun q e => by have := how.lt q e; omega)) x13) x14) 0 1 1 (by kernel_rfl) b23 [.int .i64 23, Z.n na1, .string nm1, .int .i64 0, .slice none 0 0] rfl rfl (List.all_eq_true.1 rfl) (by unfold maxLen; omega) (by omega) (by omega) (fun v1 w24 ow1 g1 nl1 => ?_))
    have zw24 := g1.size
    have hbx1 : ∀ j, v1.ownBlock = some j → (j < w20.heap.size ∧ (k2 + 1) ≤ j) ∨ j = w23.heap.size := fun j e => by rcases nl1 with q | q; (rw [q] at e; have := (how).lt j e; exact .inl ⟨by omega, by omega⟩); (rw [q] at e; cases e; exact .inr rfl)
    have owx1 : w24.ownsRow (k2 + 1) 24 5 v1 (L ++ [((Nd.mk 23 na1 nm1 (0 : Int) []), none, 0)]).length (flat (L ++ [((Nd.mk 23 na1 nm1 (0 : Int) []), none, 0)])) := by rw [flat_snoc, List.length_append]; exact ow1
    have hkx1 : ∀ p' ∈ (L ++ [((Nd.mk 23 na1 nm1 (0 : Int) []), none, 0)]), KV (InV w.heap.size w24.heap.size [k1, k2] v1) w24 p'.1.ks p'.2.1 p'.2.2 := by intro p' hp'; simp only [List.mem_append, List.mem_cons, List.not_mem_nil, or_false] at hp'; rcases hp' with h0 | rfl; exact (KV.topV (((((((hks p' h0).updV x12).extV x13).extV x14)).appV g1).toV nl1 (by omega)) (by omega) (by intro j hj; simp only [List.mem_cons, List.not_mem_nil, or_false] at hj ⊢; omega)); exact KV.nil
    refine Z.p [6] [] [(5, v1)] ?_
    refine Z.e (Z.r [0, 1, 2] ?_)
    refine Z.p [0] [1, 2] [(62, Z.P b 0)] ?_
    refine Z.k (fun R hR => has_c b S q6 (Z.B [44]) _ R (((b22.ext x13).ext x14).upd g1 (fun e => by have := (how).lt _ e.symm; omega)) ok7 (fun w25 q7 e7 x15 b24 => hR _ _ ?_))
    have zw25 := x15.size
    have tb24 := b24.lt
    obtain ⟨ok8, m8, tr7x, tr7y⟩ : Tr S q6 q7 := e7 ▸ has_tr ok7
    refine Z.p [2] [] [(64, .bool (!(isB q6 (Z.B [44]))))] ?_
    refine Z.e (Z.c (!(isB q6 (Z.B [44]))) (fun h_c64 => ?_) (fun h_c64 => ?_))
    · skip
      refine wp_exit (Gx.block_other (by kernel_rfl) ?_)
      refine Gx.then_exit (Gx.block_exit (Z.x ?_))
      have n_c64 : isB q6 (Z.B [44]) = false := by simpa using h_c64
      have e8 : run S k (.namesL []) q5 = ((Nd.mk 0 0 Z.E 0 (nds (L ++ [((Nd.mk 23 na1 nm1 (0 : Int) []), none, 0)]))), q7) := by rw [← hr, run_succ]; simp only [stepN, namesLS, e6, e7, h_c11, h_c17, h_c38, h_c48, h_c64, n_c11, n_c64, Z.ifs, reduceIte, nds_app, nds_cons, nds_nil, nds_len]
      refine Z.r [0, 1] ?_
      refine Z.p [0] [1] [(65, Z.P b 0)] ?_
      refine Z.k (fun R hR => must_c b S q7 (Z.B [125]) _ R b24 ok8 (fun w26 q8 e9 x16 b25 => hR _ _ ?_))
      have zw26 := x16.size
      have tb25 := b25.lt
      obtain ⟨ok9, m9, tr8x, tr8y⟩ : Tr S q7 q8 := e9 ▸ must_tr ok8
      refine Z.e (Z.r [0, 1] ?_)
      refine Z.p [0] [1] [(67, Z.P b 0)] ?_
      refine Z.k (fun R hR => must_c b S q8 (Z.B [45, 62]) _ R b25 ok9 (fun w27 q9 e10 x17 b26 => hR _ _ ?_))
      have zw27 := x17.size
      have tb26 := b26.lt
      obtain ⟨ok10, m10, tr9x, tr9y⟩ : Tr S q8 q9 := e10 ▸ must_tr ok9
      refine Z.e (Z.r [0, 1, 2, 3] ?_)
      refine Z.p [0] [1, 2, 3] [(69, Z.P b 0)] ?_
      refine Z.k (fun R hR => (ih k (Nat.le_refl k)).f_typ b S q9 _ R b26 ok10 (by omega) (fun w28 t3 A3 c3 q10 e11 x18 b27 kv3 => hR _ _ ?_))
      have zw28 := x18.size
      have tb27 := b27.lt
      obtain ⟨ok11, m11, tr10x, tr10y⟩ : Tr S q9 q10 := run_facts ok10 e11
      refine Z.N (.cells #[.int .i64 0, .int .i64 0, .string Z.E, .int .i64 0, .slice none 0 0] 24) (fun k6 w29 l6 x19 b28 zw29 tb28 => ?_)
      refine Z.Sa #[Z.n t3.k, Z.n t3.a, .string t3.nm, .int .i64 t3.n, .slice A3 t3.ks.length c3] b28 (fun w30 u10 b29 zw30 => ?_)
      refine Z.e (Gx.drawE (S := fun w' => Gx.Has w' k2 (.cells #[Z.n t1.k, Z.n t1.a, .string t1.nm, .int .i64 t1.n, .slice A1 t1.ks.length c1] 24) ∧ Gx.Has w' k6 (.cells #[Z.n t3.k, Z.n t3.a, .string t3.nm, .int .i64 t3.n, .slice A3 t3.ks.length c3] 24)) [8] (by kernel_rfl) (fun w31 x20 => ?_))
      have zw31 := x20.size
      refine Z.eh ⟨(((((((((((b21.upd1 x12).ext x13).ext x14).upd g1 (fun e => by have := (how).lt _ e.symm; omega)).upd1 x15).upd1 x16).upd1 x17).upd1 x18).ext x19).upd1 u10).ext x20), (b29.ext x20)⟩ (fun hS1 => ?_)
      refine Z.et 0 (Z.P k2 1) (fun _ => hS1) ?_
      refine Z.es 1 [7, 8] 1 (Z.n t1.a) (fun _ hs => hs.1) hS1 ?_
      refine Z.es 2 [4, 6, 7, 8] 0 (.agg #[Z.n t1.k, Z.n t1.a, .string t1.nm, .int .i64 t1.n, .slice A1 t1.ks.length c1]) (fun _ hs => hs.1) hS1 ?_
      refine Z.es 3 [4, 6, 7, 8] 0 (.agg #[Z.n t3.k, Z.n t3.a, .string t3.nm, .int .i64 t3.n, .slice A3 t3.ks.length c3]) (fun _ hs => hs.2) hS1 ?_
      refine Z.et 5 (v1) (fun _ => hS1) ?_
      refine Z.eR 4 (.cells #[Z.n t1.k, Z.n t1.a, .string t1.nm, .int .i64 t1.n, .slice A1 t1.ks.length c1, Z.n t3.k, Z.n t3.a, .string t3.nm, .int .i64 t3.n, .slice A3 t3.ks.length c3] 24) 2 2 (fun k7 w32 l7 x21 b30 => ⟨(fun _ => ⟨((((((((((((b21.upd1 x12).ext x13).ext x14).upd g1 (fun e => by have := (how).lt _ e.symm; omega)).upd1 x15).upd1 x16).upd1 x17).upd1 x18).ext x19).upd1 u10).ext x20).ext x21), ((b29.ext x20).ext x21)⟩), ?_⟩)
      have zw32 := x21.size
      have tb30 := b30.lt
      have owx2 : w32.ownsRow (k2 + 1) 24 5 v1 (L ++ [((Nd.mk 23 na1 nm1 (0 : Int) []), none, 0)]).length (flat (L ++ [((Nd.mk 23 na1 nm1 (0 : Int) []), none, 0)])) := (Gx.own_ext (Gx.own_ext (Gx.own_upd1 (Gx.own_ext (Gx.own_upd1 (Gx.own_upd1 (Gx.own_upd1 (Gx.own_upd1 owx1 x15 (fun q e => by have := owx1.lt q e; omega)) x16 (fun q e => by have := owx1.lt q e; omega)) x17 (fun q e => by have := owx1.lt q e; omega)) x18 (fun q e => by have := owx1.lt q e; omega)) x19) u10 (fun q e => by have := owx1.lt q e; omega)) x20) x21)
      obtain ⟨gb1, cap1, cur1, rfl, hgb1, hgh1, hnc1, htk1⟩ := Gx.own_open owx2 (by rw [List.length_append]; show 0 < _ + 1; omega)
      have owx3 : w32.ownsRow k7 24 5 (.slice (some ⟨k7, 0, none⟩) 2 2) 2 [Z.n t1.k, Z.n t1.a, .string t1.nm, .int .i64 t1.n, .slice A1 t1.ks.length c1, Z.n t3.k, Z.n t3.a, .string t3.nm, .int .i64 t3.n, .slice A3 t3.ks.length c3] := Gx.own_row (n := 2) b30 rfl (by unfold maxLen; omega)
      have hlx := hlen; have hlq : (L ++ [((Nd.mk 23 na1 nm1 (0 : Int) []), none, 0)]).length = _ := List.length_append; simp only [List.length_cons, List.length_nil] at hlq
      refine Gx.anyE_one 6 (by kernel_rfl) (Gx.op_appendAt rfl (by kernel_rfl) rfl 24 5 64 (by kernel_rfl) (by kernel_rfl) (by kernel_rfl) k7 (by kernel_rfl) owx3 0 (L ++ [((Nd.mk 23 na1 nm1 (0 : Int) []), none, 0)]).length cap1 (by kernel_rfl) hgh1 (flat (L ++ [((Nd.mk 23 na1 nm1 (0 : Int) []), none, 0)])) (by rw [List.drop_zero]; exact htk1) (flat_len _) (flat_one _) (by unfold maxLen; omega) (by omega) (by omega) (fun v2 w33 ow2 g2 nl2 => ⟨(fun _ => ⟨(((((((((((((b21.upd1 x12).ext x13).ext x14).upd g1 (fun e => by have := (how).lt _ e.symm; omega)).upd1 x15).upd1 x16).upd1 x17).upd1 x18).ext x19).upd1 u10).ext x20).ext x21).upd g2 (fun e => by have := (owx3).lt _ e.symm; omega)), (((b29.ext x20).ext x21).upd g2 (fun e => by have := (owx3).lt _ e.symm; omega))⟩), ?_⟩))
      have zw33 := g2.size
      have hl2 : (([(t1, A1, c1), (t3, A3, c3)] : List (Nd × Option Addr × Nat)) ++ (L ++ [((Nd.mk 23 na1 nm1 (0 : Int) []), none, 0)])).length = 2 + (L ++ [((Nd.mk 23 na1 nm1 (0 : Int) []), none, 0)]).length := List.length_append
      have owx4 : w33.ownsRow k7 24 5 v2 (([(t1, A1, c1), (t3, A3, c3)] : List (Nd × Option Addr × Nat)) ++ (L ++ [((Nd.mk 23 na1 nm1 (0 : Int) []), none, 0)])).length (flat (([(t1, A1, c1), (t3, A3, c3)] : List (Nd × Option Addr × Nat)) ++ (L ++ [((Nd.mk 23 na1 nm1 (0 : Int) []), none, 0)]))) := by rw [hl2]; exact ow2
      obtain ⟨A4, c4, rfl, kv4⟩ := KV.of_own (Q := In w.heap.size w33.heap.size [k1, k2]) (([(t1, A1, c1), (t3, A3, c3)] : List (Nd × Option Addr × Nat)) ++ (L ++ [((Nd.mk 23 na1 nm1 (0 : Int) []), none, 0)])) owx4 (fun j e => by have := (owx4).lt j e; exact ⟨by omega, by omega, (by simp only [List.mem_cons, List.not_mem_nil, or_false, not_or]; omega)⟩) (by intro p' hp'; rcases List.mem_append.1 hp' with h1 | h0; (simp only [List.mem_cons, List.not_mem_nil, or_false] at h1; rcases h1 with rfl | rfl; exact (KV.top (KV.updV (k := k7) (((((((((((((hkc0.updV x12).extV x13).extV x14).appV g1).toV nl1 (by omega)).updV x15).updV x16).updV x17).updV x18).extV x19).updV u10).extV x20).extV x21) g2 (by first | (left; omega) | (right; left; omega))).noV (by omega) (by intro j hj; simp only [List.mem_cons, List.not_mem_nil, or_false] at hj ⊢; omega)); exact (KV.top (((((kv3.ext x19).upd u10).ext x20).ext x21).app g2 (fun j e => by have := (owx3).lt j e; have := (owx3).lt j e; first | (left; omega) | (right; left; omega))) (by omega) (by intro j hj; simp only [List.mem_cons, List.not_mem_nil, or_false] at hj ⊢; omega))); exact (KV.topV (KV.updV (k := k7) (((((((((hkx1 p' h0).updV x15).updV x16).updV x17).updV x18).extV x19).updV u10).extV x20).extV x21) g2 (by first | (left; omega) | (right; left; omega))) (by omega) (by intro j hj; simp only [List.mem_cons, List.not_mem_nil, or_false] at hj ⊢; omega)).noV)
      refine Z.eK 7 (fun R hR => Node_c (29 : Int) ((t1.a : Nat) : Int) A4 ((nds (([(t1, A1, c1), (t3, A3, c3)] : List (Nd × Option Addr × Nat)) ++ (L ++ [((Nd.mk 23 na1 nm1 (0 : Int) []), none, 0)]))).length) c4 _ R (fun w34 x22 => hR _ _ ⟨(fun _ => ⟨((((((((((((((b21.upd1 x12).ext x13).ext x14).upd g1 (fun e => by have := (how).lt _ e.symm; omega)).upd1 x15).upd1 x16).upd1 x17).upd1 x18).ext x19).upd1 u10).ext x20).ext x21).upd g2 (fun e => by have := (owx3).lt _ e.symm; omega)).ext x22), ((((b29.ext x20).ext x21).upd g2 (fun e => by have := (owx3).lt _ e.symm; omega)).ext x22)⟩), ?_⟩))
      have zw34 := x22.size
      refine Z.eSa 8 #[.int .i64 29, Z.n t1.a, .string Z.E, .int .i64 0, .slice A4 ((nds (([(t1, A1, c1), (t3, A3, c3)] : List (Nd × Option Addr × Nat)) ++ (L ++ [((Nd.mk 23 na1 nm1 (0 : Int) []), none, 0)]))).length) c4] ((((((((((((((b21.upd1 x12).ext x13).ext x14).upd g1 (fun e => by have := (how).lt _ e.symm; omega)).upd1 x15).upd1 x16).upd1 x17).upd1 x18).ext x19).upd1 u10).ext x20).ext x21).upd g2 (fun e => by have := (owx3).lt _ e.symm; omega)).ext x22) (fun w35 u11 b31 => ⟨(Gx.not_clear (by kernel_rfl)), ?_⟩)
      have zw35 := u11.size
      refine Gx.anyE_done (by kernel_rfl) ?_ _
      refine Z.x (Z.r [0, 1, 2, 3, 4, 5, 6, 7] ?_)
      refine Z.p [0, 1, 2] [3, 4, 5, 6, 7] [(81, Z.P b 9), (80, Z.P b 0), (79, Z.P b 0)] ?_
      refine Z.L 9 (Z.n q10.y) (((((((b27.ext x19).upd1 u10).ext x20).ext x21).upd g2 (fun e => by have := (owx3).lt _ e.symm; omega)).ext x22).upd1 u11) ?_
      refine Gx.pure_eq [4] [5, 6, 7] [(83, .int .i64 (IntKind.i64.wrap (((q10.y : Nat) : Int) - (1 : Int))))] [(83, .int .i64 ((q10.y - 1 : Nat) : Int))] rfl (by kernel_rfl) (Gx.eqI (by rw [IntWalk.i64_in _ (by omega)]; omega)) ?_
      refine Z.p [5, 6] [7] [(85, Z.P b 9), (84, Z.P b 0)] ?_
      refine Z.S 9 (.int .i64 ((q10.y - 1 : Nat) : Int)) (((((((b27.ext x19).upd1 u10).ext x20).ext x21).upd g2 (fun e => by have := (owx3).lt _ e.symm; omega)).ext x22).upd1 u11) #[.string S, Z.n q10.k, Z.n q10.a, .string q10.t, Z.n q10.n, Z.n q10.e, Z.n q10.fk, Z.n q10.fa, Z.n q10.x, .int .i64 ((q10.y - 1 : Nat) : Int)] (fun w36 u12 b32 zw36 => ?_)
      refine Z.e (Z.r [0, 1] ?_)
      refine Z.L 0 (.agg #[.int .i64 29, Z.n t1.a, .string Z.E, .int .i64 0, .slice A4 ((nds (([(t1, A1, c1), (t3, A3, c3)] : List (Nd × Option Addr × Nat)) ++ (L ++ [((Nd.mk 23 na1 nm1 (0 : Int) []), none, 0)]))).length) c4]) (b31.upd1 u12) ?_
      refine Z.Sa #[.int .i64 29, Z.n t1.a, .string Z.E, .int .i64 0, .slice A4 ((nds (([(t1, A1, c1), (t3, A3, c3)] : List (Nd × Option Addr × Nat)) ++ (L ++ [((Nd.mk 23 na1 nm1 (0 : Int) []), none, 0)]))).length) c4] ((((((((((((((((b20.upd1 x12).ext x13).ext x14).upd g1 (fun e => by have := (how).lt _ e.symm; omega)).upd1 x15).upd1 x16).upd1 x17).upd1 x18).ext x19).upd1 u10).ext x20).ext x21).upd g2 (fun e => by have := (owx3).lt _ e.symm; omega)).ext x22).upd1 u11).upd1 u12) (fun w37 u13 b33 zw37 => ?_)
      refine Z.e (wp_ret (Gx.ret (Gx.res_c (u := .agg #[.int .i64 29, Z.n t1.a, .string Z.E, .int .i64 0, .slice A4 ((nds (([(t1, A1, c1), (t3, A3, c3)] : List (Nd × Option Addr × Nat)) ++ (L ++ [((Nd.mk 23 na1 nm1 (0 : Int) []), none, 0)]))).length) c4]) rfl (by kernel_rfl) b33 (by kernel_rfl)) ?_))
      exact hK _ (Nd.mk 29 t1.a Z.E (0 : Int) (nds (([(t1, A1, c1), (t3, A3, c3)] : List (Nd × Option Addr × Nat)) ++ (L ++ [((Nd.mk 23 na1 nm1 (0 : Int) []), none, 0)])))) A4 c4 (⟨q10.k, q10.a, q10.t, q10.n, q10.e, q10.fk, q10.fa, q10.x, (q10.y - 1)⟩ : Rs) (by rw [run_succ]; simp only [stepN, typS, fnS, Nd.ks, nds_app, nds_cons, nds_nil, nds_len, e1, e2, e4, e5, e8, e9, e10, e11, h_c11, h_c17, h_c38, h_c48, h_c64, n_c11, n_c64, Z.ifs, reduceIte]) (gb_new (gb_upd (gb_new (gb_ext (gb_app (gb_ext (gb_ext (gb_new (gb_ext (gb_upd (gb_upd (gb_upd (gb_upd (gb_app (gb_ext (gb_ext (gb_upd (gb_upd (gb_refl w b) x11) x12) x13) x14) g1 (fun j e => by have := ((Gx.own_ext (Gx.own_ext (Gx.own_upd1 how x12 (fun q e => by have := how.lt q e; omega)) x13) x14)).lt j e; omega)) x15) x16) x17) x18) x19) u10) x20) x21) g2 (fun j e => by have := (owx3).lt j e; omega)) x22) u11) u12) u13) (b32.upd1 u13) (KV.top ((((kv4.ext x22).upd u11).upd u12).upd u13))
    refine wp_skip (Gx.block_normal (Z.x ?_))
    have n_c64 : isB q6 (Z.B [44]) = true := by simpa using h_c64
    have lt3 := (by have := has_lt ok7 n_c64; rw [e7] at this; exact this : M S q7 < M S q6)
    rw [Gx.forget [(0, Z.P b 0), (2, Z.P k1 0), (3, Z.P k2 0), (5, v1)] (by kernel_rfl)]
    exact hK1 _ _ _ _ (by omega) ⟨i, q7, v1, (L ++ [((Nd.mk 23 na1 nm1 (0 : Int) []), none, 0)]), rfl, rfl, (gb_upd (gb_app (gb_ext (gb_ext (gb_upd (gb_upd (gb_refl w b) x11) x12) x13) x14) g1 (fun j e => by have := ((Gx.own_ext (Gx.own_ext (Gx.own_upd1 how x12 (fun q e => by have := how.lt q e; omega)) x13) x14)).lt j e; omega)) x15), b24, (((((b20.upd1 x12).ext x13).ext x14).upd g1 (fun e => by have := (how).lt _ e.symm; omega)).upd1 x15), (((((b21.upd1 x12).ext x13).ext x14).upd g1 (fun e => by have := (how).lt _ e.symm; omega)).upd1 x15), (by omega), (by omega), (by rw [← hr, run_succ]; simp only [stepN, namesLS, e6, e7, h_c11, h_c17, h_c38, h_c48, h_c64, n_c11, n_c64, Z.ifs, reduceIte, nds_app, nds_cons, nds_nil, nds_len]), ok8, (Gx.own_upd1 owx1 x15 (fun q e => by have := owx1.lt q e; omega)), (fun p' h0 => KV.topV ((hkx1 p' h0).updV x15) (by omega) (by intro j hj; simp only [List.mem_cons, List.not_mem_nil, or_false] at hj ⊢; omega)), (by rw [List.length_append]; show L.length + 1 + _ ≤ _; omega), (by omega), ⟨by omega, by omega⟩, (by omega), (KV.topV ((((((hkc0.updV x12).extV x13).extV x14).appV g1).toV nl1 (by omega)).updV x15) (by omega) (by intro j hj; simp only [List.mem_cons, List.not_mem_nil, or_false] at hj ⊢; omega))⟩
  refine wp_skip (Z.x (Z.r [0, 1, 2, 3, 4, 5, 6, 7] ?_))
  refine Z.p [0, 1, 2] [3, 4, 5, 6, 7] [(81, Z.P b 9), (80, Z.P b 0), (79, Z.P b 0)] ?_
  refine Z.L 9 (Z.n q4.y) b17 ?_
  refine Gx.pure_eq [4] [5, 6, 7] [(83, .int .i64 (IntKind.i64.wrap (((q4.y : Nat) : Int) - (1 : Int))))] [(83, .int .i64 ((q4.y - 1 : Nat) : Int))] rfl (by kernel_rfl) (Gx.eqI (by rw [IntWalk.i64_in _ (by omega)]; omega)) ?_
  refine Z.p [5, 6] [7] [(85, Z.P b 9), (84, Z.P b 0)] ?_
  refine Z.S 9 (.int .i64 ((q4.y - 1 : Nat) : Int)) b17 #[.string S, Z.n q4.k, Z.n q4.a, .string q4.t, Z.n q4.n, Z.n q4.e, Z.n q4.fk, Z.n q4.fa, Z.n q4.x, .int .i64 ((q4.y - 1 : Nat) : Int)] (fun w38 u14 b34 zw38 => ?_)
  refine Z.e (Z.r [0, 1] ?_)
  refine Z.L 0 (.agg #[Z.n t1.k, Z.n t1.a, .string t1.nm, .int .i64 t1.n, .slice A1 t1.ks.length c1]) (((b8.upd1 x4).upd1 x9).upd1 u14) ?_
  refine Z.Sa #[Z.n t1.k, Z.n t1.a, .string t1.nm, .int .i64 t1.n, .slice A1 t1.ks.length c1] (((((((b1.upd1 u4).upd1 x2).ext x3).upd1 u5).upd1 x4).upd1 x9).upd1 u14) (fun w39 u15 b35 zw39 => ?_)
  refine Z.e (wp_ret (Gx.ret (Gx.res_c (u := .agg #[Z.n t1.k, Z.n t1.a, .string t1.nm, .int .i64 t1.n, .slice A1 t1.ks.length c1]) rfl (by kernel_rfl) b35 (by kernel_rfl)) ?_))
  exact hK _ t1 A1 c1 (⟨q4.k, q4.a, q4.t, q4.n, q4.e, q4.fk, q4.fa, q4.x, (q4.y - 1)⟩ : Rs) (by rw [run_succ]; simp only [stepN, typS, fnS, Nd.ks, nds_app, nds_cons, nds_nil, nds_len, e1, e2, e4, h_c11, h_c17, h_c38, h_c48, n_c11, Z.ifs, reduceIte]) (gb_new (gb_upd (gb_upd (gb_upd (gb_new (gb_ext (gb_upd (gb_upd (gb_ext (gb_refl w b) x1) u4) x2) x3) u5) x4) x9) u14) u15) (b34.upd1 u15) (KV.top ((((((kv1.ext x3).upd u5).upd x4).upd x9).upd u14).upd u15))
set_option maxHeartbeats 1000000 in
set_option maxRecDepth 10000 in
theorem handle_c (k : Nat) (b : Nat) (S : ByteArray) (q : Rs) (at_ : Nat) (w : World) (K : Ending → World → Prop) (ih : ∀ j, j ≤ k → Spec j) (hb : Gx.Has w b (rdO S q)) (hok : Ok S q) (hmu : 16 * M S q + 9 ≤ k + 1) (hsh : (isB q (Z.B [104, 97, 110, 100, 108, 101]) = true ∨ isB q (Z.B [115, 104, 97, 108, 108, 111, 119]) = true)) (hK : ∀ w' t A c q', run S (k + 1) (.handle at_) q = (t, q') → Gx.G w w' (some b) → Gx.Has w' b (rdO S q') → KV (In w.heap.size w'.heap.size []) w' t.ks A c → K (.returned (.agg #[Z.n t.k, Z.n t.a, .string t.nm, .int .i64 t.n, .slice A t.ks.length c])) w') :
    Calls Try.prog 59 #[Z.P b 0, Z.n at_] w K := by
  refine Gx.enter 99 Try.func59 rfl rfl (Nat.le_of_ble_eq_true rfl) ?_
  have tbb := hb.lt
  refine Z.r [0] ?_
  refine Z.N (.cells #[.int .i64 0, .int .i64 0, .string Z.E, .int .i64 0, .slice none 0 0] 24) (fun k1 w1 l1 x1 b1 zw1 tb1 => ?_)
  refine Z.e (Z.r [0, 1, 2] ?_)
  refine Z.p [0] [1, 2] [(20, Z.P b 0)] ?_
  refine Z.k (fun R hR => has_c b S q (Z.B [104, 97, 110, 100, 108, 101]) _ R (hb.ext x1) hok (fun w2 q1 e1 x2 b2 => hR _ _ ?_))
  have zw2 := x2.size
  have tb2 := b2.lt
  obtain ⟨ok1, m1, tr1x, tr1y⟩ : Tr S q q1 := e1 ▸ has_tr hok
  refine Z.p [2] [] [(5, .bool (isB q (Z.B [104, 97, 110, 100, 108, 101])))] ?_
  refine Z.e (wp_seq (Z.s [(23, .bool (!(isB q (Z.B [104, 97, 110, 100, 108, 101])))), (22, .bool (isB q (Z.B [104, 97, 110, 100, 108, 101])))] ?_))
  refine Z.c (!(isB q (Z.B [104, 97, 110, 100, 108, 101]))) (fun h_c23 => ?_) (fun h_c23 => ?_)
  · skip
    refine Z.g [0, 1] ?_
    refine Z.p [0] [1] [(24, Z.P b 0)] ?_
    refine Z.k (fun R hR => next_c b S q1 _ R b2 ok1 (fun w3 q2 e2 x3 b3 => hR _ _ ?_))
    have zw3 := x3.size
    have tb3 := b3.lt
    obtain ⟨ok2, m2, tr2x, tr2y⟩ : Tr S q1 q2 := e2 ▸ next_tr ok1
    refine Gx.ops_nil (Z.x ?_)
    have n_c23 : isB q (Z.B [104, 97, 110, 100, 108, 101]) = false := by simpa using h_c23
    have hq1 := e1; unfold hasR at hq1; rw [if_neg (by rw [n_c23]; exact Bool.false_ne_true)] at hq1; subst hq1
    have hlts : M S q2 < M S q := by rw [← e2]; exact is_lt hok (hsh.resolve_left (by rw [n_c23]; exact Bool.false_ne_true))
    refine Z.r [0, 1, 2, 3] ?_
    refine Z.p [0] [1, 2, 3] [(26, Z.P b 0)] ?_
    refine Z.k (fun R hR => (ih k (Nat.le_refl k)).f_expr b S q2 _ R b3 ok2 (by omega) (fun w4 t1 A1 c1 q3 e3 x4 b4 kv1 => hR _ _ ?_))
    have zw4 := x4.size
    have tb4 := b4.lt
    obtain ⟨ok3, m3, tr3x, tr3y⟩ : Tr S q2 q3 := run_facts ok2 e3
    refine Z.N (.cells #[.int .i64 0, .int .i64 0, .string Z.E, .int .i64 0, .slice none 0 0] 24) (fun k2 w5 l2 x5 b5 zw5 tb5 => ?_)
    refine Z.Sa #[Z.n t1.k, Z.n t1.a, .string t1.nm, .int .i64 t1.n, .slice A1 t1.ks.length c1] b5 (fun w6 u1 b6 zw6 => ?_)
    refine Z.e (Z.r [0, 1] ?_)
    refine Z.p [0] [1] [(28, Z.P b 0)] ?_
    refine Z.k (fun R hR => must_c b S q3 (Z.B [119, 105, 116, 104]) _ R ((b4.ext x5).upd1 u1) ok3 (fun w7 q4 e4 x6 b7 => hR _ _ ?_))
    have zw7 := x6.size
    have tb7 := b7.lt
    obtain ⟨ok4, m4, tr4x, tr4y⟩ : Tr S q3 q4 := e4 ▸ must_tr ok3
    refine Z.e (Z.r [0, 1] ?_)
    refine Z.p [0] [1] [(30, Z.P b 0)] ?_
    refine Z.k (fun R hR => must_c b S q4 (Z.B [123]) _ R b7 ok4 (fun w8 q5 e5 x7 b8 => hR _ _ ?_))
    have zw8 := x7.size
    have tb8 := b8.lt
    obtain ⟨ok5, m5, tr5x, tr5y⟩ : Tr S q4 q5 := e5 ▸ must_tr ok4
    refine Z.e (Z.r [0, 1, 2, 3, 4, 5] ?_)
    refine Z.p [0, 1, 2, 3] [4, 5] [(35, Z.P b 2), (34, Z.P b 1), (33, Z.P b 0), (32, Z.P b 0)] ?_
    refine Z.L 2 (Z.n q5.a) b8 ?_
    refine Z.p [5] [] [(7, Z.n q5.a)] ?_
    refine Z.e (Z.r [0, 1] ?_)
    refine Z.p [0] [1] [(37, Z.P b 0)] ?_
    refine Z.k (fun R hR => must_c b S q5 (Z.B [114, 101, 116, 117, 114, 110]) _ R b8 ok5 (fun w9 q6 e6 x8 b9 => hR _ _ ?_))
    have zw9 := x8.size
    have tb9 := b9.lt
    obtain ⟨ok6, m6, tr6x, tr6y⟩ : Tr S q5 q6 := e6 ▸ must_tr ok5
    refine Z.e (Z.r [0, 1, 2, 3, 4, 5, 6] ?_)
    refine Z.p [0] [1, 2, 3, 4, 5, 6] [(40, Z.P b 0)] ?_
    refine Z.k (fun R hR => name_c b S q6 _ R b9 ok6 (fun w10 nm1 na1 q7 e7 x9 b10 => hR _ _ ?_))
    have zw10 := x9.size
    have tb10 := b10.lt
    obtain ⟨ok7, m7, tr7x, tr7y⟩ : Tr S q6 q7 := by have := name_tr ok6; rw [e7] at this; exact this
    refine Z.p [2, 3, 4, 5, 6] [] [(9, Z.n na1), (8, .string nm1), (43, Z.n na1), (42, .string nm1), (39, .tuple #[.string nm1, Z.n na1])] ?_
    refine Z.e (Z.r [0, 1] ?_)
    refine Z.p [0] [1] [(44, Z.P b 0)] ?_
    refine Z.k (fun R hR => must_c b S q7 (Z.B [61, 62]) _ R b10 ok7 (fun w11 q8 e8 x10 b11 => hR _ _ ?_))
    have zw11 := x10.size
    have tb11 := b11.lt
    obtain ⟨ok8, m8, tr8x, tr8y⟩ : Tr S q7 q8 := e8 ▸ must_tr ok7
    refine Z.e (Z.r [0, 1, 2, 3] ?_)
    refine Z.p [0] [1, 2, 3] [(46, Z.P b 0)] ?_
    refine Z.k (fun R hR => (ih k (Nat.le_refl k)).f_expr b S q8 _ R b11 ok8 (by omega) (fun w12 t2 A2 c2 q9 e9 x11 b12 kv2 => hR _ _ ?_))
    have zw12 := x11.size
    have tb12 := b12.lt
    obtain ⟨ok9, m9, tr9x, tr9y⟩ : Tr S q8 q9 := run_facts ok8 e9
    refine Z.N (.cells #[.int .i64 0, .int .i64 0, .string Z.E, .int .i64 0, .slice none 0 0] 24) (fun k3 w13 l3 x12 b13 zw13 tb13 => ?_)
    refine Z.Sa #[Z.n t2.k, Z.n t2.a, .string t2.nm, .int .i64 t2.n, .slice A2 t2.ks.length c2] b13 (fun w14 u2 b14 zw14 => ?_)
    refine Z.e (wp_seq (Z.D (fun w' => Gx.Has w' k2 (.cells #[Z.n t1.k, Z.n t1.a, .string t1.nm, .int .i64 t1.n, .slice A1 t1.ks.length c1] 24) ∧ Gx.Has w' k3 (.cells #[Z.n t2.k, Z.n t2.a, .string t2.nm, .int .i64 t2.n, .slice A2 t2.ks.length c2] 24)) (fun w15 x13 zw15 => ?_)))
    refine Z.h ⟨(((((((((b6.upd1 x6).upd1 x7).upd1 x8).upd1 x9).upd1 x10).upd1 x11).ext x12).upd1 u2).ext x13), (b14.ext x13)⟩ (fun hS1 => ?_)
    refine Z.tl 0 0 (.agg #[Z.n t1.k, Z.n t1.a, .string t1.nm, .int .i64 t1.n, .slice A1 t1.ks.length c1]) (fun _ hs => hs.1) hS1 ?_
    refine Z.t 1 (Z.n q5.a) hS1 ?_
    refine Z.t 2 (.string nm1) hS1 ?_
    refine Z.tl 3 0 (.agg #[Z.n t2.k, Z.n t2.a, .string t2.nm, .int .i64 t2.n, .slice A2 t2.ks.length c2]) (fun _ hs => hs.2) hS1 ?_
    refine Z.oR 4 (.cells #[Z.n t2.k, Z.n t2.a, .string t2.nm, .int .i64 t2.n, .slice A2 t2.ks.length c2] 24) 1 1 (fun k4 w16 l4 x14 b15 => ⟨⟨((((((((((b6.upd1 x6).upd1 x7).upd1 x8).upd1 x9).upd1 x10).upd1 x11).ext x12).upd1 u2).ext x13).ext x14), ((b14.ext x13).ext x14)⟩, ?_⟩)
    have zw16 := x14.size
    have tb15 := b15.lt
    refine Z.o 5 (fun R hR => named_c (21 : Int) ((q5.a : Nat) : Int) nm1 (some (⟨k4, 0, none⟩ : Addr)) 1 1 _ R (fun w17 x15 => hR _ _ ⟨⟨(((((((((((b6.upd1 x6).upd1 x7).upd1 x8).upd1 x9).upd1 x10).upd1 x11).ext x12).upd1 u2).ext x13).ext x14).ext x15), (((b14.ext x13).ext x14).ext x15)⟩, fun hS2 => ?_⟩))
    have zw17 := x15.size
    refine Z.oR 6 (.cells #[Z.n t1.k, Z.n t1.a, .string t1.nm, .int .i64 t1.n, .slice A1 t1.ks.length c1, .int .i64 21, Z.n q5.a, .string nm1, .int .i64 0, .slice (some ⟨k4, 0, none⟩) 1 1] 24) 2 2 (fun k5 w18 l5 x16 b16 => ⟨⟨((((((((((((b6.upd1 x6).upd1 x7).upd1 x8).upd1 x9).upd1 x10).upd1 x11).ext x12).upd1 u2).ext x13).ext x14).ext x15).ext x16), ((((b14.ext x13).ext x14).ext x15).ext x16)⟩, ?_⟩)
    have zw18 := x16.size
    have tb16 := b16.lt
    refine Z.h ⟨((((((((((((b6.upd1 x6).upd1 x7).upd1 x8).upd1 x9).upd1 x10).upd1 x11).ext x12).upd1 u2).ext x13).ext x14).ext x15).ext x16), ((((b14.ext x13).ext x14).ext x15).ext x16)⟩ (fun hS3 => ?_)
    refine Z.t 7 (.slice (some ⟨k5, 0, none⟩) 2 2) hS3 ?_
    refine Z.q ?_
    refine Z.x (wp_seq (wp_block ?_))
    have hbv : ∀ j, (.slice (some ⟨k5, 0, none⟩) 2 2 : Value).ownBlock = some j → j < 0 ∨ j = k5 := fun j e => by cases e; exact .inr rfl
    refine Gx.loop (n' := 99) (d' := []) (fun mz l' w' => ∃ (j : Nat) (p : Rs) (v : Value) (L : List (Nd × Option Addr × Nat)), l' = [(0, Z.P b 0), (1, Z.n at_), (4, Z.P k1 0), (5, .bool (isB q (Z.B [104, 97, 110, 100, 108, 101]))), (11, v)] ∧ mz = M S p ∧ Gx.G w w' (some b) ∧ Gx.Has w' b (.cells #[.string S, Z.n p.k, Z.n p.a, .string p.t, Z.n p.n, Z.n p.e, Z.n p.fk, Z.n p.fa, Z.n p.x, Z.n p.y] 41) ∧ Gx.Has w' k1 (.cells #[.int .i64 0, .int .i64 0, .string Z.E, .int .i64 0, .slice none 0 0] 24) ∧ Gx.Has w' k2 (.cells #[Z.n t1.k, Z.n t1.a, .string t1.nm, .int .i64 t1.n, .slice A1 t1.ks.length c1] 24) ∧ Gx.Has w' k3 (.cells #[Z.n t2.k, Z.n t2.a, .string t2.nm, .int .i64 t2.n, .slice A2 t2.ks.length c2] 24) ∧ (j ≤ k) ∧ (16 * M S p + 12 ≤ j) ∧ (run S j (.handL (nds L)) p = run S k (.handL [t1, (Nd.mk 21 q5.a nm1 (0 : Int) [t2])]) q9) ∧ (Ok S p) ∧ (w'.ownsRow k5 24 5 v L.length (flat L)) ∧ (∀ p' ∈ L, KV (InV w.heap.size w'.heap.size [k1, k2, k3] v) w' p'.1.ks p'.2.1 p'.2.2) ∧ (L.length + M S p ≤ 4000) ∧ (M S p ≤ M S q9) ∧ (p.x = q9.x ∧ p.y = q9.y) ∧ (k5 ≤ w'.heap.size)) _ _ [(0, Z.P b 0), (1, Z.n at_), (4, Z.P k1 0), (5, .bool (isB q (Z.B [104, 97, 110, 100, 108, 101]))), (11, (.slice (some ⟨k5, 0, none⟩) 2 2 : Value))] (Gx.forget [(0, Z.P b 0), (1, Z.n at_), (4, Z.P k1 0), (5, .bool (isB q (Z.B [104, 97, 110, 100, 108, 101]))), (11, (.slice (some ⟨k5, 0, none⟩) 2 2 : Value))] (by kernel_rfl)) ⟨k, q9, (.slice (some ⟨k5, 0, none⟩) 2 2 : Value), [(t1, A1, c1), ((Nd.mk 21 q5.a nm1 (0 : Int) [t2]), (some (⟨k4, 0, none⟩ : Addr)), 1)], rfl, rfl, (gb_ext (gb_ext (gb_ext (gb_ext (gb_new (gb_ext (gb_upd (gb_upd (gb_upd (gb_upd (gb_upd (gb_upd (gb_new (gb_ext (gb_upd (gb_upd (gb_upd (gb_ext (gb_refl w b) x1) x2) x3) x4) x5) u1) x6) x7) x8) x9) x10) x11) x12) u2) x13) x14) x15) x16), ((((((b12.ext x12).upd1 u2).ext x13).ext x14).ext x15).ext x16), (((((((((((((((((b1.upd1 x2).upd1 x3).upd1 x4).ext x5).upd1 u1).upd1 x6).upd1 x7).upd1 x8).upd1 x9).upd1 x10).upd1 x11).ext x12).upd1 u2).ext x13).ext x14).ext x15).ext x16), ((((((((((((b6.upd1 x6).upd1 x7).upd1 x8).upd1 x9).upd1 x10).upd1 x11).ext x12).upd1 u2).ext x13).ext x14).ext x15).ext x16), ((((b14.ext x13).ext x14).ext x15).ext x16), (Nat.le_refl _), (by omega), rfl, ok9, (Gx.own_row (n := 2) b16 rfl (by unfold maxLen; omega)), (by intro p hp; simp only [List.mem_cons, List.not_mem_nil, or_false] at hp; rcases hp with rfl | rfl; exact (KV.topV (KV.ofIn ((((((((((((((kv1.ext x5).upd u1).upd x6).upd x7).upd x8).upd x9).upd x10).upd x11).ext x12).upd u2).ext x13).ext x14).ext x15).ext x16) (fun j e => by rcases hbv j e with q | q <;> omega)) (by omega) (by intro j hj; simp only [List.mem_cons, List.not_mem_nil, or_false] at hj ⊢; omega)); exact (KV.of_row [(t2, A2, c2)] (n := 5) ((b15.ext x15).ext x16) rfl ⟨⟨by omega, by omega, (by simp only [List.mem_cons, List.not_mem_nil, or_false, not_or]; omega)⟩, fun e => by rcases hbv _ e with q | q <;> omega⟩ (by intro p hp; simp only [List.mem_cons, List.not_mem_nil, or_false] at hp; subst hp; exact (KV.topV (KV.ofIn ((((((kv2.ext x12).upd u2).ext x13).ext x14).ext x15).ext x16) (fun j e => by rcases hbv j e with q | q <;> omega)) (by omega) (by intro j hj; simp only [List.mem_cons, List.not_mem_nil, or_false] at hj ⊢; omega))))), (by have := M_le ok9; show 2 + _ ≤ _; omega), (Nat.le_refl _), ⟨rfl, rfl⟩, (by omega)⟩ (fun bb1 m10 ll1 w19 hI1 K1 hK1 => ?_)
    obtain ⟨j, p, v, L, rfl, rfl, x17, b17, b18, b19, b20, hj, hm, hr, ho, how, hks, hlen, hM, hxy, hbs⟩ := hI1
    have zw19 := x17.size
    have tb17 := b17.lt
    have tb18 := b18.lt
    have tb19 := b19.lt
    have tb20 := b20.lt
    obtain ⟨i, rfl⟩ : ∃ i, j = i + 1 := ⟨j - 1, by omega⟩
    refine wp_seq (Z.r [0, 1] ?_)
    refine Z.p [0] [1] [(55, Z.P b 0)] ?_
    refine Z.k (fun R hR => has_c b S p (Z.B [124]) _ R b17 ho (fun w20 q10 e10 x18 b21 => hR _ _ ?_))
    have zw20 := x18.size
    have tb21 := b21.lt
    obtain ⟨ok10, m11, tr10x, tr10y⟩ : Tr S p q10 := e10 ▸ has_tr ho
    refine Z.e (Z.c (isB p (Z.B [124])) (fun h_c56 => ?_) (fun h_c56 => ?_))
    · skip
      refine wp_skip (Z.x (wp_block (Z.r [0, 1, 2, 3, 4, 5, 6] ?_)))
      refine Z.p [0] [1, 2, 3, 4, 5, 6] [(58, Z.P b 0)] ?_
      refine Z.k (fun R hR => name_c b S q10 _ R b21 ok10 (fun w21 nm2 na2 q11 e11 x19 b22 => hR _ _ ?_))
      have zw21 := x19.size
      have tb22 := b22.lt
      obtain ⟨ok11, m12, tr11x, tr11y⟩ : Tr S q10 q11 := by have := name_tr ok10; rw [e11] at this; exact this
      refine Z.p [2, 3, 4, 5, 6] [] [(13, Z.n na2), (12, .string nm2), (61, Z.n na2), (60, .string nm2), (57, .tuple #[.string nm2, Z.n na2])] ?_
      refine Z.e (Z.r [0, 1, 2, 3, 4, 5, 6] ?_)
      refine Z.p [0] [1, 2, 3, 4, 5, 6] [(63, Z.P b 0)] ?_
      refine Z.k (fun R hR => name_c b S q11 _ R b22 ok11 (fun w22 nm3 na3 q12 e12 x20 b23 => hR _ _ ?_))
      have zw22 := x20.size
      have tb23 := b23.lt
      obtain ⟨ok12, m13, tr12x, tr12y⟩ : Tr S q11 q12 := by have := name_tr ok11; rw [e12] at this; exact this
      refine Z.p [2, 3, 4, 5, 6] [] [(15, Z.n na3), (14, .string nm3), (66, Z.n na3), (65, .string nm3), (62, .tuple #[.string nm3, Z.n na3])] ?_
      refine Z.e (Z.r [0, 1, 2, 3, 4, 5, 6] ?_)
      refine Z.p [0] [1, 2, 3, 4, 5, 6] [(68, Z.P b 0)] ?_
      refine Z.k (fun R hR => name_c b S q12 _ R b23 ok12 (fun w23 nm4 na4 q13 e13 x21 b24 => hR _ _ ?_))
      have zw23 := x21.size
      have tb24 := b24.lt
      obtain ⟨ok13, m14, tr13x, tr13y⟩ : Tr S q12 q13 := by have := name_tr ok12; rw [e13] at this; exact this
      refine Z.p [2, 3, 4, 5, 6] [] [(17, Z.n na4), (16, .string nm4), (71, Z.n na4), (70, .string nm4), (67, .tuple #[.string nm4, Z.n na4])] ?_
      refine Z.e (Z.r [0, 1] ?_)
      refine Z.p [0] [1] [(72, Z.P b 0)] ?_
      refine Z.k (fun R hR => must_c b S q13 (Z.B [61, 62]) _ R b24 ok13 (fun w24 q14 e14 x22 b25 => hR _ _ ?_))
      have zw24 := x22.size
      have tb25 := b25.lt
      obtain ⟨ok14, m15, tr14x, tr14y⟩ : Tr S q13 q14 := e14 ▸ must_tr ok13
      refine Z.e (Z.r [0, 1, 2, 3] ?_)
      refine Z.p [0] [1, 2, 3] [(74, Z.P b 0)] ?_
      have lt1 := (by have := has_lt ho h_c56; rw [e10] at this; exact this : M S q10 < M S p)
      refine Z.k (fun R hR => (ih i (by omega)).f_expr b S q14 _ R b25 ok14 (by omega) (fun w25 t3 A3 c3 q15 e15 x23 b26 kv3 => hR _ _ ?_))
      have zw25 := x23.size
      have tb26 := b26.lt
      obtain ⟨ok15, m16, tr15x, tr15y⟩ : Tr S q14 q15 := run_facts ok14 e15
      refine Z.N (.cells #[.int .i64 0, .int .i64 0, .string Z.E, .int .i64 0, .slice none 0 0] 24) (fun k6 w26 l6 x24 b27 zw26 tb27 => ?_)
      refine Z.Sa #[Z.n t3.k, Z.n t3.a, .string t3.nm, .int .i64 t3.n, .slice A3 t3.ks.length c3] b27 (fun w27 u3 b28 zw27 => ?_)
      refine Z.e (Z.D (fun w' => Gx.Has w' k6 (.cells #[Z.n t3.k, Z.n t3.a, .string t3.nm, .int .i64 t3.n, .slice A3 t3.ks.length c3] 24)) (fun w28 x25 zw28 => ?_))
      refine Z.h (b28.ext x25) (fun hS4 => ?_)
      refine Z.t 0 (v) hS4 ?_
      refine Z.t 1 (Z.n na2) hS4 ?_
      refine Z.t 2 (.string nm2) hS4 ?_
      refine Z.t 3 (Z.n na3) hS4 ?_
      refine Z.t 4 (.string nm3) hS4 ?_
      refine Z.t 6 (Z.n na4) hS4 ?_
      refine Z.t 7 (.string nm4) hS4 ?_
      refine Z.tl 9 0 (.agg #[Z.n t3.k, Z.n t3.a, .string t3.nm, .int .i64 t3.n, .slice A3 t3.ks.length c3]) (fun _ hs => hs) hS4 ?_
      refine Z.o 5 (fun R hR => named_c (23 : Int) ((na3 : Nat) : Int) nm3 none 0 0 _ R (fun w29 x26 => hR _ _ ⟨((b28.ext x25).ext x26), fun hS5 => ?_⟩))
      have zw29 := x26.size
      refine Z.o 8 (fun R hR => named_c (23 : Int) ((na4 : Nat) : Int) nm4 none 0 0 _ R (fun w30 x27 => hR _ _ ⟨(((b28.ext x25).ext x26).ext x27), fun hS6 => ?_⟩))
      have zw30 := x27.size
      refine Z.oR 10 (.cells #[.int .i64 23, Z.n na3, .string nm3, .int .i64 0, .slice none 0 0, .int .i64 23, Z.n na4, .string nm4, .int .i64 0, .slice none 0 0, Z.n t3.k, Z.n t3.a, .string t3.nm, .int .i64 t3.n, .slice A3 t3.ks.length c3] 24) 3 3 (fun k7 w31 l7 x28 b29 => ⟨((((b28.ext x25).ext x26).ext x27).ext x28), ?_⟩)
      have zw31 := x28.size
      have tb29 := b29.lt
      refine Z.o 11 (fun R hR => named_c (22 : Int) ((na2 : Nat) : Int) nm2 (some (⟨k7, 0, none⟩ : Addr)) 3 3 _ R (fun w32 x29 => hR _ _ ⟨(((((b28.ext x25).ext x26).ext x27).ext x28).ext x29), fun hS7 => ?_⟩))
      have zw32 := x29.size
      refine Z.oR 12 (.cells #[.int .i64 22, Z.n na2, .string nm2, .int .i64 0, .slice (some ⟨k7, 0, none⟩) 3 3] 24) 1 1 (fun k8 w33 l8 x30 b30 => ⟨((((((b28.ext x25).ext x26).ext x27).ext x28).ext x29).ext x30), ?_⟩)
      have zw33 := x30.size
      have tb30 := b30.lt
      refine Gx.any_one 13 (by kernel_rfl) (Gx.op_appendAt rfl (by kernel_rfl) rfl 24 5 64 (by kernel_rfl) (by kernel_rfl) (by kernel_rfl) (k5) (by kernel_rfl) (Gx.own_ext (Gx.own_ext (Gx.own_ext (Gx.own_ext (Gx.own_ext (Gx.own_ext (Gx.own_upd1 (Gx.own_ext (Gx.own_upd1 (Gx.own_upd1 (Gx.own_upd1 (Gx.own_upd1 (Gx.own_upd1 (Gx.own_upd1 how x18 (fun q e => by have := how.lt q e; omega)) x19 (fun q e => by have := how.lt q e; omega)) x20 (fun q e => by have := how.lt q e; omega)) x21 (fun q e => by have := how.lt q e; omega)) x22 (fun q e => by have := how.lt q e; omega)) x23 (fun q e => by have := how.lt q e; omega)) x24) u3 (fun q e => by have := how.lt q e; omega)) x25) x26) x27) x28) x29) x30) 0 1 1 (by kernel_rfl) b30 [.int .i64 22, Z.n na2, .string nm2, .int .i64 0, .slice (some ⟨k7, 0, none⟩) 3 3] rfl rfl (List.all_eq_true.1 rfl) (by unfold maxLen; omega) (by omega) (by omega) (fun v1 w34 ow1 g1 nl1 => ⟨(((((((b28.ext x25).ext x26).ext x27).ext x28).ext x29).ext x30).upd g1 (fun e => by have := (how).lt _ e.symm; omega)), ?_⟩))
      have zw34 := g1.size
      have hbx1 : ∀ j, v1.ownBlock = some j → (j < w19.heap.size ∧ k5 ≤ j) ∨ j = w33.heap.size := fun j e => by rcases nl1 with q | q; (rw [q] at e; have := (how).lt j e; exact .inl ⟨by omega, by omega⟩); (rw [q] at e; cases e; exact .inr rfl)
      have owx1 : w34.ownsRow k5 24 5 v1 (L ++ [((Nd.mk 22 na2 nm2 (0 : Int) [(Nd.mk 23 na3 nm3 (0 : Int) []), (Nd.mk 23 na4 nm4 (0 : Int) []), t3]), (some (⟨k7, 0, none⟩ : Addr)), 3)]).length (flat (L ++ [((Nd.mk 22 na2 nm2 (0 : Int) [(Nd.mk 23 na3 nm3 (0 : Int) []), (Nd.mk 23 na4 nm4 (0 : Int) []), t3]), (some (⟨k7, 0, none⟩ : Addr)), 3)])) := by rw [flat_snoc, List.length_append]; exact ow1
      have hkx1 : ∀ p' ∈ (L ++ [((Nd.mk 22 na2 nm2 (0 : Int) [(Nd.mk 23 na3 nm3 (0 : Int) []), (Nd.mk 23 na4 nm4 (0 : Int) []), t3]), (some (⟨k7, 0, none⟩ : Addr)), 3)]), KV (InV w.heap.size w34.heap.size [k1, k2, k3] v1) w34 p'.1.ks p'.2.1 p'.2.2 := by intro p' hp'; simp only [List.mem_append, List.mem_cons, List.not_mem_nil, or_false] at hp'; rcases hp' with h0 | rfl; exact (KV.topV ((((((((((((((((((hks p' h0).updV x18).updV x19).updV x20).updV x21).updV x22).updV x23).extV x24).updV u3).extV x25).extV x26).extV x27).extV x28).extV x29).extV x30)).appV g1).toV nl1 (by omega)) (by omega) (by intro j hj; simp only [List.mem_cons, List.not_mem_nil, or_false] at hj ⊢; omega)); exact (KV.of_row [((Nd.mk 23 na3 nm3 (0 : Int) []), none, 0), ((Nd.mk 23 na4 nm4 (0 : Int) []), none, 0), (t3, A3, c3)] (n := 15) (((b29.ext x29).ext x30).upd g1 (fun e => by have := (how).lt _ e.symm; omega)) rfl ⟨⟨by omega, by omega, (by simp only [List.mem_cons, List.not_mem_nil, or_false, not_or]; omega)⟩, fun e => by rcases hbx1 _ e with q | q <;> omega⟩ (by intro p hp; simp only [List.mem_cons, List.not_mem_nil, or_false] at hp; rcases hp with rfl | rfl | rfl; exact KV.nil; exact KV.nil; exact (KV.topV (KV.ofIn (((((((((kv3.ext x24).upd u3).ext x25).ext x26).ext x27).ext x28).ext x29).ext x30).app g1 (fun j e => by have := ((Gx.own_ext (Gx.own_ext (Gx.own_ext (Gx.own_ext (Gx.own_ext (Gx.own_ext (Gx.own_upd1 (Gx.own_ext (Gx.own_upd1 (Gx.own_upd1 (Gx.own_upd1 (Gx.own_upd1 (Gx.own_upd1 (Gx.own_upd1 how x18 (fun q e => by have := how.lt q e; omega)) x19 (fun q e => by have := how.lt q e; omega)) x20 (fun q e => by have := how.lt q e; omega)) x21 (fun q e => by have := how.lt q e; omega)) x22 (fun q e => by have := how.lt q e; omega)) x23 (fun q e => by have := how.lt q e; omega)) x24) u3 (fun q e => by have := how.lt q e; omega)) x25) x26) x27) x28) x29) x30)).lt j e; have := (how).lt j e; first | (left; omega) | (right; left; omega))) (fun j e => by rcases hbx1 j e with q | q <;> omega)) (by omega) (by intro j hj; simp only [List.mem_cons, List.not_mem_nil, or_false] at hj ⊢; omega))))
      refine Z.h (((((((b28.ext x25).ext x26).ext x27).ext x28).ext x29).ext x30).upd g1 (fun e => by have := (how).lt _ e.symm; omega)) (fun hS8 => ?_)
      refine Z.t 14 (v1) hS8 ?_
      refine Z.q ?_
      refine Gx.block_normal (Z.x ?_)
      rw [Gx.forget [(0, Z.P b 0), (1, Z.n at_), (4, Z.P k1 0), (5, .bool (isB q (Z.B [104, 97, 110, 100, 108, 101]))), (11, v1)] (by kernel_rfl)]
      exact hK1 _ _ _ _ (by omega) ⟨i, q15, v1, (L ++ [((Nd.mk 22 na2 nm2 (0 : Int) [(Nd.mk 23 na3 nm3 (0 : Int) []), (Nd.mk 23 na4 nm4 (0 : Int) []), t3]), (some (⟨k7, 0, none⟩ : Addr)), 3)]), rfl, rfl, (gb_app (gb_ext (gb_ext (gb_ext (gb_ext (gb_ext (gb_ext (gb_new (gb_ext (gb_upd (gb_upd (gb_upd (gb_upd (gb_upd (gb_upd (gb_upd (gb_refl w b) x17) x18) x19) x20) x21) x22) x23) x24) u3) x25) x26) x27) x28) x29) x30) g1 (fun j e => by have := ((Gx.own_ext (Gx.own_ext (Gx.own_ext (Gx.own_ext (Gx.own_ext (Gx.own_ext (Gx.own_upd1 (Gx.own_ext (Gx.own_upd1 (Gx.own_upd1 (Gx.own_upd1 (Gx.own_upd1 (Gx.own_upd1 (Gx.own_upd1 how x18 (fun q e => by have := how.lt q e; omega)) x19 (fun q e => by have := how.lt q e; omega)) x20 (fun q e => by have := how.lt q e; omega)) x21 (fun q e => by have := how.lt q e; omega)) x22 (fun q e => by have := how.lt q e; omega)) x23 (fun q e => by have := how.lt q e; omega)) x24) u3 (fun q e => by have := how.lt q e; omega)) x25) x26) x27) x28) x29) x30)).lt j e; omega)), (((((((((b26.ext x24).upd1 u3).ext x25).ext x26).ext x27).ext x28).ext x29).ext x30).upd g1 (fun e => by have := (how).lt _ e.symm; omega)), (((((((((((((((b18.upd1 x18).upd1 x19).upd1 x20).upd1 x21).upd1 x22).upd1 x23).ext x24).upd1 u3).ext x25).ext x26).ext x27).ext x28).ext x29).ext x30).upd g1 (fun e => by have := (how).lt _ e.symm; omega)), (((((((((((((((b19.upd1 x18).upd1 x19).upd1 x20).upd1 x21).upd1 x22).upd1 x23).ext x24).upd1 u3).ext x25).ext x26).ext x27).ext x28).ext x29).ext x30).upd g1 (fun e => by have := (how).lt _ e.symm; omega)), (((((((((((((((b20.upd1 x18).upd1 x19).upd1 x20).upd1 x21).upd1 x22).upd1 x23).ext x24).upd1 u3).ext x25).ext x26).ext x27).ext x28).ext x29).ext x30).upd g1 (fun e => by have := (how).lt _ e.symm; omega)), (by omega), (by omega), (by rw [← hr, run_succ]; simp only [stepN, handLS, e10, e11, e12, e13, e14, e15, h_c23, h_c56, n_c23, Z.ifs, reduceIte, nds_app, nds_cons, nds_nil, nds_len]), ok15, owx1, (fun p' h0 => KV.topV (hkx1 p' h0) (by omega) (by intro j hj; simp only [List.mem_cons, List.not_mem_nil, or_false] at hj ⊢; omega)), (by rw [List.length_append]; show L.length + 1 + _ ≤ _; omega), (by omega), ⟨by omega, by omega⟩, (by omega)⟩
    refine wp_exit (Gx.then_exit (Gx.then_exit (Gx.block_exit (Z.x ?_))))
    have e16 : run S k (.handL [t1, (Nd.mk 21 q5.a nm1 (0 : Int) [t2])]) q9 = ((Nd.mk 0 0 Z.E 0 (nds L)), q10) := by rw [← hr, run_succ]; simp only [stepN, handLS, e10, h_c23, h_c56, n_c23, Z.ifs, reduceIte, nds_app, nds_cons, nds_nil, nds_len]
    refine Z.r [0, 1] ?_
    refine Z.p [0] [1] [(90, Z.P b 0)] ?_
    refine Z.k (fun R hR => must_c b S q10 (Z.B [125]) _ R b21 ok10 (fun w35 q16 e17 x31 b31 => hR _ _ ?_))
    have zw35 := x31.size
    have tb31 := b31.lt
    obtain ⟨ok16, m17, tr16x, tr16y⟩ : Tr S q10 q16 := e17 ▸ must_tr ok10
    refine Z.e (Z.r [0, 1, 2, 3, 4] ?_)
    refine Z.p [0, 1] [2, 3, 4] [(93, v), (92, Z.n at_)] ?_
    obtain ⟨A4, c4, rfl, kv4⟩ := KV.of_own (Q := In w.heap.size w35.heap.size [k1, k2, k3]) L (Gx.own_upd1 (Gx.own_upd1 how x18 (fun q e => by have := how.lt q e; omega)) x31 (fun q e => by have := how.lt q e; omega)) (fun j e => by have := ((Gx.own_upd1 (Gx.own_upd1 how x18 (fun q e => by have := how.lt q e; omega)) x31 (fun q e => by have := how.lt q e; omega))).lt j e; exact ⟨by omega, by omega, (by simp only [List.mem_cons, List.not_mem_nil, or_false, not_or]; omega)⟩) (fun p' h0 => ((fun p' h0 => KV.topV (((hks p' h0).updV x18).updV x31) (by omega) (by intro j hj; simp only [List.mem_cons, List.not_mem_nil, or_false] at hj ⊢; omega)) p' h0).noV)
    refine Z.k (fun R hR => Node_c (20 : Int) ((at_ : Nat) : Int) A4 ((nds L).length) c4 _ R (fun w36 x32 => hR _ _ ?_))
    have zw36 := x32.size
    refine Z.N (.cells #[.int .i64 0, .int .i64 0, .string Z.E, .int .i64 0, .slice none 0 0] 24) (fun k9 w37 l9 x33 b32 zw37 tb32 => ?_)
    refine Z.Sa #[.int .i64 20, Z.n at_, .string Z.E, .int .i64 0, .slice A4 ((nds L).length) c4] b32 (fun w38 u4 b33 zw38 => ?_)
    refine Z.e (wp_seq (Z.s [(96, .bool (!(isB q (Z.B [104, 97, 110, 100, 108, 101])))), (95, .bool (isB q (Z.B [104, 97, 110, 100, 108, 101])))] ?_))
    refine Z.c (!(isB q (Z.B [104, 97, 110, 100, 108, 101]))) (fun hk_ => ?_) (fun hk_ => absurd (h_c23.symm.trans hk_) (by decide))
    refine Z.g [0, 1] ?_
    refine Z.p [0] [1] [(97, Z.P k9 3)] ?_
    refine Z.S 3 (.int .i64 1) b33 #[.int .i64 20, Z.n at_, .string Z.E, .int .i64 1, .slice A4 ((nds L).length) c4] (fun w39 u5 b34 zw39 => ?_)
    refine Gx.ops_nil (Z.x (Z.r [0, 1] ?_))
    refine Z.L 0 (.agg #[.int .i64 20, Z.n at_, .string Z.E, .int .i64 1, .slice A4 ((nds L).length) c4]) b34 ?_
    refine Z.Sa #[.int .i64 20, Z.n at_, .string Z.E, .int .i64 1, .slice A4 ((nds L).length) c4] ((((((b18.upd1 x18).upd1 x31).ext x32).ext x33).upd1 u4).upd1 u5) (fun w40 u6 b35 zw40 => ?_)
    refine Z.e (wp_ret (Gx.ret (Gx.res_c (u := .agg #[.int .i64 20, Z.n at_, .string Z.E, .int .i64 1, .slice A4 ((nds L).length) c4]) rfl (by kernel_rfl) b35 (by kernel_rfl)) ?_))
    exact hK _ (Nd.mk 20 at_ Z.E (1 : Int) (nds L)) A4 c4 q16 (by rw [run_succ]; simp only [stepN, handleS, handT, Nd.ks, nds_app, nds_cons, nds_nil, nds_len, e1, e2, e3, e4, e5, e6, e7, e8, e9, e16, e17, h_c23, h_c56, n_c23, Z.ifs, reduceIte]) (gb_new (gb_new (gb_new (gb_ext (gb_ext (gb_upd (gb_upd (gb_upd (gb_refl w b) x17) x18) x31) x32) x33) u4) u5) u6) (((((b31.ext x32).ext x33).upd1 u4).upd1 u5).upd1 u6) (KV.top (((((kv4.ext x32).ext x33).upd u4).upd u5).upd u6))
  refine wp_skip (Z.x ?_)
  have n_c23 : isB q (Z.B [104, 97, 110, 100, 108, 101]) = true := by simpa using h_c23
  have lt2 := (by have := has_lt hok n_c23; rw [e1] at this; exact this : M S q1 < M S q)
  refine Z.r [0, 1, 2, 3] ?_
  refine Z.p [0] [1, 2, 3] [(26, Z.P b 0)] ?_
  refine Z.k (fun R hR => (ih k (Nat.le_refl k)).f_expr b S q1 _ R b2 ok1 (by omega) (fun w41 t4 A5 c5 q17 e18 x34 b36 kv5 => hR _ _ ?_))
  have zw41 := x34.size
  have tb36 := b36.lt
  obtain ⟨ok17, m18, tr17x, tr17y⟩ : Tr S q1 q17 := run_facts ok1 e18
  refine Z.N (.cells #[.int .i64 0, .int .i64 0, .string Z.E, .int .i64 0, .slice none 0 0] 24) (fun k10 w42 l10 x35 b37 zw42 tb37 => ?_)
  refine Z.Sa #[Z.n t4.k, Z.n t4.a, .string t4.nm, .int .i64 t4.n, .slice A5 t4.ks.length c5] b37 (fun w43 u7 b38 zw43 => ?_)
  refine Z.e (Z.r [0, 1] ?_)
  refine Z.p [0] [1] [(28, Z.P b 0)] ?_
  refine Z.k (fun R hR => must_c b S q17 (Z.B [119, 105, 116, 104]) _ R ((b36.ext x35).upd1 u7) ok17 (fun w44 q18 e19 x36 b39 => hR _ _ ?_))
  have zw44 := x36.size
  have tb39 := b39.lt
  obtain ⟨ok18, m19, tr18x, tr18y⟩ : Tr S q17 q18 := e19 ▸ must_tr ok17
  refine Z.e (Z.r [0, 1] ?_)
  refine Z.p [0] [1] [(30, Z.P b 0)] ?_
  refine Z.k (fun R hR => must_c b S q18 (Z.B [123]) _ R b39 ok18 (fun w45 q19 e20 x37 b40 => hR _ _ ?_))
  have zw45 := x37.size
  have tb40 := b40.lt
  obtain ⟨ok19, m20, tr19x, tr19y⟩ : Tr S q18 q19 := e20 ▸ must_tr ok18
  refine Z.e (Z.r [0, 1, 2, 3, 4, 5] ?_)
  refine Z.p [0, 1, 2, 3] [4, 5] [(35, Z.P b 2), (34, Z.P b 1), (33, Z.P b 0), (32, Z.P b 0)] ?_
  refine Z.L 2 (Z.n q19.a) b40 ?_
  refine Z.p [5] [] [(7, Z.n q19.a)] ?_
  refine Z.e (Z.r [0, 1] ?_)
  refine Z.p [0] [1] [(37, Z.P b 0)] ?_
  refine Z.k (fun R hR => must_c b S q19 (Z.B [114, 101, 116, 117, 114, 110]) _ R b40 ok19 (fun w46 q20 e21 x38 b41 => hR _ _ ?_))
  have zw46 := x38.size
  have tb41 := b41.lt
  obtain ⟨ok20, m21, tr20x, tr20y⟩ : Tr S q19 q20 := e21 ▸ must_tr ok19
  refine Z.e (Z.r [0, 1, 2, 3, 4, 5, 6] ?_)
  refine Z.p [0] [1, 2, 3, 4, 5, 6] [(40, Z.P b 0)] ?_
  refine Z.k (fun R hR => name_c b S q20 _ R b41 ok20 (fun w47 nm5 na5 q21 e22 x39 b42 => hR _ _ ?_))
  have zw47 := x39.size
  have tb42 := b42.lt
  obtain ⟨ok21, m22, tr21x, tr21y⟩ : Tr S q20 q21 := by have := name_tr ok20; rw [e22] at this; exact this
  refine Z.p [2, 3, 4, 5, 6] [] [(9, Z.n na5), (8, .string nm5), (43, Z.n na5), (42, .string nm5), (39, .tuple #[.string nm5, Z.n na5])] ?_
  refine Z.e (Z.r [0, 1] ?_)
  refine Z.p [0] [1] [(44, Z.P b 0)] ?_
  refine Z.k (fun R hR => must_c b S q21 (Z.B [61, 62]) _ R b42 ok21 (fun w48 q22 e23 x40 b43 => hR _ _ ?_))
  have zw48 := x40.size
  have tb43 := b43.lt
  obtain ⟨ok22, m23, tr22x, tr22y⟩ : Tr S q21 q22 := e23 ▸ must_tr ok21
  refine Z.e (Z.r [0, 1, 2, 3] ?_)
  refine Z.p [0] [1, 2, 3] [(46, Z.P b 0)] ?_
  refine Z.k (fun R hR => (ih k (Nat.le_refl k)).f_expr b S q22 _ R b43 ok22 (by omega) (fun w49 t5 A6 c6 q23 e24 x41 b44 kv6 => hR _ _ ?_))
  have zw49 := x41.size
  have tb44 := b44.lt
  obtain ⟨ok23, m24, tr23x, tr23y⟩ : Tr S q22 q23 := run_facts ok22 e24
  refine Z.N (.cells #[.int .i64 0, .int .i64 0, .string Z.E, .int .i64 0, .slice none 0 0] 24) (fun k11 w50 l11 x42 b45 zw50 tb45 => ?_)
  refine Z.Sa #[Z.n t5.k, Z.n t5.a, .string t5.nm, .int .i64 t5.n, .slice A6 t5.ks.length c6] b45 (fun w51 u8 b46 zw51 => ?_)
  refine Z.e (wp_seq (Z.D (fun w' => Gx.Has w' k10 (.cells #[Z.n t4.k, Z.n t4.a, .string t4.nm, .int .i64 t4.n, .slice A5 t4.ks.length c5] 24) ∧ Gx.Has w' k11 (.cells #[Z.n t5.k, Z.n t5.a, .string t5.nm, .int .i64 t5.n, .slice A6 t5.ks.length c6] 24)) (fun w52 x43 zw52 => ?_)))
  refine Z.h ⟨(((((((((b38.upd1 x36).upd1 x37).upd1 x38).upd1 x39).upd1 x40).upd1 x41).ext x42).upd1 u8).ext x43), (b46.ext x43)⟩ (fun hS9 => ?_)
  refine Z.tl 0 0 (.agg #[Z.n t4.k, Z.n t4.a, .string t4.nm, .int .i64 t4.n, .slice A5 t4.ks.length c5]) (fun _ hs => hs.1) hS9 ?_
  refine Z.t 1 (Z.n q19.a) hS9 ?_
  refine Z.t 2 (.string nm5) hS9 ?_
  refine Z.tl 3 0 (.agg #[Z.n t5.k, Z.n t5.a, .string t5.nm, .int .i64 t5.n, .slice A6 t5.ks.length c6]) (fun _ hs => hs.2) hS9 ?_
  refine Z.oR 4 (.cells #[Z.n t5.k, Z.n t5.a, .string t5.nm, .int .i64 t5.n, .slice A6 t5.ks.length c6] 24) 1 1 (fun k12 w53 l12 x44 b47 => ⟨⟨((((((((((b38.upd1 x36).upd1 x37).upd1 x38).upd1 x39).upd1 x40).upd1 x41).ext x42).upd1 u8).ext x43).ext x44), ((b46.ext x43).ext x44)⟩, ?_⟩)
  have zw53 := x44.size
  have tb47 := b47.lt
  refine Z.o 5 (fun R hR => named_c (21 : Int) ((q19.a : Nat) : Int) nm5 (some (⟨k12, 0, none⟩ : Addr)) 1 1 _ R (fun w54 x45 => hR _ _ ⟨⟨(((((((((((b38.upd1 x36).upd1 x37).upd1 x38).upd1 x39).upd1 x40).upd1 x41).ext x42).upd1 u8).ext x43).ext x44).ext x45), (((b46.ext x43).ext x44).ext x45)⟩, fun hS10 => ?_⟩))
  have zw54 := x45.size
  refine Z.oR 6 (.cells #[Z.n t4.k, Z.n t4.a, .string t4.nm, .int .i64 t4.n, .slice A5 t4.ks.length c5, .int .i64 21, Z.n q19.a, .string nm5, .int .i64 0, .slice (some ⟨k12, 0, none⟩) 1 1] 24) 2 2 (fun k13 w55 l13 x46 b48 => ⟨⟨((((((((((((b38.upd1 x36).upd1 x37).upd1 x38).upd1 x39).upd1 x40).upd1 x41).ext x42).upd1 u8).ext x43).ext x44).ext x45).ext x46), ((((b46.ext x43).ext x44).ext x45).ext x46)⟩, ?_⟩)
  have zw55 := x46.size
  have tb48 := b48.lt
  refine Z.h ⟨((((((((((((b38.upd1 x36).upd1 x37).upd1 x38).upd1 x39).upd1 x40).upd1 x41).ext x42).upd1 u8).ext x43).ext x44).ext x45).ext x46), ((((b46.ext x43).ext x44).ext x45).ext x46)⟩ (fun hS11 => ?_)
  refine Z.t 7 (.slice (some ⟨k13, 0, none⟩) 2 2) hS11 ?_
  refine Z.q ?_
  refine Z.x (wp_seq (wp_block ?_))
  have hbv : ∀ j, (.slice (some ⟨k13, 0, none⟩) 2 2 : Value).ownBlock = some j → j < 0 ∨ j = k13 := fun j e => by cases e; exact .inr rfl
  refine Gx.loop (n' := 99) (d' := []) (fun mz l' w' => ∃ (j : Nat) (p : Rs) (v : Value) (L : List (Nd × Option Addr × Nat)), l' = [(0, Z.P b 0), (1, Z.n at_), (4, Z.P k1 0), (5, .bool (isB q (Z.B [104, 97, 110, 100, 108, 101]))), (11, v)] ∧ mz = M S p ∧ Gx.G w w' (some b) ∧ Gx.Has w' b (.cells #[.string S, Z.n p.k, Z.n p.a, .string p.t, Z.n p.n, Z.n p.e, Z.n p.fk, Z.n p.fa, Z.n p.x, Z.n p.y] 41) ∧ Gx.Has w' k1 (.cells #[.int .i64 0, .int .i64 0, .string Z.E, .int .i64 0, .slice none 0 0] 24) ∧ Gx.Has w' k10 (.cells #[Z.n t4.k, Z.n t4.a, .string t4.nm, .int .i64 t4.n, .slice A5 t4.ks.length c5] 24) ∧ Gx.Has w' k11 (.cells #[Z.n t5.k, Z.n t5.a, .string t5.nm, .int .i64 t5.n, .slice A6 t5.ks.length c6] 24) ∧ (j ≤ k) ∧ (16 * M S p + 12 ≤ j) ∧ (run S j (.handL (nds L)) p = run S k (.handL [t4, (Nd.mk 21 q19.a nm5 (0 : Int) [t5])]) q23) ∧ (Ok S p) ∧ (w'.ownsRow k13 24 5 v L.length (flat L)) ∧ (∀ p' ∈ L, KV (InV w.heap.size w'.heap.size [k1, k10, k11] v) w' p'.1.ks p'.2.1 p'.2.2) ∧ (L.length + M S p ≤ 4000) ∧ (M S p ≤ M S q23) ∧ (p.x = q23.x ∧ p.y = q23.y) ∧ (k13 ≤ w'.heap.size)) _ _ [(0, Z.P b 0), (1, Z.n at_), (4, Z.P k1 0), (5, .bool (isB q (Z.B [104, 97, 110, 100, 108, 101]))), (11, (.slice (some ⟨k13, 0, none⟩) 2 2 : Value))] (Gx.forget [(0, Z.P b 0), (1, Z.n at_), (4, Z.P k1 0), (5, .bool (isB q (Z.B [104, 97, 110, 100, 108, 101]))), (11, (.slice (some ⟨k13, 0, none⟩) 2 2 : Value))] (by kernel_rfl)) ⟨k, q23, (.slice (some ⟨k13, 0, none⟩) 2 2 : Value), [(t4, A5, c5), ((Nd.mk 21 q19.a nm5 (0 : Int) [t5]), (some (⟨k12, 0, none⟩ : Addr)), 1)], rfl, rfl, (gb_ext (gb_ext (gb_ext (gb_ext (gb_new (gb_ext (gb_upd (gb_upd (gb_upd (gb_upd (gb_upd (gb_upd (gb_new (gb_ext (gb_upd (gb_upd (gb_ext (gb_refl w b) x1) x2) x34) x35) u7) x36) x37) x38) x39) x40) x41) x42) u8) x43) x44) x45) x46), ((((((b44.ext x42).upd1 u8).ext x43).ext x44).ext x45).ext x46), ((((((((((((((((b1.upd1 x2).upd1 x34).ext x35).upd1 u7).upd1 x36).upd1 x37).upd1 x38).upd1 x39).upd1 x40).upd1 x41).ext x42).upd1 u8).ext x43).ext x44).ext x45).ext x46), ((((((((((((b38.upd1 x36).upd1 x37).upd1 x38).upd1 x39).upd1 x40).upd1 x41).ext x42).upd1 u8).ext x43).ext x44).ext x45).ext x46), ((((b46.ext x43).ext x44).ext x45).ext x46), (Nat.le_refl _), (by omega), rfl, ok23, (Gx.own_row (n := 2) b48 rfl (by unfold maxLen; omega)), (by intro p hp; simp only [List.mem_cons, List.not_mem_nil, or_false] at hp; rcases hp with rfl | rfl; exact (KV.topV (KV.ofIn ((((((((((((((kv5.ext x35).upd u7).upd x36).upd x37).upd x38).upd x39).upd x40).upd x41).ext x42).upd u8).ext x43).ext x44).ext x45).ext x46) (fun j e => by rcases hbv j e with q | q <;> omega)) (by omega) (by intro j hj; simp only [List.mem_cons, List.not_mem_nil, or_false] at hj ⊢; omega)); exact (KV.of_row [(t5, A6, c6)] (n := 5) ((b47.ext x45).ext x46) rfl ⟨⟨by omega, by omega, (by simp only [List.mem_cons, List.not_mem_nil, or_false, not_or]; omega)⟩, fun e => by rcases hbv _ e with q | q <;> omega⟩ (by intro p hp; simp only [List.mem_cons, List.not_mem_nil, or_false] at hp; subst hp; exact (KV.topV (KV.ofIn ((((((kv6.ext x42).upd u8).ext x43).ext x44).ext x45).ext x46) (fun j e => by rcases hbv j e with q | q <;> omega)) (by omega) (by intro j hj; simp only [List.mem_cons, List.not_mem_nil, or_false] at hj ⊢; omega))))), (by have := M_le ok23; show 2 + _ ≤ _; omega), (Nat.le_refl _), ⟨rfl, rfl⟩, (by omega)⟩ (fun bb2 m25 ll2 w56 hI2 K2 hK2 => ?_)
  obtain ⟨j, p, v, L, rfl, rfl, x47, b49, b50, b51, b52, hj, hm, hr, ho, how, hks, hlen, hM, hxy, hbs⟩ := hI2
  have zw56 := x47.size
  have tb49 := b49.lt
  have tb50 := b50.lt
  have tb51 := b51.lt
  have tb52 := b52.lt
  obtain ⟨i, rfl⟩ : ∃ i, j = i + 1 := ⟨j - 1, by omega⟩
  refine wp_seq (Z.r [0, 1] ?_)
  refine Z.p [0] [1] [(55, Z.P b 0)] ?_
  refine Z.k (fun R hR => has_c b S p (Z.B [124]) _ R b49 ho (fun w57 q24 e25 x48 b53 => hR _ _ ?_))
  have zw57 := x48.size
  have tb53 := b53.lt
  obtain ⟨ok24, m26, tr24x, tr24y⟩ : Tr S p q24 := e25 ▸ has_tr ho
  refine Z.e (Z.c (isB p (Z.B [124])) (fun h_c56 => ?_) (fun h_c56 => ?_))
  · skip
    refine wp_skip (Z.x (wp_block (Z.r [0, 1, 2, 3, 4, 5, 6] ?_)))
    refine Z.p [0] [1, 2, 3, 4, 5, 6] [(58, Z.P b 0)] ?_
    refine Z.k (fun R hR => name_c b S q24 _ R b53 ok24 (fun w58 nm6 na6 q25 e26 x49 b54 => hR _ _ ?_))
    have zw58 := x49.size
    have tb54 := b54.lt
    obtain ⟨ok25, m27, tr25x, tr25y⟩ : Tr S q24 q25 := by have := name_tr ok24; rw [e26] at this; exact this
    refine Z.p [2, 3, 4, 5, 6] [] [(13, Z.n na6), (12, .string nm6), (61, Z.n na6), (60, .string nm6), (57, .tuple #[.string nm6, Z.n na6])] ?_
    refine Z.e (Z.r [0, 1, 2, 3, 4, 5, 6] ?_)
    refine Z.p [0] [1, 2, 3, 4, 5, 6] [(63, Z.P b 0)] ?_
    refine Z.k (fun R hR => name_c b S q25 _ R b54 ok25 (fun w59 nm7 na7 q26 e27 x50 b55 => hR _ _ ?_))
    have zw59 := x50.size
    have tb55 := b55.lt
    obtain ⟨ok26, m28, tr26x, tr26y⟩ : Tr S q25 q26 := by have := name_tr ok25; rw [e27] at this; exact this
    refine Z.p [2, 3, 4, 5, 6] [] [(15, Z.n na7), (14, .string nm7), (66, Z.n na7), (65, .string nm7), (62, .tuple #[.string nm7, Z.n na7])] ?_
    refine Z.e (Z.r [0, 1, 2, 3, 4, 5, 6] ?_)
    refine Z.p [0] [1, 2, 3, 4, 5, 6] [(68, Z.P b 0)] ?_
    refine Z.k (fun R hR => name_c b S q26 _ R b55 ok26 (fun w60 nm8 na8 q27 e28 x51 b56 => hR _ _ ?_))
    have zw60 := x51.size
    have tb56 := b56.lt
    obtain ⟨ok27, m29, tr27x, tr27y⟩ : Tr S q26 q27 := by have := name_tr ok26; rw [e28] at this; exact this
    refine Z.p [2, 3, 4, 5, 6] [] [(17, Z.n na8), (16, .string nm8), (71, Z.n na8), (70, .string nm8), (67, .tuple #[.string nm8, Z.n na8])] ?_
    refine Z.e (Z.r [0, 1] ?_)
    refine Z.p [0] [1] [(72, Z.P b 0)] ?_
    refine Z.k (fun R hR => must_c b S q27 (Z.B [61, 62]) _ R b56 ok27 (fun w61 q28 e29 x52 b57 => hR _ _ ?_))
    have zw61 := x52.size
    have tb57 := b57.lt
    obtain ⟨ok28, m30, tr28x, tr28y⟩ : Tr S q27 q28 := e29 ▸ must_tr ok27
    refine Z.e (Z.r [0, 1, 2, 3] ?_)
    refine Z.p [0] [1, 2, 3] [(74, Z.P b 0)] ?_
    have lt3 := (by have := has_lt ho h_c56; rw [e25] at this; exact this : M S q24 < M S p)
    refine Z.k (fun R hR => (ih i (by omega)).f_expr b S q28 _ R b57 ok28 (by omega) (fun w62 t6 A7 c7 q29 e30 x53 b58 kv7 => hR _ _ ?_))
    have zw62 := x53.size
    have tb58 := b58.lt
    obtain ⟨ok29, m31, tr29x, tr29y⟩ : Tr S q28 q29 := run_facts ok28 e30
    refine Z.N (.cells #[.int .i64 0, .int .i64 0, .string Z.E, .int .i64 0, .slice none 0 0] 24) (fun k14 w63 l14 x54 b59 zw63 tb59 => ?_)
    refine Z.Sa #[Z.n t6.k, Z.n t6.a, .string t6.nm, .int .i64 t6.n, .slice A7 t6.ks.length c7] b59 (fun w64 u9 b60 zw64 => ?_)
    refine Z.e (Z.D (fun w' => Gx.Has w' k14 (.cells #[Z.n t6.k, Z.n t6.a, .string t6.nm, .int .i64 t6.n, .slice A7 t6.ks.length c7] 24)) (fun w65 x55 zw65 => ?_))
    refine Z.h (b60.ext x55) (fun hS12 => ?_)
    refine Z.t 0 (v) hS12 ?_
    refine Z.t 1 (Z.n na6) hS12 ?_
    refine Z.t 2 (.string nm6) hS12 ?_
    refine Z.t 3 (Z.n na7) hS12 ?_
    refine Z.t 4 (.string nm7) hS12 ?_
    refine Z.t 6 (Z.n na8) hS12 ?_
    refine Z.t 7 (.string nm8) hS12 ?_
    refine Z.tl 9 0 (.agg #[Z.n t6.k, Z.n t6.a, .string t6.nm, .int .i64 t6.n, .slice A7 t6.ks.length c7]) (fun _ hs => hs) hS12 ?_
    refine Z.o 5 (fun R hR => named_c (23 : Int) ((na7 : Nat) : Int) nm7 none 0 0 _ R (fun w66 x56 => hR _ _ ⟨((b60.ext x55).ext x56), fun hS13 => ?_⟩))
    have zw66 := x56.size
    refine Z.o 8 (fun R hR => named_c (23 : Int) ((na8 : Nat) : Int) nm8 none 0 0 _ R (fun w67 x57 => hR _ _ ⟨(((b60.ext x55).ext x56).ext x57), fun hS14 => ?_⟩))
    have zw67 := x57.size
    refine Z.oR 10 (.cells #[.int .i64 23, Z.n na7, .string nm7, .int .i64 0, .slice none 0 0, .int .i64 23, Z.n na8, .string nm8, .int .i64 0, .slice none 0 0, Z.n t6.k, Z.n t6.a, .string t6.nm, .int .i64 t6.n, .slice A7 t6.ks.length c7] 24) 3 3 (fun k15 w68 l15 x58 b61 => ⟨((((b60.ext x55).ext x56).ext x57).ext x58), ?_⟩)
    have zw68 := x58.size
    have tb61 := b61.lt
    refine Z.o 11 (fun R hR => named_c (22 : Int) ((na6 : Nat) : Int) nm6 (some (⟨k15, 0, none⟩ : Addr)) 3 3 _ R (fun w69 x59 => hR _ _ ⟨(((((b60.ext x55).ext x56).ext x57).ext x58).ext x59), fun hS15 => ?_⟩))
    have zw69 := x59.size
    refine Z.oR 12 (.cells #[.int .i64 22, Z.n na6, .string nm6, .int .i64 0, .slice (some ⟨k15, 0, none⟩) 3 3] 24) 1 1 (fun k16 w70 l16 x60 b62 => ⟨((((((b60.ext x55).ext x56).ext x57).ext x58).ext x59).ext x60), ?_⟩)
    have zw70 := x60.size
    have tb62 := b62.lt
    refine Gx.any_one 13 (by kernel_rfl) (Gx.op_appendAt rfl (by kernel_rfl) rfl 24 5 64 (by kernel_rfl) (by kernel_rfl) (by kernel_rfl) (k13) (by kernel_rfl) (Gx.own_ext (Gx.own_ext (Gx.own_ext (Gx.own_ext (Gx.own_ext (Gx.own_ext (Gx.own_upd1 (Gx.own_ext (Gx.own_upd1 (Gx.own_upd1 (Gx.own_upd1 (Gx.own_upd1 (Gx.own_upd1 (Gx.own_upd1 how x48 (fun q e => by have := how.lt q e; omega)) x49 (fun q e => by have := how.lt q e; omega)) x50 (fun q e => by have := how.lt q e; omega)) x51 (fun q e => by have := how.lt q e; omega)) x52 (fun q e => by have := how.lt q e; omega)) x53 (fun q e => by have := how.lt q e; omega)) x54) u9 (fun q e => by have := how.lt q e; omega)) x55) x56) x57) x58) x59) x60) 0 1 1 (by kernel_rfl) b62 [.int .i64 22, Z.n na6, .string nm6, .int .i64 0, .slice (some ⟨k15, 0, none⟩) 3 3] rfl rfl (List.all_eq_true.1 rfl) (by unfold maxLen; omega) (by omega) (by omega) (fun v2 w71 ow2 g2 nl2 => ⟨(((((((b60.ext x55).ext x56).ext x57).ext x58).ext x59).ext x60).upd g2 (fun e => by have := (how).lt _ e.symm; omega)), ?_⟩))
    have zw71 := g2.size
    have hbx2 : ∀ j, v2.ownBlock = some j → (j < w56.heap.size ∧ k13 ≤ j) ∨ j = w70.heap.size := fun j e => by rcases nl2 with q | q; (rw [q] at e; have := (how).lt j e; exact .inl ⟨by omega, by omega⟩); (rw [q] at e; cases e; exact .inr rfl)
    have owx2 : w71.ownsRow k13 24 5 v2 (L ++ [((Nd.mk 22 na6 nm6 (0 : Int) [(Nd.mk 23 na7 nm7 (0 : Int) []), (Nd.mk 23 na8 nm8 (0 : Int) []), t6]), (some (⟨k15, 0, none⟩ : Addr)), 3)]).length (flat (L ++ [((Nd.mk 22 na6 nm6 (0 : Int) [(Nd.mk 23 na7 nm7 (0 : Int) []), (Nd.mk 23 na8 nm8 (0 : Int) []), t6]), (some (⟨k15, 0, none⟩ : Addr)), 3)])) := by rw [flat_snoc, List.length_append]; exact ow2
    have hkx2 : ∀ p' ∈ (L ++ [((Nd.mk 22 na6 nm6 (0 : Int) [(Nd.mk 23 na7 nm7 (0 : Int) []), (Nd.mk 23 na8 nm8 (0 : Int) []), t6]), (some (⟨k15, 0, none⟩ : Addr)), 3)]), KV (InV w.heap.size w71.heap.size [k1, k10, k11] v2) w71 p'.1.ks p'.2.1 p'.2.2 := by intro p' hp'; simp only [List.mem_append, List.mem_cons, List.not_mem_nil, or_false] at hp'; rcases hp' with h0 | rfl; exact (KV.topV ((((((((((((((((((hks p' h0).updV x48).updV x49).updV x50).updV x51).updV x52).updV x53).extV x54).updV u9).extV x55).extV x56).extV x57).extV x58).extV x59).extV x60)).appV g2).toV nl2 (by omega)) (by omega) (by intro j hj; simp only [List.mem_cons, List.not_mem_nil, or_false] at hj ⊢; omega)); exact (KV.of_row [((Nd.mk 23 na7 nm7 (0 : Int) []), none, 0), ((Nd.mk 23 na8 nm8 (0 : Int) []), none, 0), (t6, A7, c7)] (n := 15) (((b61.ext x59).ext x60).upd g2 (fun e => by have := (how).lt _ e.symm; omega)) rfl ⟨⟨by omega, by omega, (by simp only [List.mem_cons, List.not_mem_nil, or_false, not_or]; omega)⟩, fun e => by rcases hbx2 _ e with q | q <;> omega⟩ (by intro p hp; simp only [List.mem_cons, List.not_mem_nil, or_false] at hp; rcases hp with rfl | rfl | rfl; exact KV.nil; exact KV.nil; exact (KV.topV (KV.ofIn (((((((((kv7.ext x54).upd u9).ext x55).ext x56).ext x57).ext x58).ext x59).ext x60).app g2 (fun j e => by have := ((Gx.own_ext (Gx.own_ext (Gx.own_ext (Gx.own_ext (Gx.own_ext (Gx.own_ext (Gx.own_upd1 (Gx.own_ext (Gx.own_upd1 (Gx.own_upd1 (Gx.own_upd1 (Gx.own_upd1 (Gx.own_upd1 (Gx.own_upd1 how x48 (fun q e => by have := how.lt q e; omega)) x49 (fun q e => by have := how.lt q e; omega)) x50 (fun q e => by have := how.lt q e; omega)) x51 (fun q e => by have := how.lt q e; omega)) x52 (fun q e => by have := how.lt q e; omega)) x53 (fun q e => by have := how.lt q e; omega)) x54) u9 (fun q e => by have := how.lt q e; omega)) x55) x56) x57) x58) x59) x60)).lt j e; have := (how).lt j e; first | (left; omega) | (right; left; omega))) (fun j e => by rcases hbx2 j e with q | q <;> omega)) (by omega) (by intro j hj; simp only [List.mem_cons, List.not_mem_nil, or_false] at hj ⊢; omega))))
    refine Z.h (((((((b60.ext x55).ext x56).ext x57).ext x58).ext x59).ext x60).upd g2 (fun e => by have := (how).lt _ e.symm; omega)) (fun hS16 => ?_)
    refine Z.t 14 (v2) hS16 ?_
    refine Z.q ?_
    refine Gx.block_normal (Z.x ?_)
    rw [Gx.forget [(0, Z.P b 0), (1, Z.n at_), (4, Z.P k1 0), (5, .bool (isB q (Z.B [104, 97, 110, 100, 108, 101]))), (11, v2)] (by kernel_rfl)]
    exact hK2 _ _ _ _ (by omega) ⟨i, q29, v2, (L ++ [((Nd.mk 22 na6 nm6 (0 : Int) [(Nd.mk 23 na7 nm7 (0 : Int) []), (Nd.mk 23 na8 nm8 (0 : Int) []), t6]), (some (⟨k15, 0, none⟩ : Addr)), 3)]), rfl, rfl, (gb_app (gb_ext (gb_ext (gb_ext (gb_ext (gb_ext (gb_ext (gb_new (gb_ext (gb_upd (gb_upd (gb_upd (gb_upd (gb_upd (gb_upd (gb_upd (gb_refl w b) x47) x48) x49) x50) x51) x52) x53) x54) u9) x55) x56) x57) x58) x59) x60) g2 (fun j e => by have := ((Gx.own_ext (Gx.own_ext (Gx.own_ext (Gx.own_ext (Gx.own_ext (Gx.own_ext (Gx.own_upd1 (Gx.own_ext (Gx.own_upd1 (Gx.own_upd1 (Gx.own_upd1 (Gx.own_upd1 (Gx.own_upd1 (Gx.own_upd1 how x48 (fun q e => by have := how.lt q e; omega)) x49 (fun q e => by have := how.lt q e; omega)) x50 (fun q e => by have := how.lt q e; omega)) x51 (fun q e => by have := how.lt q e; omega)) x52 (fun q e => by have := how.lt q e; omega)) x53 (fun q e => by have := how.lt q e; omega)) x54) u9 (fun q e => by have := how.lt q e; omega)) x55) x56) x57) x58) x59) x60)).lt j e; omega)), (((((((((b58.ext x54).upd1 u9).ext x55).ext x56).ext x57).ext x58).ext x59).ext x60).upd g2 (fun e => by have := (how).lt _ e.symm; omega)), (((((((((((((((b50.upd1 x48).upd1 x49).upd1 x50).upd1 x51).upd1 x52).upd1 x53).ext x54).upd1 u9).ext x55).ext x56).ext x57).ext x58).ext x59).ext x60).upd g2 (fun e => by have := (how).lt _ e.symm; omega)), (((((((((((((((b51.upd1 x48).upd1 x49).upd1 x50).upd1 x51).upd1 x52).upd1 x53).ext x54).upd1 u9).ext x55).ext x56).ext x57).ext x58).ext x59).ext x60).upd g2 (fun e => by have := (how).lt _ e.symm; omega)), (((((((((((((((b52.upd1 x48).upd1 x49).upd1 x50).upd1 x51).upd1 x52).upd1 x53).ext x54).upd1 u9).ext x55).ext x56).ext x57).ext x58).ext x59).ext x60).upd g2 (fun e => by have := (how).lt _ e.symm; omega)), (by omega), (by omega), (by rw [← hr, run_succ]; simp only [stepN, handLS, e25, e26, e27, e28, e29, e30, h_c23, h_c56, n_c23, Z.ifs, reduceIte, nds_app, nds_cons, nds_nil, nds_len]), ok29, owx2, (fun p' h0 => KV.topV (hkx2 p' h0) (by omega) (by intro j hj; simp only [List.mem_cons, List.not_mem_nil, or_false] at hj ⊢; omega)), (by rw [List.length_append]; show L.length + 1 + _ ≤ _; omega), (by omega), ⟨by omega, by omega⟩, (by omega)⟩
  refine wp_exit (Gx.then_exit (Gx.then_exit (Gx.block_exit (Z.x ?_))))
  have e31 : run S k (.handL [t4, (Nd.mk 21 q19.a nm5 (0 : Int) [t5])]) q23 = ((Nd.mk 0 0 Z.E 0 (nds L)), q24) := by rw [← hr, run_succ]; simp only [stepN, handLS, e25, h_c23, h_c56, n_c23, Z.ifs, reduceIte, nds_app, nds_cons, nds_nil, nds_len]
  refine Z.r [0, 1] ?_
  refine Z.p [0] [1] [(90, Z.P b 0)] ?_
  refine Z.k (fun R hR => must_c b S q24 (Z.B [125]) _ R b53 ok24 (fun w72 q30 e32 x61 b63 => hR _ _ ?_))
  have zw72 := x61.size
  have tb63 := b63.lt
  obtain ⟨ok30, m32, tr30x, tr30y⟩ : Tr S q24 q30 := e32 ▸ must_tr ok24
  refine Z.e (Z.r [0, 1, 2, 3, 4] ?_)
  refine Z.p [0, 1] [2, 3, 4] [(93, v), (92, Z.n at_)] ?_
  obtain ⟨A8, c8, rfl, kv8⟩ := KV.of_own (Q := In w.heap.size w72.heap.size [k1, k10, k11]) L (Gx.own_upd1 (Gx.own_upd1 how x48 (fun q e => by have := how.lt q e; omega)) x61 (fun q e => by have := how.lt q e; omega)) (fun j e => by have := ((Gx.own_upd1 (Gx.own_upd1 how x48 (fun q e => by have := how.lt q e; omega)) x61 (fun q e => by have := how.lt q e; omega))).lt j e; exact ⟨by omega, by omega, (by simp only [List.mem_cons, List.not_mem_nil, or_false, not_or]; omega)⟩) (fun p' h0 => ((fun p' h0 => KV.topV (((hks p' h0).updV x48).updV x61) (by omega) (by intro j hj; simp only [List.mem_cons, List.not_mem_nil, or_false] at hj ⊢; omega)) p' h0).noV)
  refine Z.k (fun R hR => Node_c (20 : Int) ((at_ : Nat) : Int) A8 ((nds L).length) c8 _ R (fun w73 x62 => hR _ _ ?_))
  have zw73 := x62.size
  refine Z.N (.cells #[.int .i64 0, .int .i64 0, .string Z.E, .int .i64 0, .slice none 0 0] 24) (fun k17 w74 l17 x63 b64 zw74 tb64 => ?_)
  refine Z.Sa #[.int .i64 20, Z.n at_, .string Z.E, .int .i64 0, .slice A8 ((nds L).length) c8] b64 (fun w75 u10 b65 zw75 => ?_)
  refine Z.e (wp_seq (Z.s [(96, .bool (!(isB q (Z.B [104, 97, 110, 100, 108, 101])))), (95, .bool (isB q (Z.B [104, 97, 110, 100, 108, 101])))] ?_))
  refine Z.c (!(isB q (Z.B [104, 97, 110, 100, 108, 101]))) (fun hk_ => absurd (h_c23.symm.trans hk_) (by decide)) (fun hk_ => ?_)
  refine wp_skip (Z.x (Z.r [0, 1] ?_))
  refine Z.L 0 (.agg #[.int .i64 20, Z.n at_, .string Z.E, .int .i64 0, .slice A8 ((nds L).length) c8]) b65 ?_
  refine Z.Sa #[.int .i64 20, Z.n at_, .string Z.E, .int .i64 0, .slice A8 ((nds L).length) c8] (((((b50.upd1 x48).upd1 x61).ext x62).ext x63).upd1 u10) (fun w76 u11 b66 zw76 => ?_)
  refine Z.e (wp_ret (Gx.ret (Gx.res_c (u := .agg #[.int .i64 20, Z.n at_, .string Z.E, .int .i64 0, .slice A8 ((nds L).length) c8]) rfl (by kernel_rfl) b66 (by kernel_rfl)) ?_))
  exact hK _ (Nd.mk 20 at_ Z.E (0 : Int) (nds L)) A8 c8 q30 (by rw [run_succ]; simp only [stepN, handleS, handT, Nd.ks, nds_app, nds_cons, nds_nil, nds_len, e1, e18, e19, e20, e21, e22, e23, e24, e31, e32, h_c23, h_c56, n_c23, Z.ifs, reduceIte]) (gb_new (gb_new (gb_ext (gb_ext (gb_upd (gb_upd (gb_upd (gb_refl w b) x47) x48) x61) x62) x63) u10) u11) ((((b63.ext x62).ext x63).upd1 u10).upd1 u11) (KV.top ((((kv8.ext x62).ext x63).upd u10).upd u11))
end Doc
end Go.Proofs.Ytinilkomfggjiaa
